/-
  Contracts of nat.trim, slices.Clone at limbs, nat.Trim, nat.Of, nat.Cmp.
-/
import Derived.Test.YtekhnajfdaknnaaRd
import Derived.Deep.QuietTactic
import Derived.BigQuiet
namespace Go.Proofs.Ytekhnajfdaknnaa
open Go.RowKit

set_option maxRecDepth 100000 in
set_option maxHeartbeats 400000 in
theorem trim_any (ao : Option Addr) (n c : Nat) (zs : List Nat) (w : World) (hn : n = zs.length) (h : Rd w ao c zs) :
    Calls Try.prog 74 #[.slice ao n c] w fun e w' => e = .returned (.slice ao (trm zs).length c) ∧ w = w' := by
  subst hn
  have hix := ixn h
  obtain ⟨hcap, hmx, _, hlb, had, hcell⟩ := h
  rw [trm_length]
  go_enter Try.func74, Try.ntmps74
  go_wp2
  go_loop [3] (fun k => ∃ m : Nat, m ≤ zs.length ∧ k = .int .i64 m ∧ trimN zs zs.length = trimN zs m) (fun k => (intOf k).toNat)
  case atStart => exact ⟨zs.length, Nat.le_refl _, rfl, rfl⟩
  case round =>
    obtain ⟨m, hm, rfl, ht⟩ := hrel
    have Ht := Lib.hid ht
    clear ht
    rcases m with _ | m
    · go_wp2
      go_ret
      exact ⟨by rw [Ht.out]; rfl, rfl⟩
    · have hx := hcell m (by omega)
      have hm' : m < zs.length := by omega
      go_wp2
      · go_round
        case rel => exact ⟨m, by omega, rfl, by rw [Ht.out, trimN_z (by assumption)]⟩
        case measure => simp [intOf]
      · go_ret
        exact ⟨by rw [Ht.out, trimN_nz (by assumption)]; rfl, rfl⟩

set_option maxRecDepth 100000 in
set_option maxHeartbeats 400000 in
theorem clone_any (ao : Option Addr) (n c : Nat) (zs : List Nat) (w : World) (hn : n = zs.length) (h : Rd w ao c zs) (hl : zs.length ≤ 1000000000) :
    Calls Try.prog 81 #[.slice ao n c] w fun e w' => ∃ ao' c', e = .returned (.slice ao' zs.length c') ∧ Own w' w.heap.size ao' c' zs ∧ Ext w w' := by
  subst hn
  obtain ⟨hcap, hmx, hnl, hlb, had, hcell⟩ := h
  rcases ao with _ | a
  · obtain rfl : c = 0 := hnl rfl
    have : zs = [] := by
      rcases Nat.eq_zero_or_pos zs.length with h0 | hp
      · exact List.length_eq_zero_iff.1 h0
      · have := had hp; simp at this
    subst this
    have hnil := fun (w : World) => Lib.run_eql_slice_nil (P := Try.prog) w 24 62 none 0 0 0 0 und
    go_enter Try.func81, Try.ntmps81
    go_wp2
    go_ret
    exact ⟨none, 0, rfl, Own.nil _ _, Ext.refl _⟩
  · obtain ⟨i0, hi, hz0, hz1, hz2⟩ := info_parts info32
    have hnil := fun (w : World) => Lib.run_eql_slice_nil (P := Try.prog) w 24 62 (some a) zs.length c 0 0 und
    go_enter Try.func81, Try.ntmps81
    go_wp2_with (at_builtin; refine wpList_append_own _ rfl _ _ 24 rfl w.heap.size 62 i0 (.int .u32 0) 1 4 und hi hz0 hz1 hz2 rfl (by decide) _ _ _ rfl (World.ownsRow_made w #[] 0 (Nat.le_refl _) (Nat.zero_le _) (by rfl)) a zs.length c (zs.map fun (x : Nat) => Value.int .u32 (x : Int)) rfl (by simp) ?c1 ?c2 ?c3 ?c4 ?c5 ?_)
    case c1 =>
      intro j u hj
      have hlt : j < zs.length := by have := (List.getElem?_eq_some_iff.1 hj).1; simpa using this
      rw [List.getElem?_map, lim_map_at hlt] at hj
      simp at hj
      subst hj
      have h0 := hcell j hlt
      have h1 := had (by omega)
      simp only [bk, of, Option.some.injEq] at h0 h1
      have h2 : a.add j = ⟨a.block, a.off + j, none⟩ := by
        unfold Addr.add
        split
        · rename_i e0; rw [e0]; exact h1
        · rfl
      rw [h2]
      exact (World.cell?_alloc_lt w _ _ (World.block_lt_of_cell? w _ h0)).trans h0
    case c2 => intro u hu; simp at hu; obtain ⟨x, _, rfl⟩ := hu; rfl
    case c3 => unfold maxLen; omega
    case c4 => omega
    case c5 => simp
    intro v' w' hown' hgrow _
    have he : Ext w w' := ((Ext.refl w).alloc _).grown hgrow (fun k hk => by simp [Value.ownBlock] at hk; omega)
    rcases hown'.2 with ⟨hv, hn⟩ | ⟨g, cap, cur, hv, hb, hg, hnc, hcm, hcs, htake⟩
    · have : zs = [] := List.length_eq_zero_iff.1 (by omega)
      subst this
      subst hv
      go_wp2
      go_ret
      exact ⟨none, 0, rfl, Own.nil _ _, he⟩
    · have hown2 : Own w' w.heap.size (some ⟨g, 0, none⟩) cap zs := ⟨hlb, by subst hv; simpa using hown'⟩
      subst hv
      go_wp2
      go_ret
      exact ⟨_, _, by simp, hown2, he⟩

set_option maxRecDepth 100000 in
set_option maxHeartbeats 400000 in
theorem Trim_any (ao : Option Addr) (n c : Nat) (zs : List Nat) (w : World) (hn : n = zs.length) (h : Rd w ao c zs) (hl : zs.length ≤ 1000000000) :
    Calls Try.prog 73 #[.slice ao n c] w fun e w' => ∃ ao' c', e = .returned (.slice ao' (trm zs).length c') ∧ Own w' w.heap.size ao' c' (trm zs) ∧ Ext w w' := by
  subst hn
  go_enter Try.func73, Try.ntmps73
  go_wp2_with fail
  refine (trim_any ao _ c zs w rfl h).mono ?_
  rintro e w' ⟨rfl, rfl⟩
  go_wp2_with fail
  refine (clone_any ao _ c (trm zs) w rfl h.trm (Nat.le_trans (trm_le _) hl)).mono ?_
  rintro e w' ⟨ao', c', rfl, hown, hext⟩
  go_wp2_with fail
  go_ret
  exact ⟨ao', c', rfl, hown, hext⟩

/-- a number as it is answered: canonical limbs in new memory -/
def GotN (w : World) (m : Nat) (e : Ending) (w' : World) : Prop := ∃ ao c zs, e = .returned (.slice ao zs.length c) ∧ Own w' w.heap.size ao c zs ∧ Canon zs ∧ val zs = m ∧ Ext w w'

theorem Trim_got (ao : Option Addr) (n c : Nat) (zs : List Nat) (w : World) (hn : n = zs.length) (h : Rd w ao c zs) (hl : zs.length ≤ 1000000000) :
    Calls Try.prog 73 #[.slice ao n c] w (GotN w (val zs)) :=
  (Trim_any ao n c zs w hn h hl).mono fun _ _ ⟨ao', c', he, ho, hx⟩ => ⟨ao', c', trm zs, he, ho, canon_trm h.lb, val_trm zs, hx⟩

theorem GotN.from {w0 w : World} {m : Nat} {e : Ending} {w' : World} (h : GotN w m e w') (k : Ext w0 w) : GotN w0 m e w' :=
  let ⟨ao, c, zs, he, ho, hc, hv, hx⟩ := h
  ⟨ao, c, zs, he, ho.mono k.size, hc, hv, k.trans hx⟩

theorem row2 (w : World) (E F : Int) (x y : Nat) (hE : E = (x : Int)) (hF : F = (y : Int)) (hx : x < 4294967296) (hy : y < 4294967296) : Own (w.alloc (.cells #[.int .u32 E, .int .u32 F] 62)) w.heap.size (some ⟨w.heap.size, 0, none⟩) 2 [x, y] := by
  subst hE hF
  exact ⟨by intro z hz; simp at hz; omega, by simp, .inr ⟨w.heap.size, 2, _, rfl, Nat.le_refl _, heap_alloc_new w _, Nat.le_refl _, by unfold maxLen; omega, rfl, rfl⟩⟩

theorem row1 (w : World) (E : Int) (x : Nat) (hE : E = (x : Int)) (hx : x < 4294967296) : Own (w.alloc (.cells #[.int .u32 E] 62)) w.heap.size (some ⟨w.heap.size, 0, none⟩) 1 [x] := by
  subst hE
  exact ⟨by intro z hz; simp at hz; omega, by simp, .inr ⟨w.heap.size, 1, _, rfl, Nat.le_refl _, heap_alloc_new w _, Nat.le_refl _, by unfold maxLen; omega, rfl, rfl⟩⟩
theorem row3 (w : World) (E F G : Int) (x y z : Nat) (hE : E = (x : Int)) (hF : F = (y : Int)) (hG : G = (z : Int)) (hx : x < 4294967296) (hy : y < 4294967296) (hz : z < 4294967296) : Own (w.alloc (.cells #[.int .u32 E, .int .u32 F, .int .u32 G] 62)) w.heap.size (some ⟨w.heap.size, 0, none⟩) 3 [x, y, z] := by
  subst hE hF hG
  exact ⟨by intro u hu; simp at hu; omega, by simp, .inr ⟨w.heap.size, 3, _, rfl, Nat.le_refl _, heap_alloc_new w _, Nat.le_refl _, by unfold maxLen; omega, rfl, rfl⟩⟩

set_option maxRecDepth 100000 in
set_option maxHeartbeats 400000 in
theorem Of_any (E : Int) (h0 : 0 ≤ E) (h1 : E < 18446744073709551616) (w : World) :
    Calls Try.prog 66 #[.int .u64 E] w (GotN w E.toNat) := by
  obtain ⟨n, rfl⟩ := Int.eq_ofNat_of_zero_le h0
  rw [Int.toNat_natCast]
  have hn : n < 18446744073709551616 := by omega
  have hv : val [n % 4294967296, n / 4294967296] = n := by simp only [val]; omega
  have hv := Lib.hid hv
  go_enter Try.func66, Try.ntmps66
  go_wp2_with fail
  refine (Trim_got _ _ 2 [n % 4294967296, n / 4294967296] _ rfl (row2 w _ _ _ _ (by omega) (by omega) (by omega) (by omega)).rd (by simp)).mono ?_
  intro e w' hg
  rw [hv.out] at hg
  have hg' := hg.from ((Ext.refl w).alloc _)
  obtain ⟨ao, c, zs, rfl, h⟩ := hg'
  go_wp2_with fail
  go_ret
  exact ⟨ao, c, zs, rfl, h⟩

/-- reads alone: the tape may have moved -/
def Qt (w w' : World) : Prop := ∃ n, w' = w.drewN n
theorem Qt.refl (w : World) : Qt w w := ⟨0, rfl⟩
theorem Qt.drewN {w w' : World} (h : Qt w w') (n : Nat) : Qt w (w'.drewN n) := by
  obtain ⟨m, rfl⟩ := h
  exact ⟨m + n, by simp [World.drewN, Nat.add_assoc]⟩
theorem Qt.ext {w w' : World} (h : Qt w w') : Ext w w' := by
  obtain ⟨m, rfl⟩ := h
  exact (Ext.refl w).drewN m

set_option maxRecDepth 100000 in
set_option maxHeartbeats 400000 in
theorem Cmp_any (ao : Option Addr) (n c : Nat) (xs : List Nat) (bo : Option Addr) (m d : Nat) (ys : List Nat) (w : World) (hn : n = xs.length) (hm : m = ys.length) (ha : Rd w ao c xs) (hb : Rd w bo d ys) :
    Calls Try.prog 75 #[.slice ao n c, .slice bo m d] w fun e w' => e = .returned (.int .i64 (cmpI (val xs) (val ys))) ∧ Qt w w' := by
  subst hn hm
  have hA := ha.trm
  have hB := hb.trm
  have cA := canon_trm ha.lb
  have cB := canon_trm hb.lb
  have bA := hA.cap
  have bB := hB.cap
  have mA := hA.mx
  have mB := hB.mx
  rw [← val_trm xs, ← val_trm ys]
  by_cases h1 : (trm xs).length < (trm ys).length
  · have hres := cmpI_lt (canon_len_lt cA.1 cB h1)
    rw [hres]
    clear hres
    go_enter Try.func75, Try.ntmps75
    go_wp2_with fail
    refine (trim_any ao _ c xs w rfl ha).mono ?_
    rintro e w' ⟨rfl, rfl⟩
    go_wp2_with fail
    refine (trim_any bo _ d ys w rfl hb).mono ?_
    rintro e w' ⟨rfl, rfl⟩
    go_wp2_with fail
    go_ret
    exact ⟨rfl, Qt.refl _⟩
  by_cases h2 : (trm ys).length < (trm xs).length
  · have hres := cmpI_gt (canon_len_lt cB.1 cA h2)
    rw [hres]
    clear hres
    go_enter Try.func75, Try.ntmps75
    go_wp2_with fail
    refine (trim_any ao _ c xs w rfl ha).mono ?_
    rintro e w' ⟨rfl, rfl⟩
    go_wp2_with fail
    refine (trim_any bo _ d ys w rfl hb).mono ?_
    rintro e w' ⟨rfl, rfl⟩
    go_wp2_with fail
    go_ret
    exact ⟨rfl, Qt.refl _⟩
  have hiA := ixn hA
  have hiB := ixn hB
  go_enter Try.func75, Try.ntmps75
  go_wp2_with fail
  refine (trim_any ao _ c xs w rfl ha).mono ?_
  rintro e w' ⟨rfl, rfl⟩
  go_wp2_with fail
  refine (trim_any bo _ d ys w rfl hb).mono ?_
  rintro e w' ⟨rfl, rfl⟩
  go_wp2_with fail
  go_loopw [5] (fun i wr => ∃ k : Nat, k ≤ (trm xs).length ∧ i = .int .i64 ((k : Int) - 1) ∧ upEq (trm xs) (trm ys) k ∧ Qt w wr) (fun i _ => (intOf i + 1).toNat)
  case atStart => exact ⟨(trm xs).length, Nat.le_refl _, rfl, upEq_start (Nat.le_refl _) (by omega), Qt.refl _⟩
  case round =>
    obtain ⟨k, hk, rfl, hu, hq⟩ := hrel
    rcases k with _ | k
    · have hval := upEq_all hu
      go_wp2_with fail
      go_ret
      exact ⟨by rw [cmpI_eq hval]; rfl, hq⟩
    · have hx := (hA.ext hq.ext).cell k (by omega)
      have hy := (hB.ext hq.ext).cell k (by omega)
      have hkA : k < (trm xs).length := by omega
      have hkB : k < (trm ys).length := by omega
      by_cases h3 : lim (trm xs) k < lim (trm ys) k
      · have hres := Lib.hid (cmpI_lt (upEq_lt cA.1 hu h3))
        go_wp2_with fail
        go_quiet (fail)
        go_wp2_with fail
        go_ret
        exact ⟨by rw [hres.out]; rfl, hq.drewN _⟩
      by_cases h4 : lim (trm ys) k < lim (trm xs) k
      · have hres := Lib.hid (cmpI_gt (upEq_lt cB.1 (upEq_symm hu) h4))
        go_wp2_with fail
        go_quiet (fail)
        go_wp2_with fail
        go_quiet (fail)
        go_wp2_with fail
        go_ret
        exact ⟨by rw [hres.out]; rfl, (hq.drewN _).drewN _⟩
      · have hu' := upEq_down hu (by omega)
        go_wp2_with fail
        go_quiet (fail)
        go_wp2_with fail
        go_quiet (fail)
        go_wp2_with fail
        go_roundw
        case rel => exact ⟨k, by omega, by go_num, hu', hq.drewN _⟩
        case measure => simp [intOf]; try omega

theorem Cmp_eq (ao : Option Addr) (n c : Nat) (xs : List Nat) (bo : Option Addr) (m d : Nat) (ys : List Nat) (w : World) (hn : n = xs.length) (hm : m = ys.length) (ha : Rd w ao c xs) (hb : Rd w bo d ys) (h : val xs = val ys) :
    Calls Try.prog 75 #[.slice ao n c, .slice bo m d] w fun e w' => e = .returned (.int .i64 0) ∧ Qt w w' :=
  (Cmp_any ao n c xs bo m d ys w hn hm ha hb).mono fun _ _ ⟨he, hq⟩ => ⟨by rw [he, cmpI_eq h], hq⟩
theorem Cmp_lt (ao : Option Addr) (n c : Nat) (xs : List Nat) (bo : Option Addr) (m d : Nat) (ys : List Nat) (w : World) (hn : n = xs.length) (hm : m = ys.length) (ha : Rd w ao c xs) (hb : Rd w bo d ys) (h : val xs < val ys) :
    Calls Try.prog 75 #[.slice ao n c, .slice bo m d] w fun e w' => e = .returned (.int .i64 (-1)) ∧ Qt w w' :=
  (Cmp_any ao n c xs bo m d ys w hn hm ha hb).mono fun _ _ ⟨he, hq⟩ => ⟨by rw [he, cmpI_lt h], hq⟩
theorem Cmp_gt (ao : Option Addr) (n c : Nat) (xs : List Nat) (bo : Option Addr) (m d : Nat) (ys : List Nat) (w : World) (hn : n = xs.length) (hm : m = ys.length) (ha : Rd w ao c xs) (hb : Rd w bo d ys) (h : val ys < val xs) :
    Calls Try.prog 75 #[.slice ao n c, .slice bo m d] w fun e w' => e = .returned (.int .i64 1) ∧ Qt w w' :=
  (Cmp_any ao n c xs bo m d ys w hn hm ha hb).mono fun _ _ ⟨he, hq⟩ => ⟨by rw [he, cmpI_gt h], hq⟩

end Go.Proofs.Ytekhnajfdaknnaa
