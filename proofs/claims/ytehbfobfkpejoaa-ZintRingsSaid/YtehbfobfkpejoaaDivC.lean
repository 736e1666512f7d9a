/-
  Contract of nat.long.
-/
import Derived.Test.YtehbfobfkpejoaaDivP
import Derived.Test.YtehbfobfkpejoaaAppZ
import Derived.Test.YtehbfobfkpejoaaRight
namespace Go.Proofs.Ytehbfobfkpejoaa
open Go.RowKit

theorem Own.at0 {w : World} {B : Nat} {ao : Option Addr} {c : Nat} {zs : List Nat} (h : Own w B ao c zs) (hp : 0 < zs.length) : ∃ g, ao = some ⟨g, 0, none⟩ ∧ B ≤ g ∧ g < w.heap.size := by
  obtain ⟨h1, h2, h3, h4⟩ := h.blk hp
  exact ⟨_, h4, h1, h2⟩
theorem ownB_ne {g h n c : Nat} (hne : h ≠ g) : (Value.slice (some ⟨h, 0, none⟩) n c).ownBlock ≠ some g := by simpa [Value.ownBlock] using hne

/-- the divisor, moved up so that its top limb is half full -/
theorem norm_len {ds ys : List Nat} {n i1 x : Nat} (hy : Lb ys) (hn : n = ys.length) (h1 : i1 + 1 = n) (hx : x = lim ys i1) (h0 : x ≠ 0) (hd : Canon ds) (hv : val ds = val ys * 2 ^ (32 - bl x)) :
    ds.length = n ∧ 2147483648 ≤ lim ds i1 := by
  subst h1
  have bx : x < 4294967296 := by rw [hx]; exact lim_lt hy _
  obtain ⟨b1, b2, b3, b4⟩ := bl_spec h0 bx
  have eY : vk ys (i1 + 1) = val ys := by rw [hn]; exact vk_full (Nat.le_refl _)
  rw [vk_succ, ← hx] at eY
  have hl := vk_lt hy i1
  obtain ⟨s, hs⟩ : ∃ s, s = 32 - bl x := ⟨_, rfl⟩
  rw [← hs] at hv
  have e31 : 2 ^ (bl x - 1) * 2 ^ s = 2147483648 := by rw [← Nat.pow_add, show bl x - 1 + s = 31 by omega]
  have e32 : 2 ^ bl x * 2 ^ s = 4294967296 := by rw [← Nat.pow_add, show bl x + s = 32 by omega]
  have lo : 2147483648 * pw i1 ≤ val ds := by
    rw [hv, ← e31, Nat.mul_right_comm]
    refine Nat.mul_le_mul_right _ ?_
    have := Nat.mul_le_mul_left (pw i1) b3
    rw [Nat.mul_comm]
    omega
  have hi : val ds < pw (i1 + 1) := by
    rw [pw_succ, hv, ← e32, Nat.mul_right_comm]
    refine Nat.mul_lt_mul_of_pos_right ?_ (Nat.two_pow_pos s)
    have := Nat.mul_le_mul_left (pw i1) (Nat.succ_le_of_lt b4)
    rw [Nat.mul_succ] at this
    rw [Nat.mul_comm (2 ^ bl x)]
    omega
  have hlen : ds.length = i1 + 1 := by
    have h1 := canon_len hd hi
    rcases Nat.lt_or_ge ds.length (i1 + 1) with h | h
    · have h2 := val_lt_pw hd.1 (show ds.length ≤ i1 by omega)
      have := pw_pos i1
      omega
    · omega
  refine ⟨hlen, ?_⟩
  have eD : vk ds (i1 + 1) = val ds := vk_full (by omega)
  rw [vk_succ] at eD
  have hl2 := vk_lt hd.1 i1
  rcases Nat.lt_or_ge (lim ds i1) 2147483648 with h | h
  · have := Nat.mul_le_mul_left (pw i1) (Nat.succ_le_of_lt h)
    rw [Nat.mul_succ] at this
    rw [Nat.mul_comm] at lo
    omega
  · exact h

/-- before the quotient's digit j-1 -/
def LongR (w1 w3 : World) (g uc gq qc N U : Nat) (ds : List Nat) (k : Value) (wr : World) : Prop :=
  ∃ (j : Nat) (zs qs : List Nat), k = .int .i64 ((j : Int) - 1) ∧ j + ds.length ≤ N ∧ Hid (zs.length = N) ∧ Hid (qs.length + ds.length = N) ∧ Own wr w1.heap.size (some ⟨g, 0, none⟩) uc zs ∧ Own wr w3.heap.size (some ⟨gq, 0, none⟩) qc qs ∧ Ext w1 wr ∧
    Hid (val zs + val ds * val qs = U) ∧ Hid (val zs < val ds * pw j) ∧ Hid (∀ t, t < j → lim qs t = 0)

/-- a result of two lists -/
def Got2 (w : World) (p r : Nat) (e : Ending) (w' : World) : Prop :=
  ∃ ao c xs bo d ys, e = .returned (.tuple #[.slice ao xs.length c, .slice bo ys.length d]) ∧ Own w' w.heap.size ao c xs ∧ Canon xs ∧ val xs = p ∧ Own w' w.heap.size bo d ys ∧ Canon ys ∧ val ys = r ∧ Ext w w'

theorem quot_step {zs z1 qs : List Nat} {k g D U : Nat} (hq : lim qs k = 0) (hk : k < qs.length) (hv : val z1 + pw k * (g * D) = val zs) (hu : val zs + D * val qs = U) : Hid (val z1 + D * val (qs.set k g) = U) := by
  unfold Hid
  have h1 := val_set (y := g) hk
  rw [hq, Nat.mul_zero, Nat.add_zero] at h1
  rw [h1, Nat.mul_add, ← hu, ← hv]
  have : D * (pw k * g) = pw k * (g * D) := by rw [Nat.mul_left_comm, Nat.mul_comm D]
  omega
theorem quot_end {z q X Y P : Nat} (hP : 0 < P) (hv : z + (Y * P) * q = X * P) (hz : z < Y * P) : q = X / Y ∧ z / P = X % Y := by
  have hYP : 0 < Y * P := by omega
  have h1 : X * P / (Y * P) = q := by rw [← hv, Nat.add_mul_div_left _ _ hYP, Nat.div_eq_of_lt hz, Nat.zero_add]
  have h2 : X * P % (Y * P) = z := by rw [← hv, Nat.add_mul_mod_self_left, Nat.mod_eq_of_lt hz]
  rw [Nat.mul_div_mul_right _ _ hP] at h1
  rw [Nat.mul_mod_mul_right] at h2
  exact ⟨h1.symm, by rw [← h2, Nat.mul_div_cancel _ hP]⟩
set_option maxRecDepth 100000 in
set_option maxHeartbeats 4000000 in
theorem long_any (ao : Option Addr) (n c : Nat) (xs : List Nat) (bo : Option Addr) (m d : Nat) (ys : List Nat) (i1 : Nat) (w : World) (hn : n = xs.length) (hm : m = ys.length) (h1 : i1 + 1 = m) (h2 : 2 ≤ m) (hmn : m ≤ n)
    (ha : Rd w ao c xs) (hb : Rd w bo d ys) (h0 : lim ys i1 ≠ 0) (hl : n ≤ 900000) :
    Calls Try.prog 97 #[.slice ao n c, .slice bo m d] w (Got2 w (val xs / val ys) (val xs % val ys)) := by
  have mA := ha.mx
  have cA := ha.cap
  have mB := hb.mx
  have cB := hb.cap
  have xb := ixe hb m hm ((m : Int) - 1) i1 (by omega) (by omega)
  have kb := hb.cell i1 (by omega)
  have bx := lim_lt hb.lb i1
  obtain ⟨x, hx⟩ : ∃ x, x = lim ys i1 := ⟨_, rfl⟩
  have hno := fun ds => norm_len (ds := ds) hb.lb hm h1 hx (by omega)
  rw [← hx] at h0 bx kb
  obtain ⟨b1, b2, b3, b4⟩ := bl_spec h0 bx
  clear b3 b4
  obtain ⟨s, hs⟩ : ∃ s, s = 32 - bl x := ⟨_, rfl⟩
  have hs1 : (32 : Int) - (bl x : Int) = (s : Int) := by omega
  have hs2 : s ≤ 31 := by omega
  rw [← hs] at hno
  have Hn := Lib.hid hn
  have Hm := Lib.hid hm
  have H1 := Lib.hid h1
  clear hs hx hn hm h1
  go_enter Try.func97, Try.ntmps97
  go_wp2_with fail
  refine (Lead32_any x bx _).mono ?_
  rintro e w' ⟨rfl, rfl⟩
  rw [hs1]
  clear hs1
  go_wp2_with fail
  refine (Left_any bo _ d ys _ s _ Hm.out rfl hb (by have := Hm.out; omega) (by omega)).mono ?_
  rintro e w1 ⟨dao, dc, ds, rfl, od, cd, vd1, ed⟩
  obtain ⟨dl, df⟩ := hno ds cd vd1
  have Dl := Lib.hid dl
  have dle : ds.length ≤ n := by omega
  have dge : 2 ≤ ds.length := by omega
  have Vd := Lib.hid vd1
  clear dl vd1 hno
  go_wp2_with fail
  refine (Left_any ao _ c xs _ s _ Hn.out rfl (ha.ext ed) (by have := Hn.out; omega) (by omega)).mono ?_
  rintro e w2 ⟨mao, mc, ms, rfl, om, cm, vm, em⟩
  have lm : ms.length ≤ n + 1 := by
    refine canon_len cm ?_
    rw [vm, pw_succ, Nat.mul_comm]
    have h3 := val_lt_pw ha.lb (show xs.length ≤ n by have := Hn.out; omega)
    have h4 : 2 ^ s ≤ 2 ^ 31 := Nat.pow_le_pow_right (by omega) hs2
    exact Nat.mul_lt_mul_of_le_of_lt (by omega) h3 (by omega)
  have Vm := Lib.hid vm
  clear vm
  go_wp2_with (first
    | (at_builtin; refine pushZ (wi := w1) rfl _ _ rfl _ _ ms _ rfl rfl om _ rfl ?_ ?_ (Nat.le_refl _) em em.size ?_; omega; omega; intro uao uc w3 ou eu gu)
    | (at_make; refine mkf (wi := w1) rfl _ _ rfl _ _ _ rfl rfl ?_ ?_ eu ?_; omega; omega; intro w4 oq eq e14))
  obtain ⟨us, hus⟩ : ∃ us, us = ms ++ List.replicate (((n : Int) + 1 - (ms.length : Int))).toNat 0 := ⟨_, rfl⟩
  have lus : us.length = n + 1 := by rw [hus, List.length_append, List.length_replicate]; omega
  have vus : val us = val xs * 2 ^ s := by rw [hus, val_append, val_replicate_zero, Vm.out]; simp
  rw [← hus] at ou
  obtain ⟨g, rfl, g1, g2⟩ := ou.at0 (by omega)
  have U0 : val us < val ds * pw (n + 1 - ds.length) := by
    have Dl' := Dl.out
    have h3 := val_lt_pw ha.lb (show xs.length ≤ n by have := Hn.out; omega)
    have h4 : 2 ^ s ≤ 2 ^ 31 := Nat.pow_le_pow_right (by omega) hs2
    have h5 : 2147483648 * pw i1 ≤ val ds := by
      have h6 : vk ds (i1 + 1) = val ds := vk_full (by have := H1.out; omega)
      rw [vk_succ] at h6
      have := Nat.mul_le_mul_left (pw i1) df
      rw [Nat.mul_comm]
      omega
    have h7 : pw n = pw i1 * pw (n + 1 - ds.length) := by rw [← pw_add]; congr 1; have := H1.out; omega
    have h8 := Nat.mul_le_mul_right (pw (n + 1 - ds.length)) h5
    rw [Nat.mul_assoc, ← h7] at h8
    rw [vus]
    have h9 : val xs * 2 ^ s < pw n * 2 ^ 31 := Nat.mul_lt_mul_of_lt_of_le h3 h4 (by omega)
    omega
  have Vus := Lib.hid vus
  have Lus := Lib.hid lus
  have HU0 := Lib.hid U0
  clear vus U0 lus hus
  go_loopw [13] (LongR w1 w3 g uc w3.heap.size (n + 1 - ds.length) (n + 1) (val xs * 2 ^ s) ds) (fun k _ => (intOf k + 1).toNat)
  case atStart => exact ⟨n + 1 - ds.length, us, List.replicate (((n : Int) + 1 - (ds.length : Int))).toNat 0, by go_num, by omega, Lus, by unfold Hid; rw [List.length_replicate]; omega, ou.ext eq, oq.capEq (by omega), e14, by unfold Hid; rw [val_replicate_zero, Vus.out]; simp, HU0, fun t _ => lim_replicate_zero _ t⟩
  case round =>
    obtain ⟨j, zs, qs, rfl, hj, hzl, hql, oz, oq, e1r, hv, hlt, hq0⟩ := hrel
    rcases j with _ | k
    · have zl := hzl.out
      have czl := oz.rd.cap
      have hv0 := hv.out
      rw [Vd.out] at hv0
      have hz0 : val zs < val ys * 2 ^ s := by have := hlt.out; rw [pw_zero, Nat.mul_one, Vd.out] at this; exact this
      obtain ⟨r1, r2⟩ := quot_end (Nat.two_pow_pos s) hv0 hz0
      have hzt : val (zs.take ds.length) = val zs := vk_of_lt (Nat.lt_trans hz0 (by rw [← Vd.out]; exact val_lt cd.1))
      have oT := oz.rd.take ds.length (by omega) uc (by rw [List.length_take]; omega) (Nat.le_refl _)
      have lT : ds.length = (zs.take ds.length).length := by rw [List.length_take]; omega
      have R1 := Lib.hid r1
      have R2 := Lib.hid r2
      have Hzt := Lib.hid hzt
      have LT := Lib.hid lT
      have hb1 : (ds.length : Int) ≤ (uc : Int) := by omega
      have hb2 : ds.length ≤ uc := by omega
      have hqb : qs.length ≤ 1000000 := by have := hql.out; omega
      clear zl czl hv0 hz0 r1 r2 hzt lT hv hlt
      go_wp2_with fail
      go_region_with (first
        | (go_at_call 79; refine (Trim_got _ _ _ qs _ (by have := hql.out; omega) ?_ (by omega)).mono ?_; (first | exact oq.rd.ext (Ext.refl _) | exact oq.rd.ext (Ext.refl _).drew); rintro e wa ⟨qo, qc, qz, rfl, p1, p2, p3, p4⟩; replace p3 := Lib.hid p3)
        | (go_at_call 109; refine (Right_any _ _ _ (zs.take ds.length) _ s _ LT.out rfl (by omega) ?_ (by rw [List.length_take]; omega)).mono ?_; (first | exact oT.ext p4 | exact (oT.ext (Ext.refl _).drew).ext p4); rintro e wb ⟨ro, rc, rz, rfl, t1, t2, t3, t4⟩; replace t3 := Lib.hid t3))
      all_goals
        go_wp2_with fail
        go_ret2
        have ew := ed.trans e1r
        have hw0 : w.heap.size ≤ wr.heap.size := ew.size
        have hw1 := p4.size
        refine ⟨qo, qc, qz, ro, rc, rz, rfl, (p1.ext t4).mono hw0, p2, by rw [p3.out]; exact R1.out, t1.mono (Nat.le_trans hw0 hw1), t2, by rw [t3.out, Hzt.out]; exact R2.out, ?_⟩
        first
        | exact (ew.trans p4).trans t4
        | exact (ew.drew.trans p4).trans t4
        | exact ((ew.trans p4).drew).trans t4
    · have cz := oz.rd.cap
      have zl := hzl.out
      have ql := hql.out
      have hkc : ¬ uc = k := by omega
      have hkl : k + 1 + ds.length ≤ n + 1 := hj
      have hT : val (zs.drop k) < val ds * 4294967296 := by
        have h3 := vk_split zs k (by omega)
        have h4 := hlt.out
        rw [pw_succ, Nat.mul_left_comm, ← Nat.mul_assoc, Nat.mul_comm] at h4
        rw [Nat.mul_comm 4294967296] at h4
        exact Nat.lt_of_mul_lt_mul_left (a := pw k) (by omega)
      have htl := top_le (i1 := i1) cd.1 rfl (by have := Dl.out; have := H1.out; omega) hT
      have czl : n + 1 ≤ uc := by omega
      have zl2 : zs.length = (n + 1) := zl
      clear zl cz ql zl2
      have HT := Lib.hid hT
      have Htl := Lib.hid htl
      have hdm : ds.length = m := Dl.out
      have hi1 : i1 + 1 = m := H1.out
      obtain ⟨i2, hi2⟩ : ∃ i2, i2 + 2 = ds.length := ⟨ds.length - 2, by omega⟩
      have Hi1 := Lib.hid (show i1 + 1 = ds.length by omega)
      have Hi2 := Lib.hid hi2
      clear hT htl hi2 hi1 hdm
      have od' := od.rd.ext e1r
      have dne : 0 < ds.length → bk dao ≠ g := fun h => by have := (od.blk h).2.1; omega
      have o5 := oz.rd.drop k (by have := hzl.out; omega)
      rw [Nat.zero_add] at o5
      go_wp2_with fail
      refine (guessed_any _ _ _ (zs.drop k) _ _ _ ds i1 i2 _ (by rw [List.length_drop, hzl.out]) rfl Hi1.out Hi2.out (by omega) o5 od' df Htl.out).mono ?_
      rintro e w5 ⟨gg, rfl, gs, qt5⟩
      have gf := guess_fits (Lb_drop oz.lb k) cd.1 rfl Hi1.out Hi2.out df HT.out gs
      have gb := gs.1
      have Gf := Lib.hid gf
      clear gs gf
      have oz5 := oz.ext qt5.ext
      have oq5 := oq.ext qt5.ext
      have e15 := e1r.trans qt5.ext
      go_wp2_with fail
      refine (takeAway_any _ g uc zs k _ _ _ _ _ ds gg _ rfl ?_ ?_ oz5 (od'.ext qt5.ext) dne gb ?_).mono ?_
      · omega
      · have := hzl.out; omega
      · omega
      rintro e w6 ⟨b, z1, rfl, hl1, oz6, gr6, v1, t1⟩
      have oq6 := oq5.kept gr6 (ownB_ne (by omega))
      have e16 := e15.grown gr6 (fun k hk => by cases hk; exact g1)
      have zl := hzl.out
      rcases b with _ | _
      · have hlt1 := took oz5.lb (by omega) hlt.out Gf.out (by simpa using v1)
        have V1 := Lib.hid (show val z1 + pw k * (gg * val ds) = val zs by simpa using v1)
        have Hlt1 := Lib.hid hlt1
        have Hl1 := Lib.hid hl1
        clear v1 hlt1 hl1 zl t1
        have xq := ixe oq6.rd (n + 1 - ds.length) (by have := hql.out; omega) (k : Int) k rfl (by omega)
        have kq := oq6.rd.cell k (by have := hql.out; omega)
        have fq := oq6.frozen (by have := hql.out; omega) k
        have hq1 := oq6.store k (by have := hql.out; omega) (gg : Int) gg rfl gb
        go_wp2_with fail
        go_roundw
        case rel => exact ⟨k, z1, qs.set k gg, by go_num, by omega, by unfold Hid; rw [Hl1.out]; exact hzl.out, by unfold Hid; rw [List.length_set]; exact hql.out, oz6.kept hq1.2 (ownB_ne (by simp only [bk]; omega)), hq1.1, e16.grown hq1.2 (fun k hk => by cases hk; simp only [bk]; omega), quot_step (hq0.out k (by omega)) (by have := hql.out; omega) V1.out hv.out, Hlt1, fun t ht => by rw [lim_set_ne (by omega)]; exact hq0.out t (by omega)⟩
        case measure => simp [intOf]; try omega
      · have tz := take_zero oz5.lb oz6.lb (by omega) cd.1 hlt.out Gf.out t1 (by simpa using v1)
        obtain ⟨tz1, tz2, tz3, tz4⟩ := tz
        have V1 := Lib.hid (show val z1 + pw k * (gg * val ds) = val zs + pw (k + (ds.length + 1)) by simpa using v1)
        have Tz4 := Lib.hid tz4
        have Tz3 := Lib.hid tz3
        have Tz1 := Lib.hid tz1
        have Hl1 := Lib.hid hl1
        have T1 := Lib.hid t1
        clear v1 tz1 tz3 tz4 hl1 zl t1
        go_wp2_with fail
        refine (putBack_any _ g uc z1 k _ _ _ _ _ ds _ rfl ?_ ?_ oz6 ((od'.ext qt5.ext).kept gr6 dne) dne ?_).mono ?_
        · omega
        · have := hzl.out; have := Hl1.out; omega
        · omega
        rintro e w7 ⟨y, z2, rfl, hy1, hl2, oz7, gr7, v2, t2⟩
        have oq7 := oq6.kept gr7 (ownB_ne (by omega))
        have e17 := e16.grown gr7 (fun k hk => by cases hk; exact g1)
        have h7 : val z2 < pw (k + (ds.length + 1)) := lt_of_lims oz7.lb (fun t ht => by rw [t2 t (by omega)]; exact lim_zero_of_lt Tz1.out ht)
        have V2 := Lib.hid (put_val hy1 tz2 V1.out Tz4.out h7 v2)
        have Hlt2 := Lib.hid (took oz5.lb (by have := hzl.out; omega) hlt.out ⟨Nat.le_of_eq Tz3.out.symm, by rw [Tz3.out]; exact Nat.le_succ _⟩ V2.out)
        have Hl2 := Lib.hid hl2
        clear v2 t2 h7 hl2
        have gb1 : gg - 1 < 4294967296 := by omega
        have xq := ixe oq7.rd (n + 1 - ds.length) (by have := hql.out; omega) (k : Int) k rfl (by omega)
        have kq := oq7.rd.cell k (by have := hql.out; omega)
        have fq := oq7.frozen (by have := hql.out; omega) k
        have hq1 := oq7.store k (by have := hql.out; omega) ((gg : Int) - 1) (gg - 1) (by omega) gb1
        go_wp2_with fail
        go_roundw
        case rel => exact ⟨k, z2, qs.set k (gg - 1), by go_num, by omega, by unfold Hid; rw [Hl2.out, Hl1.out]; exact hzl.out, by unfold Hid; rw [List.length_set]; exact hql.out, oz7.kept hq1.2 (ownB_ne (by simp only [bk]; omega)), hq1.1, e17.grown hq1.2 (fun k hk => by cases hk; simp only [bk]; omega), quot_step (hq0.out k (by omega)) (by have := hql.out; omega) V2.out hv.out, Hlt2, fun t ht => by rw [lim_set_ne (by omega)]; exact hq0.out t (by omega)⟩
        case measure => simp [intOf]; try omega
end Go.Proofs.Ytehbfobfkpejoaa
