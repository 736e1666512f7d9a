/-
  Contracts of nat.byLimb, slices.Reverse at bytes, nat.Text.
-/
import Derived.Test.YtehbfobfkpejoaaRefT
import Derived.Test.YtehbfobfkpejoaaRdB
import Derived.Deep.LoopGhost
namespace Go.Proofs.Ytehbfobfkpejoaa
open Go.RowKit

/-- the value of the limbs from k on -/
def vd (zs : List Nat) (k : Nat) : Nat := val (zs.drop k)
theorem vd_zero (zs : List Nat) : vd zs 0 = val zs := by simp [vd]
theorem vd_end {zs : List Nat} {k : Nat} (h : zs.length ≤ k) : vd zs k = 0 := by unfold vd; rw [List.drop_eq_nil_of_le h]; rfl
theorem vd_step {zs : List Nat} {k : Nat} (h : k < zs.length) : vd zs k = lim zs k + 4294967296 * vd zs (k + 1) := by
  unfold vd
  rw [List.drop_eq_getElem_cons h]
  have : zs[k] = lim zs k := by unfold lim; simp [List.getD_eq_getElem?_getD, h]
  rw [val_cons, this]
theorem vd_set {zs : List Nat} {k i y : Nat} (h : i < k) : vd (zs.set i y) k = vd zs k := by
  unfold vd; rw [List.drop_set]; simp [h]

def ByR (w : World) (xs : List Nat) (b : Nat) (po : Option Addr) (pc : Nat) (rest i : Value) (wr : World) : Prop :=
  ∃ (k R : Nat) (zs : List Nat), k ≤ xs.length ∧ i = .int .i64 ((k : Int) - 1) ∧ rest = .int .u64 R ∧ R < b ∧ Hid (zs.length = xs.length) ∧ Own wr w.heap.size po pc zs ∧ Ext w wr ∧ Hid (vd xs k = vd zs k * b + R)

theorem by_step {xs zs : List Nat} {k b R : Nat} (h : vd xs (k + 1) = vd zs (k + 1) * b + R) (hx : k < xs.length) (hz : k < zs.length) :
    Hid (vd xs k = vd (zs.set k ((R * 4294967296 + lim xs k) / b)) k * b + (R * 4294967296 + lim xs k) % b) := by
  unfold Hid
  rw [vd_step hx, vd_step (zs := zs.set k ((R * 4294967296 + lim xs k) / b)) (by rw [List.length_set]; exact hz), lim_set_eq hz, vd_set (by omega), h, Nat.add_mul, Nat.mul_assoc 4294967296]
  have h1 := Nat.div_add_mod (R * 4294967296 + lim xs k) b
  rw [Nat.mul_comm b] at h1
  omega
theorem by_lt {R x b : Nat} (h : R < b) (hx : x < 4294967296) : (R * 4294967296 + x) / b < 4294967296 := by
  rw [Nat.div_lt_iff_lt_mul (by omega)]
  have : (R + 1) * 4294967296 ≤ b * 4294967296 := Nat.mul_le_mul_right _ h
  rw [Nat.mul_comm 4294967296 b]
  omega

set_option maxRecDepth 100000 in
set_option maxHeartbeats 1000000 in
theorem byLimb_any (ao : Option Addr) (n c : Nat) (xs : List Nat) (E : Int) (b : Nat) (w : World) (hn : n = xs.length) (hE : E = (b : Int)) (ha : Rd w ao c xs) (hl : xs.length ≤ 1000000) (hb : 0 < b) (hb2 : b < 4294967296) :
    Calls Try.prog 90 #[.slice ao n c, .int .u32 E] w fun e w' => ∃ po pc zs, e = .returned (.tuple #[.slice po zs.length pc, .int .u32 ((val xs % b : Nat) : Int)]) ∧ Own w' w.heap.size po pc zs ∧ Canon zs ∧ val zs = val xs / b ∧ Ext w w' := by
  subst hn hE
  have bA := ha.cap
  have mA := ha.mx
  go_enter Try.func90, Try.ntmps90
  go_wp2_with (at_make; refine mkf rfl _ _ rfl _ _ _ rfl rfl ?_ ?_ (Ext.refl w) ?_; omega; omega; intro w1 hown hx0 hext)
  go_loopw [7, 8] (ByR w xs b (some ⟨w.heap.size, 0, none⟩) xs.length) (fun _ i _ => (intOf i + 1).toNat)
  case atStart => exact ⟨xs.length, 0, List.replicate xs.length 0, Nat.le_refl _, rfl, rfl, hb, by simp [Hid], by simpa using hown, hext, by unfold Hid; rw [vd_end (by omega), vd_end (by simp)]; simp⟩
  case round =>
    obtain ⟨k, R, zs, hk, rfl, rfl, hR, hzl, hown, hext, heq⟩ := hrel
    rcases k with _ | k
    · have hv : val xs = val zs * b + R := by have := heq.out; rwa [vd_zero, vd_zero] at this
      have hq : val zs = val xs / b := by rw [hv, Nat.mul_comm, Nat.mul_add_div hb, Nat.div_eq_of_lt hR, Nat.add_zero]
      have hm : val xs % b = R := by rw [hv, Nat.mul_comm, Nat.mul_add_mod, Nat.mod_eq_of_lt hR]
      have Hq := Lib.hid hq
      have Hm := Lib.hid hm
      clear hv hq hm heq
      go_wp2_with fail
      refine (Trim_got _ _ _ zs _ hzl.out.symm hown.rd (by have := hzl.out; omega)).mono ?_
      intro e w2 hg
      rw [Hq.out] at hg
      obtain ⟨ao3, c3, zs3, rfl, h1, h2, h3, h4⟩ := hg.from hext
      go_wp2_with fail
      go_ret2
      exact ⟨ao3, c3, zs3, by rw [Hm.out]; rfl, h1, h2, h3, h4⟩
    · have hx := (ha.ext hext).cell k (by omega)
      have hix := ixk ha xs.length rfl k (by omega) wr
      have bx := lim_lt ha.lb k
      have hkz : k < zs.length := by have := hzl.out; omega
      have hiz := ixk hown.rd xs.length hzl.out.symm k (by omega) wr
      have hxz := hown.rd.cell k hkz
      have hf := hown.frozen (by omega) k
      have hor := or_join R (lim xs k) (by omega) bx
      have hq1 := by_lt (b := b) hR bx
      have hm1 : (R * 4294967296 + lim xs k) % b < b := Nat.mod_lt _ hb
      have hs := by_step heq.out (by omega) hkz
      obtain ⟨H, hH⟩ : ∃ H, H = R * 4294967296 + lim xs k := ⟨_, rfl⟩
      rw [← hH] at hor hq1 hm1 hs
      have bH : H < 18446744073709551616 := by omega
      have htd := tdiv_nat H b
      have htm := tmod_nat H b
      obtain ⟨q, hq⟩ : ∃ q, q = H / b := ⟨_, rfl⟩
      obtain ⟨m, hm⟩ : ∃ m, m = H % b := ⟨_, rfl⟩
      rw [← hq] at htd hq1 hs
      rw [← hm] at htm hm1 hs
      have hnd : (H : Int) / (b : Int) = (q : Int) := by rw [hq]; push_cast; rfl
      have hnm : (H : Int) % (b : Int) = (m : Int) := by rw [hm]; push_cast; rfl
      clear hH hq hm
      go_wp2_with fail
      have hst := hown.store k hkz (q : Int) q rfl hq1
      go_roundw
      case rel => exact ⟨k, m, zs.set k q, by omega, by go_num, rfl, hm1, by unfold Hid; rw [List.length_set]; exact hzl.out, hst.1, hext.store (show w.heap.size ≤ w.heap.size by omega) _, hs⟩
      case measure => simp [intOf]

/-- reversed at both ends, k from either -/
def revK (zs ys : List Nat) (k : Nat) : Prop := ys.length = zs.length ∧ ∀ t, t < zs.length → lim ys t = if t < k ∨ zs.length - k ≤ t then lim zs (zs.length - 1 - t) else lim zs t

theorem revK_step {zs ys : List Nat} {k : Nat} (h : revK zs ys k) (hk : k < zs.length - 1 - k) : revK zs ((ys.set k (lim ys (zs.length - 1 - k))).set (zs.length - 1 - k) (lim ys k)) (k + 1) := by
  obtain ⟨hl, h⟩ := h
  refine ⟨by simp [hl], ?_⟩
  intro t ht
  have h1 := h k (by omega)
  have h2 := h (zs.length - 1 - k) (by omega)
  rw [if_neg (by omega)] at h1 h2
  by_cases e : t = zs.length - 1 - k
  · subst e
    rw [lim_set_eq (by simp; omega), h1, if_pos (by omega)]
    congr 1; omega
  · rw [lim_set_ne (by omega)]
    by_cases e2 : t = k
    · subst e2
      rw [lim_set_eq (by omega), h2, if_pos (by omega)]
    · rw [lim_set_ne (by omega), h t ht]
      by_cases c1 : t < k ∨ zs.length - k ≤ t
      · rw [if_pos c1, if_pos (by omega)]
      · rw [if_neg c1, if_neg (by omega)]
theorem revK_end {zs ys : List Nat} {k : Nat} (h : revK zs ys k) (hk : zs.length ≤ k + k + 1) : ys = zs.reverse := by
  obtain ⟨hl, h⟩ := h
  apply list_ext_lim (by simp [hl])
  intro t ht
  have ht' : t < zs.length := by omega
  have hr : lim zs.reverse t = lim zs (zs.length - 1 - t) := by
    unfold lim
    rw [List.getD_eq_getElem?_getD, List.getD_eq_getElem?_getD, List.getElem?_reverse ht']
  rw [hr, h t ht']
  split
  · rfl
  · congr 1; omega

set_option maxRecDepth 100000 in
set_option maxHeartbeats 1000000 in
theorem Reverse_any (ao : Option Addr) (n c : Nat) (zs : List Nat) (B : Nat) (w : World) (hn : n = zs.length) (ha : OwB w B ao c zs) :
    Calls Try.prog 91 #[.slice ao n c] w fun e w' => e = .returned (.tuple #[]) ∧ OwB w' B ao c zs.reverse ∧ w.grownBy w' (some (bk ao)) := by
  subst hn
  have bA := ha.rd.cap
  have mA := ha.rd.mx
  go_enter Try.func91, Try.ntmps91
  go_wp2_with fail
  go_loopw [2, 3] (fun i j wr => ∃ (k : Nat) (ys : List Nat), k ≤ zs.length ∧ i = .int .i64 k ∧ j = .int .i64 ((zs.length : Int) - 1 - k) ∧ Hid (revK zs ys k) ∧ OwB wr B ao c ys ∧ w.grownBy wr (some (bk ao))) (fun _ j _ => (intOf j + 1).toNat)
  case atStart => exact ⟨0, zs, by omega, rfl, by go_num, ⟨rfl, fun t ht => by rw [if_neg (by omega)]⟩, ha, World.grownBy.refl _ _⟩
  case round =>
    obtain ⟨k, ys, hk, rfl, rfl, hrev, hown, hg⟩ := hrel
    have hyl : ys.length = zs.length := hrev.out.1
    have Hyl := Lib.hid hyl
    by_cases hkA : k < zs.length - 1 - k
    · have hx1 := hown.rd.cell k (by omega)
      have hx2 := hown.rd.cell (zs.length - 1 - k) (by omega)
      have hi1 := fun w => ixnB hown.rd .i64 (k : Int) w (by omega) (by omega)
      have hi2 := fun w => ixnB hown.rd .i64 ((zs.length : Int) - 1 - (k : Int)) w (by omega) (by omega)
      rw [hyl] at hi1 hi2
      have et : ((zs.length : Int) - 1 - (k : Int)).toNat = zs.length - 1 - k := by omega
      rw [et] at hi2
      have hf1 := hown.frozen (by omega) k
      have hf2 := hown.frozen (by omega) (zs.length - 1 - k)
      clear hyl et
      go_wp2_with fail
      go_region
      all_goals
        have hst1 := hown.store k (by have := Hyl.out; omega) _ (lim ys (zs.length - 1 - k)) rfl (limB_lt hown.lb _)
        have hst2 := hst1.1.store (zs.length - 1 - k) (by rw [List.length_set]; have := Hyl.out; omega) _ (lim ys k) rfl (limB_lt hown.lb _)
        have hrs := revK_step hrev.out hkA
        clear hx1 hx2 hi1 hi2 hf1 hf2
        go_wp2_with fail
        go_roundw
        case rel => exact ⟨k + 1, _, by omega, by go_num, by go_num, hrs, hst2.1.ext (Ext.refl _).drew, grown_trans (grown_trans hg hst1.2) (grown_trans hst2.2 (grown_of_ext (Ext.refl _).drew _))⟩
        case measure => simp [intOf]; omega
    · have he := revK_end hrev.out (by omega)
      have He := Lib.hid he
      clear he hyl
      go_wp2_with fail
      go_end0
      exact ⟨rfl, by rw [← He.out]; exact hown, hg⟩

/-- a text as it is answered -/
def GotText (w : World) (n : Nat) (e : Ending) (w' : World) : Prop := ∃ s, e = .returned (.string s) ∧ isT (bytes s) n ∧ Ext w w'

def strN (L : List Nat) : ByteArray := strOfNums (L.map fun (x : Nat) => (x : Int))
theorem bytes_strN {L : List Nat} (h : LbB L) : bytes (strN L) = L := by
  unfold bytes strN
  rw [strOfNums_data, List.map_map, List.map_map]
  conv => rhs; rw [← List.map_id L]
  apply List.map_congr_left
  intro x hx
  have := h x hx
  simp only [Function.comp_apply, Int.toNat_natCast, id]
  rw [UInt8.toNat_ofNat']
  omega
theorem run_str {w : World} {b o c : Nat} {L : List Nat} (h : RdB w (some ⟨b, o, none⟩) c L) :
    (convert 83 9 (.slice (some ⟨b, o, none⟩) L.length c)).run Try.prog w = .ok (.string (strN L)) w := by
  refine run_convert_bytes_arg w 83 5 undB Try.underlying5 b o L.length c (L.map fun (x : Nat) => (x : Int)) (by simp) ?_ 9 Try.underlying9
  intro i hi
  have := h.cell i hi
  simp only [bk, of] at this
  rw [this]
  have e : L[i]? = some (lim L i) := lim_map_at hi
  simp only [List.getD_eq_getElem?_getD, List.getElem?_map, e]
  rfl

theorem text_step {D : List Nat} {p R N : Nat} (h : lowD D + 10 ^ D.length * (R + 10 * p) = N) : lowD (D ++ [48 + R % 10]) + 10 ^ (D ++ [48 + R % 10]).length * (R / 10 + p) = N := by
  rw [lowD_snoc, List.length_append, List.length_cons, List.length_nil, Nat.zero_add, Nat.pow_succ, ← h, Nat.add_sub_cancel_left, Nat.mul_assoc]
  rw [show R + 10 * p = 10 * (R / 10 + p) + R % 10 from by omega, Nat.mul_add (10 ^ D.length) (10 * (R / 10 + p)) (R % 10)]
  omega

def TextI (w : World) (n0 N V : Nat) (d0 : Nat) (ao : Option Addr) (c : Nat) (zs : List Nat) (out rest i : Value) (wr : World) : Prop :=
  ∃ (j R : Nat) (po : Option Addr) (pc : Nat) (D : List Nat), j ≤ 9 ∧ i = .int .i64 j ∧ rest = .int .u32 R ∧ R < 10 ^ (9 - j) ∧ out = .slice po D.length pc ∧ Hid (D.length = d0 + j) ∧ d0 ≤ 10 * n0 ∧ allD D ∧ OwB wr w.heap.size po pc D ∧ Own wr w.heap.size ao c zs ∧ Ext w wr ∧
    Hid (lowD D + 10 ^ D.length * (R + 10 ^ (9 - j) * V) = N)
def TextO (w : World) (n0 N g : Nat) (a out : Value) (wr : World) : Prop :=
  ∃ (ao : Option Addr) (c : Nat) (zs : List Nat) (po : Option Addr) (pc : Nat) (D : List Nat), a = .slice ao zs.length c ∧ out = .slice po D.length pc ∧ D.length ≤ 10 * n0 + 9 ∧ zs.length ≤ 1000000 ∧ allD D ∧ Canon zs ∧ OwB wr w.heap.size po pc D ∧ Rd wr ao c zs ∧ Ext w wr ∧
    Hid (lowD D + 10 ^ D.length * val zs = N) ∧ Hid (val zs = g)
def TextS (w : World) (N : Nat) (out : Value) (wr : World) : Prop :=
  ∃ (b o c : Nat) (L : List Nat), out = .slice (some ⟨b, o, none⟩) L.length c ∧ allD L ∧ Hid (dvl L = N) ∧ RdB wr (some ⟨b, o, none⟩) c L ∧ Ext w wr
def lenOf : Value → Nat
  | .slice _ n _ => n
  | _ => 0
theorem pw_10 (n : Nat) : pw n ≤ 10 ^ (10 * n) := by
  unfold pw
  rw [Nat.pow_mul]
  exact Nat.pow_le_pow_left (by decide) n

set_option maxRecDepth 100000 in
set_option maxHeartbeats 2000000 in
theorem Text_any (ao : Option Addr) (n c : Nat) (xs : List Nat) (w : World) (hn : n = xs.length) (ha : Rd w ao c xs) (hl : xs.length ≤ 10000) :
    Calls Try.prog 66 #[.slice ao n c] w (GotText w (val xs)) := by
  subst hn
  have hA := ha.trm
  have cA := canon_trm ha.lb
  have lA := trm_le xs
  rw [← val_trm xs]
  rcases Nat.eq_zero_or_pos (trm xs).length with h0 | hp
  · have e0 : trm xs = [] := List.length_eq_zero_iff.1 h0
    rw [e0]
    have hz : (((trm xs).length : Int) == 0) = true := beq_iff_eq.2 (by omega)
    clear h0 e0
    go_enter Try.func66, Try.ntmps66
    go_wp2_with fail
    refine (trim_any ao _ c xs w rfl ha).mono ?_
    rintro e w' ⟨rfl, rfl⟩
    go_wp2_with fail
    go_ret
    exact ⟨_, rfl, isT_zero, Ext.refl _⟩
  · have hz : (((trm xs).length : Int) == 0) = false := beq_eq_false_iff_ne.2 (by omega)
    obtain ⟨N, hN⟩ : ∃ N, N = val (trm xs) := ⟨_, rfl⟩
    have hNpos : 0 < N := by
      have := canon_ge cA hp
      have := pw_pos ((trm xs).length - 1)
      omega
    have hNb : N < 10 ^ (10 * xs.length) := by
      rw [hN]
      exact Nat.lt_of_lt_of_le (Nat.lt_of_lt_of_le (val_lt cA.1) (pw_le lA)) (pw_10 _)
    have HNb := Lib.hid hNb
    clear hNb
    rw [← hN]
    go_enter Try.func66, Try.ntmps66
    go_wp2_with fail
    refine (trim_any ao _ c xs w rfl ha).mono ?_
    rintro e w' ⟨rfl, rfl⟩
    go_wp2_with fail
    go_loopg [0, 3] N (TextO w xs.length N)
    case atStart => exact ⟨ao, c, trm xs, none, 0, [], rfl, rfl, by simp, by omega, (fun c hc => by simp at hc), cA, OwB.nil _ _, hA, Ext.refl _, by unfold Hid; rw [hN]; simp [lowD], hN.symm⟩
    case round =>
      obtain ⟨bo, d, zs, po, pc, D, rfl, rfl, hDl, hzl, hDd, cZ, hown, hrd, hext, heq, hgk⟩ := hrel
      rcases Nat.eq_zero_or_pos zs.length with hz0 | hzp
      · have ez : zs = [] := List.length_eq_zero_iff.1 hz0
        subst ez
        have hv : dvl D.reverse = N := by rw [dvl_reverse, ← heq.out]; simp [val]
        have hD0 : 0 < D.length := by
          cases D with
          | nil => simp [dvl] at hv; omega
          | cons d D => simp
        have Hv := Lib.hid hv
        clear hv heq
        go_wp2_with fail
        refine (Reverse_any _ _ _ D _ _ rfl hown).mono ?_
        rintro e w2 ⟨rfl, hown2, hg2⟩
        have hext2 : Ext w w2 := hext.grown hg2 (fun k hk => by cases hk; exact (hown.blk hD0).1)
        have hrd2 := hown2.rd
        have hl2 : (D.reverse).length = D.length := by simp
        obtain ⟨b, o, hat⟩ := hrd2.isAt (by omega)
        have hdd : allD D.reverse := fun c hc => hDd c (by simpa using hc)
        rw [← hl2]
        generalize D.reverse = L at *
        subst hat
        clear hown hg2 hown2 hext hrd hDd
        have Hl2 := Lib.hid hl2
        clear hl2
        go_wp2_with fail
        go_loopw [3] (TextS w N) (fun a _ => lenOf a)
        case atStart => exact ⟨b, o, pc, L, rfl, hdd, Hv, hrd2, hext2⟩
        case round =>
          obtain ⟨b, o, pc, L, rfl, hLd, hLv, hLr, hLe⟩ := hrel
          have hL0 : 0 < L.length := by
            cases L with
            | nil => have := hLv.out; simp [dvl] at this; omega
            | cons d D => simp
          have hx := hLr.cell 0 hL0
          have hcap := hLr.cap
          have hmx := hLr.mx
          simp only [bk, of, Nat.add_zero] at hx
          by_cases h48 : lim L 0 = 48
          · have hb : (((lim L 0 : Nat) : Int) == 48) = true := by simp [h48]
            have hv2 : dvl L.tail = N := by rw [dvl_zero h48]; exact hLv.out
            have hL1 : 0 < L.tail.length := by
              cases hL : L.tail with
              | nil => rw [hL] at hv2; simp [dvl] at hv2; omega
              | cons d D => simp
            rw [List.length_tail] at hL1
            have hdr := hLr.drop 1 hL0
            rw [List.drop_one] at hdr
            clear h48
            go_wp2_with fail
            go_roundw
            case rel => exact ⟨b, o + 1, pc - 1, L.tail, by simp, (fun c hc => hLd c (List.mem_of_mem_tail hc)), hv2, hdr, hLe⟩
            case measure => simp [lenOf]; try omega
          · have hb : (((lim L 0 : Nat) : Int) == 48) = false := beq_eq_false_iff_ne.2 (by omega)
            have hcv := run_str hLr
            have hlb := hLr.lb
            go_wp2_with fail
            go_ret
            exact ⟨strN L, rfl, by rw [bytes_strN hlb]; exact ⟨hL0, hLd, hLv.out, fun _ => h48⟩, hLe⟩
      · have hV := canon_ge cZ hzp
        have hV1 := pw_pos (zs.length - 1)
        have hVl := val_lt cZ.1
        have hDb : D.length < 10 * xs.length := by
          have h1 := heq.out
          have h2 := HNb.out
          have h3 : 10 ^ D.length * 1 ≤ 10 ^ D.length * val zs := Nat.mul_le_mul_left _ (by omega)
          exact (Nat.pow_lt_pow_iff_right (by omega)).1 (show 10 ^ D.length < 10 ^ (10 * xs.length) by omega)
        have hVp : 0 < val zs := by omega
        clear hV hV1
        have HVl := Lib.hid hVl
        clear hVl
        go_wp2_with fail
        refine (byLimb_any _ _ _ zs _ 1000000000 _ rfl rfl hrd hzl (by omega) (by omega)).mono ?_
        rintro e w2 ⟨eo, ec, ys, rfl, hyo, hyk, hyv, hyx⟩
        have hyl : ys.length ≤ 1000000 := Nat.le_trans (canon_len hyk (by rw [hyv]; exact Nat.lt_of_le_of_lt (Nat.div_le_self _ _) HVl.out)) hzl
        have heq2 : lowD D + 10 ^ D.length * (val zs % 1000000000 + 10 ^ (9 - 0) * val ys) = N := by
          have e : val zs % 1000000000 + 10 ^ (9 - 0) * val ys = val zs := by
            rw [hyv]; simp; omega
          rw [e]; exact heq.out
        have Heq2 := Lib.hid heq2
        have hRb : val zs % 1000000000 < 10 ^ (9 - 0) := Nat.mod_lt _ (by decide)
        replace hyv := Lib.hid hyv
        have hdec : val ys < val zs := by rw [hyv.out]; omega
        have hown2 := hown.ext hyx
        have hext2 := hext.trans hyx
        have hext0 := hext.size
        clear heq2 hown hext heq
        go_wp2_with fail
        go_loopw [3, 4, 18] (TextI w xs.length N (val ys) D.length eo ec ys) (fun _ _ i _ => (9 - intOf i).toNat)
        case atStart => exact ⟨0, val zs % 1000000000, po, pc, D, by omega, rfl, rfl, hRb, rfl, rfl, by omega, hDd, hown2, hyo.mono hext0, hext2, Heq2⟩
        case round =>
          obtain ⟨j, R, po, pc, E, hj, rfl, rfl, hR, rfl, hEl, hDn, hEd, hown, hyo, hext, heq⟩ := hrel
          have hEl2 : E.length ≤ 200000 := by have := hEl.out; omega
          by_cases hj9 : j < 9
          · have hRb : R < 1000000000 := Nat.lt_of_lt_of_le hR (by exact Nat.pow_le_pow_right (by omega) (by omega) : 10 ^ (9 - j) ≤ 10 ^ 9)
            have e9 : 10 ^ (9 - j) = 10 * 10 ^ (9 - (j + 1)) := by
              rw [Nat.mul_comm, ← Nat.pow_succ]; congr 1; omega
            have hst : lowD (E ++ [48 + R % 10]) + 10 ^ (E ++ [48 + R % 10]).length * (R / 10 + 10 ^ (9 - (j + 1)) * val ys) = N := by
              apply text_step
              rw [← Nat.mul_assoc, ← e9]; exact heq.out
            have hR' : R / 10 < 10 ^ (9 - (j + 1)) := by omega
            have Hst := Lib.hid hst
            have HR' := Lib.hid hR'
            clear hst hR' hR e9 heq
            go_wp2_with (at_builtin; refine pushGB (wi := w) rfl _ _ rfl _ _ E _ rfl rfl hown _ ?_ ?_ rfl ?_ rfl hext ?_; omega; omega; omega; intro ao' c' w3 hown3 hext3 hg3)
            go_roundw
            case rel =>
              have et : (48 + (R : Int) % 10).toNat = 48 + R % 10 := by omega
              rw [et] at hown3
              exact ⟨j + 1, R / 10, ao', c', E ++ [48 + R % 10], by omega, by go_num, by go_num, HR'.out, by simp, by unfold Hid; rw [List.length_append, hEl.out]; simp; omega, hDn, (fun c hc => by rcases List.mem_append.1 hc with h | h; exact hEd c h; simp at h; omega), hown3, hyo.keptO hg3 (ownsRow_ne hyo.row hown.row (by decide)), hext3, Hst⟩
            case measure => simp [intOf]; try omega
          · obtain rfl : j = 9 := by omega
            have hR0 : R = 0 := by simpa using hR
            have heq3 : lowD E + 10 ^ E.length * val ys = N := by have := heq.out; rw [hR0] at this; simpa using this
            have Heq3 := Lib.hid heq3
            clear hR0 heq3 hR
            go_wp2_with fail
            go_roundg (val ys)
            case rel => exact ⟨eo, ec, ys, po, pc, E, rfl, rfl, by have := hEl.out; omega, hyl, hEd, hyk, hown, hyo.rd, hext, Heq3, rfl⟩
            case measure => have := hgk.out; omega
end Go.Proofs.Ytehbfobfkpejoaa
