/-
  Contract of the reference's Text.
-/
import Derived.Test.YtmnhbjefjadjiaaNatX
namespace Go.Proofs.Ytmnhbjefjadjiaa
open Go.RowKit

def RTextO (w : World) (L N g : Nat) (x out : Value) (wr : World) : Prop :=
  ∃ (ao : Option Addr) (c : Nat) (zs : List Nat) (s : ByteArray), x = .slice ao zs.length c ∧ out = .string s ∧ zs.length ≤ 10000 ∧ s.size ≤ 10 * L + 1 ∧ Canon zs ∧ Own wr w.heap.size ao c zs ∧ Ext w wr ∧ alld s s.size ∧
    Hid (val zs * 10 ^ s.size + dvl (bytes s) = N) ∧ Hid (g = val zs + (if s.size = 0 then 1 else 0)) ∧ (0 < s.size → val zs = 0 → isT (bytes s) N)

def RTextQ (w : World) (n : Nat) (q i : Value) (wr : World) : Prop :=
  ∃ (k : Nat) (po : Option Addr) (pc : Nat), k ≤ n ∧ i = .int .i64 k ∧ q = .slice po k pc ∧ Own wr w.heap.size po pc (List.replicate k 0) ∧ Ext w wr

theorem strN_size (L : List Nat) : (strN L).size = L.length := by unfold strN; rw [strOfNums_size]; simp
theorem row1B (w : World) (E : Int) (x : Nat) (hE : E = (x : Int)) (hx : x < 256) : OwB (w.alloc (.cells #[.int .u8 E] 5)) w.heap.size (some ⟨w.heap.size, 0, none⟩) 1 [x] := by
  subst hE
  exact ⟨by intro z hz; simp at hz; omega, by simp, .inr ⟨w.heap.size, 1, _, rfl, Nat.le_refl _, heap_alloc_new w _, Nat.le_refl _, by unfold maxLen; omega, rfl, rfl⟩⟩
/-- one digit more ahead -/
theorem text_ahead {s : ByteArray} {V V' R N : Nat} (heq : V * 10 ^ s.size + dvl (bytes s) = N) (hV : V = V' * 10 + R) : V' * 10 ^ (s.size + 1) + dvl ((48 + R) :: bytes s) = N := by
  rw [dvl_cons, bytes_length, Nat.add_sub_cancel_left, Nat.pow_succ, ← heq, hV, Nat.add_mul, Nat.mul_assoc V' 10, Nat.mul_comm 10]
  omega

set_option maxRecDepth 100000 in
set_option maxHeartbeats 2000000 in
theorem RText_any (ao : Option Addr) (n c : Nat) (xs : List Nat) (w : World) (hn : n = xs.length) (ha : Rd w ao c xs) (hl : xs.length ≤ 10000) :
    Calls Try.prog 84 #[.slice ao n c] w (GotText w (val xs)) := by
  subst hn
  obtain ⟨N, hN⟩ : ∃ N, N = val xs := ⟨_, rfl⟩
  rw [← hN]
  go_enter Try.func84, Try.ntmps84
  go_wp2_with fail
  refine (RTrim_any ao _ c xs w rfl ha (by omega)).mono ?_
  rintro e w1 ⟨bo, d, zs, rfl, hown, hk, hv, hext⟩
  have hzl : zs.length ≤ 10000 := Nat.le_trans (canon_len hk (by rw [hv]; exact val_lt ha.lb)) hl
  rw [← hv] at hN
  clear hv ha hl
  have hNb : N < 10 ^ (10 * zs.length) := by rw [hN]; exact Nat.lt_of_lt_of_le (val_lt hk.1) (pw_10 _)
  have HNb := Lib.hid hNb
  have HN := Lib.hid hN
  clear hNb hN
  go_wp2_with fail
  go_loopg [3, 4] (N + 1) (RTextO w zs.length N)
  case atStart => exact ⟨bo, d, zs, ⟨#[]⟩, rfl, rfl, hzl, Nat.zero_le _, hk, hown, hext, (fun i hi => absurd hi (show ¬ i < 0 by omega)), (show val zs * 10 ^ 0 + 0 = N by rw [HN.out]; simp), (show N + 1 = val zs + (if (0 : Nat) = 0 then 1 else 0) by rw [HN.out]; rfl), fun h => absurd h (show ¬ 0 < 0 by omega)⟩
  case round =>
    obtain ⟨co, c2, ys, s, rfl, rfl, hyl, hsl, hyk, hyo, hext, hsd, heq, hg, hfin⟩ := hrel
    by_cases hex : 0 < s.size ∧ ys.length = 0
    · obtain ⟨hs0, hy0⟩ := hex
      have hem : s.toList.isEmpty = false := str_cons (by omega)
      have ey : ys = [] := List.length_eq_zero_iff.1 hy0
      subst ey
      have ht := hfin hs0 rfl
      have Ht := Lib.hid ht
      clear ht hfin
      go_wp2_with fail
      go_ret
      exact ⟨s, rfl, Ht.out, hext⟩
    · have hcont : 0 < s.size → 0 < val ys := fun h => by
        have h1 : 0 < ys.length := by omega
        have := canon_ge hyk h1
        have := pw_pos (ys.length - 1)
        omega
      have hsb : s.size ≤ 10 * zs.length := by
        rcases Nat.eq_zero_or_pos s.size with h0 | h0
        · omega
        · have h1 := heq.out
          have h2 := HNb.out
          have h3 : 1 * 10 ^ s.size ≤ val ys * 10 ^ s.size := Nat.mul_le_mul_right _ (hcont h0)
          have := (Nat.pow_lt_pow_iff_right (a := 10) (by omega)).1 (show 10 ^ s.size < 10 ^ (10 * zs.length) by omega)
          omega
      have Hc := Lib.hid hcont
      clear hcont hfin
      have hrd := hyo.rd
      have hcap := hrd.cap
      have hmx := hrd.mx
      have hem1 : s.toList.isEmpty = true ∨ (s.toList.isEmpty = false ∧ (0 : Int) < (ys.length : Int) ∧ decide (0 < ys.length) = true) := by
        rcases Nat.eq_zero_or_pos s.size with h0 | h0
        · left; rw [str_nil h0]; rfl
        · right; exact ⟨str_cons (by omega), by omega, decide_eq_true (by omega)⟩
      obtain ⟨wo, rfl⟩ : ∃ wo : World, wo = wr := ⟨_, rfl⟩
      rcases hem1 with hem | ⟨hem, hyp, hypd⟩
      all_goals
        go_wp2_with fail
        go_loopw [6, 7] (RTextQ wo ys.length) (fun _ i _ => (ys.length - intOf i).toNat)
        case atStart => exact ⟨0, _, _, by omega, rfl, rfl, own_empty wo, (Ext.refl wo).alloc _⟩
        case round =>
          obtain ⟨k, po, pc, hk, rfl, rfl, hqo, hqx⟩ := hrel
          by_cases hkA : k < ys.length
          · go_wp2_with (at_builtin; refine push (wi := wo) rfl _ _ rfl _ _ (List.replicate k 0) _ (by simp) rfl hqo _ ?_ ?_ rfl ?_ rfl hqx ?_; omega; omega; (simp; omega); intro ao' c' w2 hown2 hext2)
            go_roundw
            case rel => exact ⟨k + 1, ao', c', by omega, by go_num, by simp, by rw [List.replicate_succ']; exact hown2.snocEq (by omega), hext2⟩
            case measure => simp [intOf]; try omega
          · obtain rfl : k = ys.length := by omega
            go_wp2_with fail
            go_loopw [5, 8] (ByR wo ys 10 po pc) (fun _ i _ => (intOf i + 1).toNat)
            case atStart => exact ⟨ys.length, 0, List.replicate ys.length 0, Nat.le_refl _, rfl, rfl, by omega, by simp [Hid], hqo, hqx, by unfold Hid; rw [vd_end (by omega), vd_end (by simp)]⟩
            case round =>
              obtain ⟨k, R, qs, hk, rfl, rfl, hR, hql, hqo, hqx, hqe⟩ := hrel
              rcases k with _ | k
              · have hv : val ys = val qs * 10 + R := by have := hqe.out; rwa [vd_zero, vd_zero] at this
                have hah := text_ahead heq.out hv
                have Hah := Lib.hid hah
                have Hv := Lib.hid hv
                have hst := fun (wx : World) => run_str ((row1B wx (48 + (R : Int)) (48 + R) (by omega) (by omega)).rd)
                simp only [List.length_cons, List.length_nil, Nat.zero_add] at hst
                have hsz : (strN [48 + R]).size = 1 := strN_size _
                clear hah hv hqe heq
                go_wp2_with fail
                refine (RTrim_any _ _ _ qs _ hql.out.symm (hqo.rd.ext ((Ext.refl _).alloc _)) (by have := hql.out; omega)).mono ?_
                rintro e w3 ⟨ro, rc, rs, rfl, hro, hrk, hrv, hrx⟩
                have hext3 := ((hext.trans hqx).alloc (.cells #[.int .u8 (48 + (R : Int))] 5)).trans hrx
                have hrl : rs.length ≤ 10000 := Nat.le_trans (canon_len hrk (by rw [hrv]; exact val_lt hqo.lb)) (by have := hql.out; omega)
                have Hrv := Lib.hid hrv
                have hbk := hext.size
                have hbk2 := hqx.size
                clear hrv
                go_wp2_with fail
                go_roundg (val rs)
                case measure =>
                  have h1 := hg.out
                  have h2 := Hv.out
                  have h3 := Hrv.out
                  by_cases h0 : s.size = 0
                  · rw [if_pos h0] at h1; omega
                  · have := Hc.out (by omega)
                    rw [if_neg h0] at h1; omega
                case rel =>
                  have hbs : bytes (strN [48 + R] ++ s) = (48 + R) :: bytes s := by
                    rw [bytes_append, bytes_strN (by intro z hz; simp at hz; omega)]; rfl
                  have hss : (strN [48 + R] ++ s).size = s.size + 1 := by
                    rw [← bytes_length, hbs, List.length_cons, bytes_length]
                  have hal : allD (bytes (strN [48 + R] ++ s)) := by
                    rw [hbs]
                    intro c hc
                    rcases List.mem_cons.1 hc with rfl | hc
                    · omega
                    · exact (alld_allD s).1 hsd c hc
                  refine ⟨ro, rc, rs, _, rfl, rfl, hrl, by rw [hss]; omega, hrk, hro.mono (by simp; omega), hext3, (alld_allD _).2 hal, ?_, ?_, ?_⟩
                  · unfold Hid; rw [hss, hbs, Hrv.out]; exact Hah.out
                  · unfold Hid; rw [hss, if_neg (by omega)]; rfl
                  · intro _ hv0
                    refine ⟨by rw [bytes_length, hss]; omega, hal, ?_, ?_⟩
                    · have := Hah.out
                      rw [← Hrv.out, hv0] at this
                      rw [hbs]; simpa using this
                    · intro h1
                      rw [bytes_length, hss] at h1
                      have h2 := Hc.out (by omega)
                      have h3 := Hv.out
                      rw [← Hrv.out, hv0] at h3
                      rw [hbs]; simp; omega
              · have hx := (hrd.ext hqx).cell k (by omega)
                have hix := ixk hrd ys.length rfl k (by omega) wr
                have bx := lim_lt hrd.lb k
                have hkz : k < qs.length := by have := hql.out; omega
                have hiz := ixk hqo.rd ys.length hql.out.symm k (by omega) wr
                have hxz := hqo.rd.cell k hkz
                have hf := hqo.frozen (by omega) k
                have hq1 := by_lt (b := 10) hR bx
                have hs := by_step hqe.out (by omega) hkz
                have hmm : ((R : Int) * 4294967296 + (lim ys k : Int)) / 10 < 4294967296 := by omega
                clear hqe heq
                go_wp2_with fail
                have hst := hqo.store k hkz (((R : Int) * 4294967296 + (lim ys k : Int)) / 10) ((R * 4294967296 + lim ys k) / 10) (by omega) hq1
                go_roundw
                case rel => exact ⟨k, (R * 4294967296 + lim ys k) % 10, _, by omega, by go_num, by go_num, by omega, by unfold Hid; rw [List.length_set]; exact hql.out, hst.1, hqx.store (by have := (hqo.blk (by omega)).1; exact this) _, hs⟩
                case measure => simp [intOf]
end Go.Proofs.Ytmnhbjefjadjiaa
