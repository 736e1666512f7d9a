/-
  Parts that count nothing, struck out.
-/
import Derived.Test.YtekhnajfdaknnaaTg
namespace Go.Proofs.Ytekhnajfdaknnaa.S
open Go.RowKit

theorem th_0 : SlT Try.prog 22 47 3 := SlT.mk' Try.underlying22 (by kernel_rfl)
theorem th_1 : Sz Try.prog 47 3 true := Sz.mk' (by kernel_rfl) Try.underlying47 _ rfl
theorem th_2 : Bodied Try.prog 36 := Bodied.mk' (by kernel_rfl)
def th_tb : Tb := [(22, ⟨1, false, [], [.d (.raw nilV)], 1⟩), (3, ⟨1, false, [], [.d (.raw (.int .i64 0))], 13⟩), (4, ⟨1, false, [], [.d (.raw (.bool false))], 3⟩), (24, ⟨1, false, [], [.d (nsl [])], 1⟩), (26, ⟨2, true, [(0, 1, false), (1, 1, false)], [.d (.raw (.bool false)), .d (nsl [])], 0⟩), (47, ⟨3, true, [(0, 1, false), (1, 2, true)], [.d (.raw (.int .i64 0)), .d (.raw (.bool false)), .d (nsl [])], 0⟩)]
theorem th_ok : TbOk Try.prog th_tb := ⟨TyOk.slc Try.underlying22 (by kernel_rfl) ⟨(.slice none 0 0 : Value), [.slice none 0 0], by kernel_rfl, rfl, (fun _ _ => ⟨DR.raw _ rfl, trivial⟩)⟩,
  TyOk.int Try.underlying3 rfl (by kernel_rfl) ⟨(.int .i64 0 : Value), [.int .i64 0], by kernel_rfl, rfl, (fun _ _ => ⟨DR.raw _ rfl, trivial⟩)⟩,
  TyOk.bl Try.underlying4 (by kernel_rfl) ⟨(.bool false : Value), [.bool false], by kernel_rfl, rfl, (fun _ _ => ⟨DR.raw _ rfl, trivial⟩)⟩,
  TyOk.slc Try.underlying24 (by kernel_rfl) ⟨(.slice none 0 0 : Value), [.slice none 0 0], by kernel_rfl, rfl, (fun _ _ => ⟨DR.nil _ _ _ (fun _ => rfl) (Nat.zero_le _), trivial⟩)⟩,
  TyOk.st Try.underlying26 (by kernel_rfl) ⟨⟨by decide, Fd.mk' _ _ Try.underlying26 rfl rfl (Sz.mk' (by kernel_rfl) Try.underlying4 _ rfl)⟩, ⟨by decide, Fd.mk' _ _ Try.underlying26 rfl rfl (Sz.mk' (by kernel_rfl) Try.underlying24 _ rfl)⟩, trivial⟩ ⟨(Value.agg #[.bool false, .slice none 0 0]), [.bool false, .slice none 0 0], by kernel_rfl, rfl, (fun _ _ => ⟨DR.raw _ rfl, DR.nil _ _ _ (fun _ => rfl) (Nat.zero_le _), trivial⟩)⟩ ⟨_, Try.underlying26, ⟨⟨rfl, by kernel_rfl⟩, ⟨rfl, by kernel_rfl⟩, trivial⟩⟩,
  TyOk.st Try.underlying47 (by kernel_rfl) ⟨⟨by decide, Fd.mk' _ _ Try.underlying47 rfl rfl (Sz.mk' (by kernel_rfl) Try.underlying3 _ rfl)⟩, ⟨by decide, Fd.mk' _ _ Try.underlying47 rfl rfl (Sz.mk' (by kernel_rfl) Try.underlying26 _ rfl)⟩, trivial⟩ ⟨(Value.agg #[.int .i64 0, .bool false, .slice none 0 0]), [.int .i64 0, .bool false, .slice none 0 0], by kernel_rfl, rfl, (fun _ _ => ⟨DR.raw _ rfl, DR.raw _ rfl, DR.nil _ _ _ (fun _ => rfl) (Nat.zero_le _), trivial⟩)⟩ ⟨_, Try.underlying47, ⟨⟨rfl, by kernel_rfl⟩, ⟨rfl, by kernel_rfl⟩, trivial⟩⟩,
  trivial⟩
/-- the first part that counts nothing: its place, or -1 -/
def zIdx : List Part → Nat → Int
  | [], _ => -1
  | p :: ps, n => if p.c.val = 0 then n else zIdx ps (n + 1)
theorem zIdx_at {xs : List Part} {j : Nat} {p : Part} (h : xs[j]? = some p) : zIdx (xs.drop j) j = if p.c.val = 0 then (j : Int) else zIdx (xs.drop (j + 1)) (j + 1) := by
  obtain ⟨hj, rfl⟩ := List.getElem?_eq_some_iff.1 h
  rw [List.drop_eq_getElem_cons hj]; rfl
theorem sgn0_t {z : Int} (h : (sgn z == 0) = true) : z = 0 := sgn_eq_zero.1 (by simpa using h)
theorem sgn0_f {z : Int} (h : (sgn z == 0) = false) : z ≠ 0 := fun e => by rw [sgn_zero e] at h; cases h
set_option maxRecDepth 100000 in
theorem SIndexFunc (xs : List Part) (hx : ∀ p ∈ xs, Lb p.c.abs ∧ p.c.abs.length ≤ 50000) (hl : xs.length ≤ 1000000) : Fn Try.prog 58 [(0, .row 47 3 (xs.map Part.d))] [.t (.c (.own 0 xs.length)), .t (.c (.fn (.func 36) [] []))] (vi .i64 (zIdx xs 0)) [(0, .row 47 3 (xs.map Part.d))] := by
  refine Fn.body Try.func58 rfl 19 rfl fun w H B a h => ?_
  refine rSeq th_ok 1 [] [(0, .t (.c (.own 0 xs.length))), (1, .t (.c (.fn (.func 36) [] []))), (4, vi .i64 0)] [(0, .row 47 3 (xs.map Part.d))] (by kernel_rfl) h ?_; clear h; intro a w h
  refine wp_seq ?_
  refine rSeq th_ok 1 [] [(0, .t (.c (.own 0 xs.length))), (1, .t (.c (.fn (.func 36) [] []))), (4, vi .i64 0), (7, vi .i64 (xs.length : Int)), (8, vi .i64 0)] [(0, .row 47 3 (xs.map Part.d))] (by kernel_rfl) h ?_; clear h; intro a w h
  refine wp_block ?_
  refine loopS (ι := (Nat)) (fun (z_ : (Nat)) => match z_ with | j => j ≤ xs.length ∧ zIdx xs 0 = zIdx (xs.drop j) j)
      (fun (z_ : (Nat)) => match z_ with | j => [(0, .t (.c (.own 0 xs.length))), (1, .t (.c (.fn (.func 36) [] []))), (7, vi .i64 (xs.length : Int)), (8, vi .i64 (j : Int))])
      (fun (z_ : (Nat)) => match z_ with | j => [(0, .row 47 3 (xs.map Part.d))])
      (fun (z_ : (Nat)) => match z_ with | j => xs.length - j) 0 ?_ h (by kernel_rfl) (by kernel_rfl) ?_
  · exact ⟨Nat.zero_le _, rfl⟩
  · clear h; rintro j a w hI h
    change St _ (F.of [(0, .t (.c (.own 0 xs.length))), (1, .t (.c (.fn (.func 36) [] []))), (7, vi .i64 (xs.length : Int)), (8, vi .i64 (j : Int))] [(0, .row 47 3 (xs.map Part.d))]) a w at h
    obtain ⟨hI1, hI2⟩ := hI
    refine rSeq th_ok 1 [] [(0, .t (.c (.own 0 xs.length))), (1, .t (.c (.fn (.func 36) [] []))), (7, vi .i64 (xs.length : Int)), (8, vi .i64 (j : Int)), (9, vb (decide ((j : Int) < (xs.length : Int))))] [(0, .row 47 3 (xs.map Part.d))] (by kernel_rfl) h ?_; clear h; intro a w h
    refine wp_seq ?_
    refine condS (decide ((j : Int) < (xs.length : Int))) h rfl (fun hc => ?_) (fun hc => ?_)
    · have hc1 := hc; clear hc
      have hc1' := of_decide_eq_true hc1
      refine wp_skip ?_
      refine then_n ?_
      refine wp_seq ?_
      refine wp_block ?_
      refine rSeq th_ok 1 [] [(0, .t (.c (.own 0 xs.length))), (1, .t (.c (.fn (.func 36) [] []))), (5, vi .i64 (j : Int)), (7, vi .i64 (xs.length : Int)), (8, vi .i64 (j : Int))] [(0, .row 47 3 (xs.map Part.d))] (by kernel_rfl) h ?_; clear h; intro a w h
      obtain ⟨x1, hx1⟩ : ∃ z_ : Part, xs[j]? = some z_ := ⟨_, List.getElem?_eq_getElem (by first | omega | (simp at *; omega))⟩
      obtain ⟨ox1, lx1⟩ := hx x1 (List.mem_of_getElem? hx1)
      refine rSeq th_ok 1 [(3, .gen _ _ _ fun _ _ _ _ => Op.idxO (d := 14) (t := 12) (k := .i64) (n := 0) (len := xs.length) (i := j) th_0 (by first | omega | (simp at *; omega)) (OV.tmp 13 _)), (4, .gen _ _ _ fun _ _ _ _ => Op.loadR_agg (d := 15) (t := 14) (n := 0) (i := j) (fo := 0) (rty := 47) (es := 3) (xs := [.raw (.int .i64 x1.v), .raw (.bool x1.c.neg), nsl x1.c.abs]) th_1 rfl (map_at hx1 (f := Part.d)) rfl rfl), (5, .gen _ _ _ fun _ _ _ _ => Op.callV (d := 16) (t := 11) (cap := []) (args := [.t (.agg ([.d (.raw (.int .i64 x1.v))] ++ zi x1.c))]) (rs := [(15, .t (.agg ([.d (.raw (.int .i64 x1.v))] ++ zi x1.c)))]) (tys := #[47]) (SPlain2 x1 ox1 (by omega)) th_2 (OVs.cons (OV.tmp 15 _) (OVs.nil)))] [(0, .t (.c (.own 0 xs.length))), (1, .t (.c (.fn (.func 36) [] []))), (5, vi .i64 (j : Int)), (7, vi .i64 (xs.length : Int)), (8, vi .i64 (j : Int)), (16, vb (sgn x1.c.val == 0))] [(0, .row 47 3 (xs.map Part.d))] (by kernel_rfl) h ?_; clear h; intro a w h
      refine condS (sgn x1.c.val == 0) h rfl (fun hc => ?_) (fun hc => ?_)
      · have hc2 := hc; clear hc
        have hc2' := hc2; (try simp at hc2')
        refine rSeq th_ok 1 [] [(0, .t (.c (.own 0 xs.length))), (1, .t (.c (.fn (.func 36) [] []))), (4, vi .i64 (j : Int)), (7, vi .i64 (xs.length : Int)), (8, vi .i64 (j : Int))] [(0, .row 47 3 (xs.map Part.d))] (by kernel_rfl) h ?_; clear h; intro a w h
        refine wp_ret ?_
        refine block_r ?_
        refine then_r ?_
        refine then_r ?_
        refine block_r ?_
        refine then_r ?_
        refine retS [.c (.d (.raw (.int .i64 (j : Int))))] h Exit.ret (.inl rfl)  rfl ⟨RV.tmp _ _ rfl, trivial⟩ ?_ (by kernel_rfl) (by kernel_rfl)
        have hz : zIdx xs 0 = (j : Int) := by rw [hI2, zIdx_at hx1, if_pos (sgn0_t hc2)]
        rw [hz]; first | done | rfl
      · have hc3 := hc; clear hc
        have hc3' := hc3; (try simp at hc3')
        refine wp_skip ?_
        refine block_n ?_
        refine then_n ?_
        refine rS th_ok 1 [(0, .add .i64 (m := (j : Int)) (n := 1) (i64_id (by omega) (by omega)))] [(0, .t (.c (.own 0 xs.length))), (1, .t (.c (.fn (.func 36) [] []))), (7, vi .i64 (xs.length : Int)), (8, vi .i64 ((j : Int) + 1))] [(0, .row 47 3 (xs.map Part.d))] (by kernel_rfl) h ?_; clear h; intro a w h
        refine then_n ?_
        refine roundS (x := j) (y := j + 1) h ?_ ?_ (by kernel_rfl) (by kernel_rfl)
        · exact ⟨by have := at_lt hx1; omega, by rw [hI2, zIdx_at hx1, if_neg (sgn0_f hc3)]⟩
        · simp; omega
    · have hc4 := hc; clear hc
      have hc4' := of_decide_eq_false hc4
      refine wp_exit ?_
      refine then_x ?_
      refine then_x ?_
      refine inBlock_exit ?_
      refine then_n ?_
      refine rSeq th_ok 1 [] [(4, vi .i64 (-1))] [(0, .row 47 3 (xs.map Part.d))] (by kernel_rfl) h ?_; clear h; intro a w h
      refine wp_ret ?_
      refine retS [.c (.d (.raw (.int .i64 (-1))))] h Exit.ret (.inl rfl)  rfl ⟨RV.tmp _ _ rfl, trivial⟩ ?_ (by kernel_rfl) (by kernel_rfl)
      have hz : zIdx xs 0 = -1 := by rw [hI2, List.drop_of_length_le (by omega)]; rfl
      rw [hz]; first | done | rfl
end Go.Proofs.Ytekhnajfdaknnaa.S
