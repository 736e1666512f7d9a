/-
  Two sorted parts of a row are merged in place.
-/
import Derived.Test.YtekhnajfdaknnaaTh
import Derived.Test.YtekhnajfdaknnaaStc
import Derived.Test.YtekhnajfdaknnaaSigJ
namespace Go.Proofs.Ytekhnajfdaknnaa.S
open Go.RowKit

theorem ti_0 : SlT Try.prog 22 47 3 := SlT.mk' Try.underlying22 (by kernel_rfl)
theorem ti_1 : Sz Try.prog 47 3 true := Sz.mk' (by kernel_rfl) Try.underlying47 _ rfl
theorem ti_2 : Bodied Try.prog 31 := Bodied.mk' (by kernel_rfl)
theorem ti_3 : Bodied Try.prog 80 := Bodied.mk' (by kernel_rfl)
theorem ti_4 : Bodied Try.prog 72 := Bodied.mk' (by kernel_rfl)
def ti_tb : Tb := [(3, ⟨1, false, [], [.d (.raw (.int .i64 0))], 13⟩), (83, ⟨1, false, [], [.d (.raw (.int .u64 0))], 17⟩), (4, ⟨1, false, [], [.d (.raw (.bool false))], 3⟩), (24, ⟨1, false, [], [.d (nsl [])], 1⟩), (26, ⟨2, true, [(0, 1, false), (1, 1, false)], [.d (.raw (.bool false)), .d (nsl [])], 0⟩), (47, ⟨3, true, [(0, 1, false), (1, 2, true)], [.d (.raw (.int .i64 0)), .d (.raw (.bool false)), .d (nsl [])], 0⟩)]
theorem ti_ok : TbOk Try.prog ti_tb := ⟨TyOk.int Try.underlying3 rfl (by kernel_rfl) ⟨(.int .i64 0 : Value), [.int .i64 0], by kernel_rfl, rfl, (fun _ _ => ⟨DR.raw _ rfl, trivial⟩)⟩,
  TyOk.int Try.underlying83 rfl (by kernel_rfl) ⟨(.int .u64 0 : Value), [.int .u64 0], by kernel_rfl, rfl, (fun _ _ => ⟨DR.raw _ rfl, trivial⟩)⟩,
  TyOk.bl Try.underlying4 (by kernel_rfl) ⟨(.bool false : Value), [.bool false], by kernel_rfl, rfl, (fun _ _ => ⟨DR.raw _ rfl, trivial⟩)⟩,
  TyOk.slc Try.underlying24 (by kernel_rfl) ⟨(.slice none 0 0 : Value), [.slice none 0 0], by kernel_rfl, rfl, (fun _ _ => ⟨DR.nil _ _ _ (fun _ => rfl) (Nat.zero_le _), trivial⟩)⟩,
  TyOk.st Try.underlying26 (by kernel_rfl) ⟨⟨by decide, Fd.mk' _ _ Try.underlying26 rfl rfl (Sz.mk' (by kernel_rfl) Try.underlying4 _ rfl)⟩, ⟨by decide, Fd.mk' _ _ Try.underlying26 rfl rfl (Sz.mk' (by kernel_rfl) Try.underlying24 _ rfl)⟩, trivial⟩ ⟨(Value.agg #[.bool false, .slice none 0 0]), [.bool false, .slice none 0 0], by kernel_rfl, rfl, (fun _ _ => ⟨DR.raw _ rfl, DR.nil _ _ _ (fun _ => rfl) (Nat.zero_le _), trivial⟩)⟩ ⟨_, Try.underlying26, ⟨⟨rfl, by kernel_rfl⟩, ⟨rfl, by kernel_rfl⟩, trivial⟩⟩,
  TyOk.st Try.underlying47 (by kernel_rfl) ⟨⟨by decide, Fd.mk' _ _ Try.underlying47 rfl rfl (Sz.mk' (by kernel_rfl) Try.underlying3 _ rfl)⟩, ⟨by decide, Fd.mk' _ _ Try.underlying47 rfl rfl (Sz.mk' (by kernel_rfl) Try.underlying26 _ rfl)⟩, trivial⟩ ⟨(Value.agg #[.int .i64 0, .bool false, .slice none 0 0]), [.int .i64 0, .bool false, .slice none 0 0], by kernel_rfl, rfl, (fun _ _ => ⟨DR.raw _ rfl, DR.raw _ rfl, DR.nil _ _ _ (fun _ => rfl) (Nat.zero_le _), trivial⟩)⟩ ⟨_, Try.underlying47, ⟨⟨rfl, by kernel_rfl⟩, ⟨rfl, by kernel_rfl⟩, trivial⟩⟩,
  trivial⟩
theorem Srotate2 {r0 r1 : List Part} {L a m b : Nat} (pre X Y post : List Part) (e0 : r0 = pre ++ X ++ Y ++ post) (e1 : r1 = pre ++ (Y ++ X) ++ post) (eL : L = pre.length + X.length + Y.length + post.length) (ea : a = pre.length) (em : m = pre.length + X.length) (eb : b = pre.length + X.length + Y.length) (hX : 0 < X.length) (hY : 0 < Y.length) (hl : L ≤ 1000000) :
    Fn Try.prog 80 [(0, .row 47 3 (r0.map Part.d))] [.t (.c (.own 0 L)), vi .i64 (a : Int), vi .i64 (m : Int), vi .i64 (b : Int), .t (.c (.fn (.func 31) [] []))] (.tup []) [(0, .row 47 3 (r1.map Part.d))] := by
  subst eL e0 e1 ea em eb
  exact Srotate pre X Y post hX hY hl
/-- two rising parts of a row, and what becomes of it -/
def SymP (N L a m b : Nat) (r0 r1 : List Part) : Prop := ∃ pre X Y post : List Part, X.length + Y.length = N ∧ a = pre.length ∧ m = pre.length + X.length ∧ b = pre.length + X.length + Y.length ∧ L = pre.length + X.length + Y.length + post.length ∧ L ≤ 1000000 ∧ 0 < X.length ∧ 0 < Y.length ∧ Ris Part.v X ∧ Ris Part.v Y ∧
  r0 = pre ++ X ++ Y ++ post ∧ r1 = pre ++ ssV Part.v (X ++ Y) ++ post
theorem ssV_e {a b : List Part} (h : a.length = 0 ∨ b.length = 0) (ra : Ris Part.v a) (rb : Ris Part.v b) : ssV Part.v (a ++ b) = a ++ b := by
  rcases h with h | h
  · rw [len_nil h, List.nil_append]; exact ssV_of rb
  · rw [len_nil h, List.append_nil]; exact ssV_of ra
def SymIH (N : Nat) : Prop := ∀ n, n < N → ∀ (L a m b : Nat) (r0 r1 : List Part), SymP n L a m b r0 r1 → Fn Try.prog 72 [(0, .row 47 3 (r0.map Part.d))] [.t (.c (.own 0 L)), vi .i64 (a : Int), vi .i64 (m : Int), vi .i64 (b : Int), .t (.c (.fn (.func 31) [] []))] (.tup []) [(0, .row 47 3 (r1.map Part.d))]
set_option maxHeartbeats 4000000 in
set_option maxRecDepth 100000 in
theorem SsymN {N L lo m b : Nat} {r0 r1 : List Part} (ih : SymIH N) (hs : SymP N L lo m b r0 r1)  : Fn Try.prog 72 [(0, .row 47 3 (r0.map Part.d))] [.t (.c (.own 0 L)), vi .i64 (lo : Int), vi .i64 (m : Int), vi .i64 (b : Int), .t (.c (.fn (.func 31) [] []))] (.tup []) [(0, .row 47 3 (r1.map Part.d))] := by
  obtain ⟨pre, X, Y, post, hN, ha, hm, hb, hL, hl, hX, hY, rX, rY, rfl, rfl⟩ := hs
  have hlen : (pre ++ X ++ Y ++ post).length = L := by simp only [List.length_append]; omega
  refine Fn.body Try.func72 rfl 220 rfl fun w H B a h => ?_
  refine wp_seq ?_
  refine rSeq ti_ok 1 [(2, .gen _ _ _ fun _ _ _ _ => Op.arith (op := .sub) (d := 27) (xt := 3) (yt := 3) (k := .i64) (m := (m : Int)) (n := (lo : Int)) (r := (X.length : Int)) (OV.tmp 25 _) (OV.tmp 26 _) (.inr (.inl ⟨rfl, (by omega)⟩)) (i64_id (by omega) (by omega)))] [(0, .t (.c (.own 0 L))), (1, vi .i64 (lo : Int)), (2, vi .i64 (m : Int)), (3, vi .i64 (b : Int)), (4, .t (.c (.fn (.func 31) [] []))), (28, vb ((X.length : Int) == 1))] [(0, .row 47 3 ((pre ++ X ++ Y ++ post).map Part.d))] (by kernel_rfl) h ?_; clear h; intro a w h
  refine condS ((X.length : Int) == 1) h rfl (fun hc => ?_) (fun hc => ?_)
  · have hc1 := hc; clear hc
    have hc1' := hc1; (try simp at hc1')
    refine rSeq ti_ok 1 [] [(0, .t (.c (.own 0 L))), (1, vi .i64 (lo : Int)), (2, vi .i64 (m : Int)), (3, vi .i64 (b : Int)), (4, .t (.c (.fn (.func 31) [] []))), (10, vi .i64 (m : Int))] [(0, .row 47 3 ((pre ++ X ++ Y ++ post).map Part.d))] (by kernel_rfl) h ?_; clear h; intro a w h
    refine rSeq ti_ok 1 [] [(0, .t (.c (.own 0 L))), (1, vi .i64 (lo : Int)), (2, vi .i64 (m : Int)), (3, vi .i64 (b : Int)), (4, .t (.c (.fn (.func 31) [] []))), (10, vi .i64 (m : Int)), (11, vi .i64 (b : Int))] [(0, .row 47 3 ((pre ++ X ++ Y ++ post).map Part.d))] (by kernel_rfl) h ?_; clear h; intro a w h
    refine wp_seq ?_
    refine wp_block ?_
    refine loopS (ι := (Nat) × (Nat)) (fun (z_ : (Nat) × (Nat)) => match z_ with | (i, j) => m ≤ i ∧ i ≤ j ∧ j ≤ b ∧ (i = m ∨ kat (pre ++ X ++ Y ++ post) (i - 1) < kat (pre ++ X ++ Y ++ post) (lo)) ∧ (j = b ∨ kat (pre ++ X ++ Y ++ post) (lo) ≤ kat (pre ++ X ++ Y ++ post) (j)))
        (fun (z_ : (Nat) × (Nat)) => match z_ with | (i, j) => [(0, .t (.c (.own 0 L))), (1, vi .i64 (lo : Int)), (2, vi .i64 (m : Int)), (3, vi .i64 (b : Int)), (4, .t (.c (.fn (.func 31) [] []))), (10, vi .i64 (i : Int)), (11, vi .i64 (j : Int))])
        (fun (z_ : (Nat) × (Nat)) => match z_ with | (i, j) => [(0, .row 47 3 ((pre ++ X ++ Y ++ post).map Part.d))])
        (fun (z_ : (Nat) × (Nat)) => match z_ with | (i, j) => j - i) (m, b) ?_ h (by kernel_rfl) (by kernel_rfl) ?_
    · exact ⟨Nat.le_refl _, by omega, Nat.le_refl _, .inl rfl, .inl rfl⟩
    · clear h; rintro ⟨i, j⟩ a w hI h
      change St _ (F.of [(0, .t (.c (.own 0 L))), (1, vi .i64 (lo : Int)), (2, vi .i64 (m : Int)), (3, vi .i64 (b : Int)), (4, .t (.c (.fn (.func 31) [] []))), (10, vi .i64 (i : Int)), (11, vi .i64 (j : Int))] [(0, .row 47 3 ((pre ++ X ++ Y ++ post).map Part.d))]) a w at h
      obtain ⟨q1, q2, q3, q4, q5⟩ := hI
      refine wp_seq ?_
      refine rSeq ti_ok 1 [] [(0, .t (.c (.own 0 L))), (1, vi .i64 (lo : Int)), (2, vi .i64 (m : Int)), (3, vi .i64 (b : Int)), (4, .t (.c (.fn (.func 31) [] []))), (10, vi .i64 (i : Int)), (11, vi .i64 (j : Int)), (33, vb (decide ((i : Int) < (j : Int))))] [(0, .row 47 3 ((pre ++ X ++ Y ++ post).map Part.d))] (by kernel_rfl) h ?_; clear h; intro a w h
      refine condS (decide ((i : Int) < (j : Int))) h rfl (fun hc => ?_) (fun hc => ?_)
      · have hc2 := hc; clear hc
        have hc2' := of_decide_eq_true hc2
        refine wp_skip ?_
        refine then_n ?_
        refine wp_block ?_
        refine rSeq ti_ok 1 [(2, .gen _ _ _ fun _ _ _ _ => Op.arith (op := .add) (d := 36) (xt := 3) (yt := 3) (k := .i64) (m := (i : Int)) (n := (j : Int)) (r := ((i + j : Nat) : Int)) (OV.tmp 34 _) (OV.tmp 35 _) (.inl ⟨rfl, (by omega)⟩) (i64_id (by omega) (by omega))), (3, .conv .i64 .u64 (m := ((i + j : Nat) : Int)) (u64_id (by omega) (by omega))), (4, .gen _ _ _ fun _ _ _ _ => Op.shr (d := 38) (xt := 83) (yt := 83) (k := .u64) (k' := .u64) (m := ((i + j : Nat) : Int)) (n := 1) (r := (((i + j) / 2 : Nat) : Int)) (OV.tmp 37 _) (OV.const (.int .u64 1) rfl) (by decide) (half _)), (5, .conv .u64 .i64 (m := (((i + j) / 2 : Nat) : Int)) (i64_id (by omega) (by omega)))] [(0, .t (.c (.own 0 L))), (1, vi .i64 (lo : Int)), (2, vi .i64 (m : Int)), (3, vi .i64 (b : Int)), (4, .t (.c (.fn (.func 31) [] []))), (10, vi .i64 (i : Int)), (11, vi .i64 (j : Int)), (12, vi .i64 (((i + j) / 2 : Nat) : Int))] [(0, .row 47 3 ((pre ++ X ++ Y ++ post).map Part.d))] (by kernel_rfl) h ?_; clear h; intro a w h
        obtain ⟨x1, hx1⟩ : ∃ z_ : Part, (pre ++ X ++ Y ++ post)[(i + j) / 2]? = some z_ := ⟨_, List.getElem?_eq_getElem (by first | omega | (simp at *; omega))⟩
        obtain ⟨x2, hx2⟩ : ∃ z_ : Part, (pre ++ X ++ Y ++ post)[lo]? = some z_ := ⟨_, List.getElem?_eq_getElem (by first | omega | (simp at *; omega))⟩
        refine rSeq ti_ok 1 [(3, .gen _ _ _ fun _ _ _ _ => Op.idxO (d := 43) (t := 41) (k := .i64) (n := 0) (len := L) (i := ((i + j) / 2)) ti_0 (by first | omega | (simp at *; omega)) (OV.tmp 42 _)), (4, .gen _ _ _ fun _ _ _ _ => Op.loadR_agg (d := 44) (t := 43) (n := 0) (i := ((i + j) / 2)) (fo := 0) (rty := 47) (es := 3) (xs := [.raw (.int .i64 x1.v), .raw (.bool x1.c.neg), nsl x1.c.abs]) ti_1 rfl (map_at hx1 (f := Part.d)) rfl rfl), (7, .gen _ _ _ fun _ _ _ _ => Op.idxO (d := 47) (t := 45) (k := .i64) (n := 0) (len := L) (i := lo) ti_0 (by first | omega | (simp at *; omega)) (OV.tmp 46 _)), (8, .gen _ _ _ fun _ _ _ _ => Op.loadR_agg (d := 48) (t := 47) (n := 0) (i := lo) (fo := 0) (rty := 47) (es := 3) (xs := [.raw (.int .i64 x2.v), .raw (.bool x2.c.neg), nsl x2.c.abs]) ti_1 rfl (map_at hx2 (f := Part.d)) rfl rfl), (9, .gen _ _ _ fun _ _ _ _ => Op.callV (d := 49) (t := 40) (cap := []) (args := [.t (.agg ([.d (.raw (.int .i64 x1.v))] ++ zi x1.c)), .t (.agg ([.d (.raw (.int .i64 x2.v))] ++ zi x2.c))]) (rs := [(44, .t (.agg ([.d (.raw (.int .i64 x1.v))] ++ zi x1.c))), (48, .t (.agg ([.d (.raw (.int .i64 x2.v))] ++ zi x2.c)))]) (tys := #[47, 47]) (SPlain1 x1 x2) ti_2 (OVs.cons (OV.tmp 44 _) (OVs.cons (OV.tmp 48 _) (OVs.nil))))] [(0, .t (.c (.own 0 L))), (1, vi .i64 (lo : Int)), (2, vi .i64 (m : Int)), (3, vi .i64 (b : Int)), (4, .t (.c (.fn (.func 31) [] []))), (10, vi .i64 (i : Int)), (11, vi .i64 (j : Int)), (12, vi .i64 (((i + j) / 2 : Nat) : Int)), (50, vb (decide (cmpZ x1.v x2.v < 0)))] [(0, .row 47 3 ((pre ++ X ++ Y ++ post).map Part.d))] (by kernel_rfl) h ?_; clear h; intro a w h
        refine condS (decide (cmpZ x1.v x2.v < 0)) h rfl (fun hc => ?_) (fun hc => ?_)
        · have hc3 := hc; clear hc
          have hc3' := of_decide_eq_true hc3
          refine rS ti_ok 1 [(1, .gen _ _ _ fun _ _ _ _ => Op.arith (op := .add) (d := 52) (xt := 3) (yt := 3) (k := .i64) (m := (((i + j) / 2 : Nat) : Int)) (n := 1) (r := (((i + j) / 2 + 1 : Nat) : Int)) (OV.tmp 51 _) (OV.const (.int .i64 1) rfl) (.inl ⟨rfl, (by omega)⟩) (i64_id (by omega) (by omega)))] [(0, .t (.c (.own 0 L))), (1, vi .i64 (lo : Int)), (2, vi .i64 (m : Int)), (3, vi .i64 (b : Int)), (4, .t (.c (.fn (.func 31) [] []))), (10, vi .i64 (((i + j) / 2 + 1 : Nat) : Int)), (11, vi .i64 (j : Int))] [(0, .row 47 3 ((pre ++ X ++ Y ++ post).map Part.d))] (by kernel_rfl) h ?_; clear h; intro a w h
          refine block_n ?_
          refine then_n ?_
          refine roundS (x := (i, j)) (y := (((i + j) / 2 + 1), j)) h ?_ ?_ (by kernel_rfl) (by kernel_rfl)
          · exact ⟨by omega, by omega, by omega, .inr (by rw [show (i + j) / 2 + 1 - 1 = (i + j) / 2 from rfl, kat_of hx1, kat_of hx2]; exact cmpZ_lt0.1 hc3'), q5⟩
          · show j - ((i + j) / 2 + 1) < j - i
            omega
        · have hc4 := hc; clear hc
          have hc4' := of_decide_eq_false hc4
          refine rS ti_ok 1 [] [(0, .t (.c (.own 0 L))), (1, vi .i64 (lo : Int)), (2, vi .i64 (m : Int)), (3, vi .i64 (b : Int)), (4, .t (.c (.fn (.func 31) [] []))), (10, vi .i64 (i : Int)), (11, vi .i64 (((i + j) / 2 : Nat) : Int))] [(0, .row 47 3 ((pre ++ X ++ Y ++ post).map Part.d))] (by kernel_rfl) h ?_; clear h; intro a w h
          refine block_n ?_
          refine then_n ?_
          refine roundS (x := (i, j)) (y := (i, ((i + j) / 2))) h ?_ ?_ (by kernel_rfl) (by kernel_rfl)
          · exact ⟨by omega, by omega, by omega, q4, .inr (by rw [kat_of hx1, kat_of hx2]; exact Int.not_lt.1 (mt cmpZ_lt0.2 hc4'))⟩
          · show (i + j) / 2 - i < j - i
            omega
      · have hc5 := hc; clear hc
        have hc5' := of_decide_eq_false hc5
        refine wp_exit ?_
        refine then_x ?_
        refine then_x ?_
        refine inBlock_exit ?_
        refine then_n ?_
        refine wp_seq ?_
        obtain ⟨x, b1, b2, hX1, hY1, hi1, hsm⟩ := srch1 (pre := pre) (X := X) (Y := Y) (post := post) (i := i) (by omega) rY (by omega) (by omega) (q4.elim (fun g => .inl (by omega)) (fun g => .inr (by rw [← ha]; exact g))) (q5.elim (fun g => .inl (by omega)) (fun g => .inr (by rw [← ha, show i = j by omega]; exact g)))
        have hlb : Y.length = b1.length + b2.length := by rw [hY1, List.length_append]
        replace h := h.conv (f' := F.of [(0, .t (.c (.own 0 L))), (1, vi .i64 (lo : Int)), (2, vi .i64 (m : Int)), (3, vi .i64 (b : Int)), (4, .t (.c (.fn (.func 31) [] []))), (10, vi .i64 (i : Int)), (11, vi .i64 (j : Int)), (33, vb (decide ((i : Int) < (j : Int))))] [(0, .row 47 3 ((pre ++ b1.take 0 ++ x :: (b1.drop 0 ++ (b2 ++ post))).map Part.d))]) (by rw [show ((pre ++ X ++ Y ++ post) : List Part) = (pre ++ b1.take 0 ++ x :: (b1.drop 0 ++ (b2 ++ post))) from by rw [hX1, hY1]; simp])
        refine rSeq ti_ok 1 [] [(0, .t (.c (.own 0 L))), (1, vi .i64 (lo : Int)), (2, vi .i64 (m : Int)), (3, vi .i64 (b : Int)), (4, .t (.c (.fn (.func 31) [] []))), (10, vi .i64 (i : Int)), (13, vi .i64 (lo : Int))] [(0, .row 47 3 ((pre ++ b1.take 0 ++ x :: (b1.drop 0 ++ (b2 ++ post))).map Part.d))] (by kernel_rfl) h ?_; clear h; intro a w h
        refine wp_block ?_
        refine loopS (ι := (Nat) × (Nat)) (fun (z_ : (Nat) × (Nat)) => match z_ with | (k, t) => k = lo + t ∧ t ≤ b1.length)
            (fun (z_ : (Nat) × (Nat)) => match z_ with | (k, t) => [(0, .t (.c (.own 0 L))), (1, vi .i64 (lo : Int)), (2, vi .i64 (m : Int)), (3, vi .i64 (b : Int)), (4, .t (.c (.fn (.func 31) [] []))), (10, vi .i64 (i : Int)), (13, vi .i64 (k : Int))])
            (fun (z_ : (Nat) × (Nat)) => match z_ with | (k, t) => [(0, .row 47 3 ((pre ++ b1.take t ++ x :: (b1.drop t ++ (b2 ++ post))).map Part.d))])
            (fun (z_ : (Nat) × (Nat)) => match z_ with | (k, t) => b1.length - t) (lo, 0) ?_ h (by kernel_rfl) (by kernel_rfl) ?_
        · exact ⟨rfl, Nat.zero_le _⟩
        · clear h; rintro ⟨k, t⟩ a w hI h
          change St _ (F.of [(0, .t (.c (.own 0 L))), (1, vi .i64 (lo : Int)), (2, vi .i64 (m : Int)), (3, vi .i64 (b : Int)), (4, .t (.c (.fn (.func 31) [] []))), (10, vi .i64 (i : Int)), (13, vi .i64 (k : Int))] [(0, .row 47 3 ((pre ++ b1.take t ++ x :: (b1.drop t ++ (b2 ++ post))).map Part.d))]) a w at h
          obtain ⟨p1, p2⟩ := hI
          refine wp_seq ?_
          refine rSeq ti_ok 1 [(2, .gen _ _ _ fun _ _ _ _ => Op.arith (op := .sub) (d := 57) (xt := 3) (yt := 3) (k := .i64) (m := (i : Int)) (n := 1) (r := ((lo + b1.length : Nat) : Int)) (OV.tmp 56 _) (OV.const (.int .i64 1) rfl) (.inr (.inl ⟨rfl, (by omega)⟩)) (i64_id (by omega) (by omega)))] [(0, .t (.c (.own 0 L))), (1, vi .i64 (lo : Int)), (2, vi .i64 (m : Int)), (3, vi .i64 (b : Int)), (4, .t (.c (.fn (.func 31) [] []))), (10, vi .i64 (i : Int)), (13, vi .i64 (k : Int)), (58, vb (decide ((k : Int) < ((lo + b1.length : Nat) : Int))))] [(0, .row 47 3 ((pre ++ b1.take t ++ x :: (b1.drop t ++ (b2 ++ post))).map Part.d))] (by kernel_rfl) h ?_; clear h; intro a w h
          refine condS (decide ((k : Int) < ((lo + b1.length : Nat) : Int))) h rfl (fun hc => ?_) (fun hc => ?_)
          · have hc6 := hc; clear hc
            have hc6' := of_decide_eq_true hc6
            refine wp_skip ?_
            refine then_n ?_
            refine wp_seq ?_
            refine wp_block ?_
            obtain ⟨y, hy⟩ : ∃ z_ : Part, b1[t]? = some z_ := ⟨_, List.getElem?_eq_getElem (by omega)⟩
            refine rS ti_ok 1 [(4, .gen _ _ _ fun _ _ _ _ => Op.arith (op := .add) (d := 65) (xt := 3) (yt := 3) (k := .i64) (m := (k : Int)) (n := 1) (r := ((k + 1 : Nat) : Int)) (OV.tmp 64 _) (OV.const (.int .i64 1) rfl) (.inl ⟨rfl, (by omega)⟩) (i64_id (by omega) (by omega))), (7, .gen _ _ _ fun _ _ _ _ => Op.arith (op := .add) (d := 68) (xt := 3) (yt := 3) (k := .i64) (m := (k : Int)) (n := 1) (r := ((k + 1 : Nat) : Int)) (OV.tmp 67 _) (OV.const (.int .i64 1) rfl) (.inl ⟨rfl, (by omega)⟩) (i64_id (by omega) (by omega))), (8, .gen _ _ _ fun _ _ _ _ => Op.idxO (d := 69) (t := 66) (k := .i64) (n := 0) (len := L) (i := (k + 1)) ti_0 (by first | omega | (simp at *; omega)) (OV.tmp 68 _)), (9, .gen _ _ _ fun _ _ _ _ => Op.loadR_agg (d := 70) (t := 69) (n := 0) (i := (k + 1)) (fo := 0) (rty := 47) (es := 3) (xs := [.raw (.int .i64 y.v), .raw (.bool y.c.neg), nsl y.c.abs]) ti_1 rfl (map_at (show ((pre ++ b1.take t ++ x :: (b1.drop t ++ (b2 ++ post))) : List Part)[k + 1]? = some y from (up_nx (p := pre) (k + 1) (by omega) hy)) (f := Part.d)) rfl rfl), (12, .gen _ _ _ fun _ _ _ _ => Op.idxO (d := 73) (t := 71) (k := .i64) (n := 0) (len := L) (i := k) ti_0 (by first | omega | (simp at *; omega)) (OV.tmp 72 _)), (13, .gen _ _ _ fun _ _ _ _ => Op.loadR_agg (d := 74) (t := 73) (n := 0) (i := k) (fo := 0) (rty := 47) (es := 3) (xs := [.raw (.int .i64 x.v), .raw (.bool x.c.neg), nsl x.c.abs]) ti_1 rfl (map_at (show ((pre ++ b1.take t ++ x :: (b1.drop t ++ (b2 ++ post))) : List Part)[k]? = some x from (up_at (p := pre) (q := b1) (t := t) k (by omega) (by omega))) (f := Part.d)) rfl rfl), (14, .gen _ _ _ fun _ _ _ _ => Op.idxO (d := 75) (t := 61) (k := .i64) (n := 0) (len := L) (i := k) ti_0 (by first | omega | (simp at *; omega)) (OV.tmp 62 _)), (15, .gen _ _ _ fun _ _ _ _ => Op.storeR (t := 75) (n := 0) (i := k) (fo := 0) (rty := 47) (es := 3) (r := Part.d x) (ds := [.raw (.int .i64 y.v), .raw (.bool y.c.neg), nsl y.c.abs]) (rs := [(70, .t (.agg ([.d (.raw (.int .i64 y.v))] ++ zi y.c)))]) (rows := (pre ++ b1.take t ++ x :: (b1.drop t ++ (b2 ++ post))).map Part.d) (rows' := ((pre ++ b1.take t ++ x :: (b1.drop t ++ (b2 ++ post))).set k y).map Part.d) ti_1 (OV.tmp 70 _) rfl rfl rfl (map_at (show ((pre ++ b1.take t ++ x :: (b1.drop t ++ (b2 ++ post))) : List Part)[k]? = some x from (up_at (p := pre) (q := b1) (t := t) k (by omega) (by omega))) (f := Part.d)) (by simp [Part.d]) (set_map (xs := (pre ++ b1.take t ++ x :: (b1.drop t ++ (b2 ++ post)))) (F := Part.d) k _ _ rfl)), (16, .gen _ _ _ fun _ _ _ _ => Op.idxO (d := 76) (t := 63) (k := .i64) (n := 0) (len := L) (i := (k + 1)) ti_0 (by first | omega | (simp at *; omega)) (OV.tmp 65 _)), (17, .gen _ _ _ fun _ _ _ _ => Op.storeR (t := 76) (n := 0) (i := (k + 1)) (fo := 0) (rty := 47) (es := 3) (r := Part.d y) (ds := [.raw (.int .i64 x.v), .raw (.bool x.c.neg), nsl x.c.abs]) (rs := [(74, .t (.agg ([.d (.raw (.int .i64 x.v))] ++ zi x.c)))]) (rows := ((pre ++ b1.take t ++ x :: (b1.drop t ++ (b2 ++ post))).set k y).map Part.d) (rows' := (((pre ++ b1.take t ++ x :: (b1.drop t ++ (b2 ++ post))).set k y).set (k + 1) x).map Part.d) ti_1 (OV.tmp 74 _) rfl rfl rfl (map_at ((List.getElem?_set_ne (by omega)).trans (show ((pre ++ b1.take t ++ x :: (b1.drop t ++ (b2 ++ post))) : List Part)[k + 1]? = some y from (up_nx (p := pre) (k + 1) (by omega) hy))) (f := Part.d)) (by simp [Part.d]) (set_map (xs := ((pre ++ b1.take t ++ x :: (b1.drop t ++ (b2 ++ post))).set k y)) (F := Part.d) (k + 1) _ _ rfl))] [(0, .t (.c (.own 0 L))), (1, vi .i64 (lo : Int)), (2, vi .i64 (m : Int)), (3, vi .i64 (b : Int)), (4, .t (.c (.fn (.func 31) [] []))), (10, vi .i64 (i : Int)), (13, vi .i64 (k : Int))] [(0, .row 47 3 ((((pre ++ b1.take t ++ x :: (b1.drop t ++ (b2 ++ post))).set k y).set (k + 1) x).map Part.d))] (by kernel_rfl) h ?_; clear h; intro a w h
            refine block_n ?_
            refine then_n ?_
            refine rS ti_ok 1 [(1, .gen _ _ _ fun _ _ _ _ => Op.arith (op := .add) (d := 60) (xt := 3) (yt := 3) (k := .i64) (m := (k : Int)) (n := 1) (r := ((k + 1 : Nat) : Int)) (OV.tmp 59 _) (OV.const (.int .i64 1) rfl) (.inl ⟨rfl, (by omega)⟩) (i64_id (by omega) (by omega)))] [(0, .t (.c (.own 0 L))), (1, vi .i64 (lo : Int)), (2, vi .i64 (m : Int)), (3, vi .i64 (b : Int)), (4, .t (.c (.fn (.func 31) [] []))), (10, vi .i64 (i : Int)), (13, vi .i64 ((k + 1 : Nat) : Int))] [(0, .row 47 3 ((((pre ++ b1.take t ++ x :: (b1.drop t ++ (b2 ++ post))).set k y).set (k + 1) x).map Part.d))] (by kernel_rfl) h ?_; clear h; intro a w h
            refine then_n ?_
            rw [up_step (p := pre) k (k + 1) (by omega) rfl hy] at h
            refine roundS (x := (k, t)) (y := (k + 1, t + 1)) h ?_ ?_ (by kernel_rfl) (by kernel_rfl)
            · exact ⟨by omega, by omega⟩
            · show b1.length - (t + 1) < b1.length - t
              omega
          · have hc7 := hc; clear hc
            have hc7' := of_decide_eq_false hc7
            refine wp_exit ?_
            refine then_x ?_
            refine then_x ?_
            refine inBlock_exit ?_
            refine then_n ?_
            refine wp_ret ?_
            refine then_r ?_
            replace h := h.conv (f' := F.of [(0, .t (.c (.own 0 L))), (1, vi .i64 (lo : Int)), (2, vi .i64 (m : Int)), (3, vi .i64 (b : Int)), (4, .t (.c (.fn (.func 31) [] []))), (10, vi .i64 (i : Int)), (13, vi .i64 (k : Int)), (58, vb (decide ((k : Int) < ((lo + b1.length : Nat) : Int))))] [(0, .row 47 3 ((pre ++ ssV Part.v (X ++ Y) ++ post).map Part.d))]) (by rw [show ((pre ++ b1.take t ++ x :: (b1.drop t ++ (b2 ++ post))) : List Part) = (pre ++ ssV Part.v (X ++ Y) ++ post) from by
                rw [← hsm, show t = b1.length by omega, List.take_length, List.drop_length]; simp])
            refine retS [] h Exit.ret (.inl rfl)  rfl trivial ?_ (by kernel_rfl) (by kernel_rfl)
            rfl
  · have hc8 := hc; clear hc
    have hc8' := hc8; (try simp at hc8')
    refine wp_skip ?_
    refine then_n ?_
    refine wp_seq ?_
    refine rSeq ti_ok 1 [(2, .gen _ _ _ fun _ _ _ _ => Op.arith (op := .sub) (d := 79) (xt := 3) (yt := 3) (k := .i64) (m := (b : Int)) (n := (m : Int)) (r := (Y.length : Int)) (OV.tmp 77 _) (OV.tmp 78 _) (.inr (.inl ⟨rfl, (by omega)⟩)) (i64_id (by omega) (by omega)))] [(0, .t (.c (.own 0 L))), (1, vi .i64 (lo : Int)), (2, vi .i64 (m : Int)), (3, vi .i64 (b : Int)), (4, .t (.c (.fn (.func 31) [] []))), (80, vb ((Y.length : Int) == 1))] [(0, .row 47 3 ((pre ++ X ++ Y ++ post).map Part.d))] (by kernel_rfl) h ?_; clear h; intro a w h
    refine condS ((Y.length : Int) == 1) h rfl (fun hc => ?_) (fun hc => ?_)
    · have hc9 := hc; clear hc
      have hc9' := hc9; (try simp at hc9')
      refine rSeq ti_ok 1 [] [(0, .t (.c (.own 0 L))), (1, vi .i64 (lo : Int)), (2, vi .i64 (m : Int)), (3, vi .i64 (b : Int)), (4, .t (.c (.fn (.func 31) [] []))), (14, vi .i64 (lo : Int))] [(0, .row 47 3 ((pre ++ X ++ Y ++ post).map Part.d))] (by kernel_rfl) h ?_; clear h; intro a w h
      refine rSeq ti_ok 1 [] [(0, .t (.c (.own 0 L))), (1, vi .i64 (lo : Int)), (2, vi .i64 (m : Int)), (3, vi .i64 (b : Int)), (4, .t (.c (.fn (.func 31) [] []))), (14, vi .i64 (lo : Int)), (15, vi .i64 (m : Int))] [(0, .row 47 3 ((pre ++ X ++ Y ++ post).map Part.d))] (by kernel_rfl) h ?_; clear h; intro a w h
      refine wp_seq ?_
      refine wp_block ?_
      refine loopS (ι := (Nat) × (Nat)) (fun (z_ : (Nat) × (Nat)) => match z_ with | (i, j) => lo ≤ i ∧ i ≤ j ∧ j ≤ m ∧ (i = lo ∨ kat (pre ++ X ++ Y ++ post) (i - 1) ≤ kat (pre ++ X ++ Y ++ post) (m)) ∧ (j = m ∨ kat (pre ++ X ++ Y ++ post) (m) < kat (pre ++ X ++ Y ++ post) (j)))
          (fun (z_ : (Nat) × (Nat)) => match z_ with | (i, j) => [(0, .t (.c (.own 0 L))), (1, vi .i64 (lo : Int)), (2, vi .i64 (m : Int)), (3, vi .i64 (b : Int)), (4, .t (.c (.fn (.func 31) [] []))), (14, vi .i64 (i : Int)), (15, vi .i64 (j : Int))])
          (fun (z_ : (Nat) × (Nat)) => match z_ with | (i, j) => [(0, .row 47 3 ((pre ++ X ++ Y ++ post).map Part.d))])
          (fun (z_ : (Nat) × (Nat)) => match z_ with | (i, j) => j - i) (lo, m) ?_ h (by kernel_rfl) (by kernel_rfl) ?_
      · exact ⟨Nat.le_refl _, by omega, Nat.le_refl _, .inl rfl, .inl rfl⟩
      · clear h; rintro ⟨i, j⟩ a w hI h
        change St _ (F.of [(0, .t (.c (.own 0 L))), (1, vi .i64 (lo : Int)), (2, vi .i64 (m : Int)), (3, vi .i64 (b : Int)), (4, .t (.c (.fn (.func 31) [] []))), (14, vi .i64 (i : Int)), (15, vi .i64 (j : Int))] [(0, .row 47 3 ((pre ++ X ++ Y ++ post).map Part.d))]) a w at h
        obtain ⟨q1, q2, q3, q4, q5⟩ := hI
        refine wp_seq ?_
        refine rSeq ti_ok 1 [] [(0, .t (.c (.own 0 L))), (1, vi .i64 (lo : Int)), (2, vi .i64 (m : Int)), (3, vi .i64 (b : Int)), (4, .t (.c (.fn (.func 31) [] []))), (14, vi .i64 (i : Int)), (15, vi .i64 (j : Int)), (85, vb (decide ((i : Int) < (j : Int))))] [(0, .row 47 3 ((pre ++ X ++ Y ++ post).map Part.d))] (by kernel_rfl) h ?_; clear h; intro a w h
        refine condS (decide ((i : Int) < (j : Int))) h rfl (fun hc => ?_) (fun hc => ?_)
        · have hc10 := hc; clear hc
          have hc10' := of_decide_eq_true hc10
          refine wp_skip ?_
          refine then_n ?_
          refine wp_block ?_
          refine rSeq ti_ok 1 [(2, .gen _ _ _ fun _ _ _ _ => Op.arith (op := .add) (d := 88) (xt := 3) (yt := 3) (k := .i64) (m := (i : Int)) (n := (j : Int)) (r := ((i + j : Nat) : Int)) (OV.tmp 86 _) (OV.tmp 87 _) (.inl ⟨rfl, (by omega)⟩) (i64_id (by omega) (by omega))), (3, .conv .i64 .u64 (m := ((i + j : Nat) : Int)) (u64_id (by omega) (by omega))), (4, .gen _ _ _ fun _ _ _ _ => Op.shr (d := 90) (xt := 83) (yt := 83) (k := .u64) (k' := .u64) (m := ((i + j : Nat) : Int)) (n := 1) (r := (((i + j) / 2 : Nat) : Int)) (OV.tmp 89 _) (OV.const (.int .u64 1) rfl) (by decide) (half _)), (5, .conv .u64 .i64 (m := (((i + j) / 2 : Nat) : Int)) (i64_id (by omega) (by omega)))] [(0, .t (.c (.own 0 L))), (1, vi .i64 (lo : Int)), (2, vi .i64 (m : Int)), (3, vi .i64 (b : Int)), (4, .t (.c (.fn (.func 31) [] []))), (14, vi .i64 (i : Int)), (15, vi .i64 (j : Int)), (16, vi .i64 (((i + j) / 2 : Nat) : Int))] [(0, .row 47 3 ((pre ++ X ++ Y ++ post).map Part.d))] (by kernel_rfl) h ?_; clear h; intro a w h
          obtain ⟨x4, hx4⟩ : ∃ z_ : Part, (pre ++ X ++ Y ++ post)[m]? = some z_ := ⟨_, List.getElem?_eq_getElem (by first | omega | (simp at *; omega))⟩
          obtain ⟨x5, hx5⟩ : ∃ z_ : Part, (pre ++ X ++ Y ++ post)[(i + j) / 2]? = some z_ := ⟨_, List.getElem?_eq_getElem (by first | omega | (simp at *; omega))⟩
          refine rSeq ti_ok 1 [(3, .gen _ _ _ fun _ _ _ _ => Op.idxO (d := 95) (t := 93) (k := .i64) (n := 0) (len := L) (i := m) ti_0 (by first | omega | (simp at *; omega)) (OV.tmp 94 _)), (4, .gen _ _ _ fun _ _ _ _ => Op.loadR_agg (d := 96) (t := 95) (n := 0) (i := m) (fo := 0) (rty := 47) (es := 3) (xs := [.raw (.int .i64 x4.v), .raw (.bool x4.c.neg), nsl x4.c.abs]) ti_1 rfl (map_at hx4 (f := Part.d)) rfl rfl), (7, .gen _ _ _ fun _ _ _ _ => Op.idxO (d := 99) (t := 97) (k := .i64) (n := 0) (len := L) (i := ((i + j) / 2)) ti_0 (by first | omega | (simp at *; omega)) (OV.tmp 98 _)), (8, .gen _ _ _ fun _ _ _ _ => Op.loadR_agg (d := 100) (t := 99) (n := 0) (i := ((i + j) / 2)) (fo := 0) (rty := 47) (es := 3) (xs := [.raw (.int .i64 x5.v), .raw (.bool x5.c.neg), nsl x5.c.abs]) ti_1 rfl (map_at hx5 (f := Part.d)) rfl rfl), (9, .gen _ _ _ fun _ _ _ _ => Op.callV (d := 101) (t := 92) (cap := []) (args := [.t (.agg ([.d (.raw (.int .i64 x4.v))] ++ zi x4.c)), .t (.agg ([.d (.raw (.int .i64 x5.v))] ++ zi x5.c))]) (rs := [(96, .t (.agg ([.d (.raw (.int .i64 x4.v))] ++ zi x4.c))), (100, .t (.agg ([.d (.raw (.int .i64 x5.v))] ++ zi x5.c)))]) (tys := #[47, 47]) (SPlain1 x4 x5) ti_2 (OVs.cons (OV.tmp 96 _) (OVs.cons (OV.tmp 100 _) (OVs.nil))))] [(0, .t (.c (.own 0 L))), (1, vi .i64 (lo : Int)), (2, vi .i64 (m : Int)), (3, vi .i64 (b : Int)), (4, .t (.c (.fn (.func 31) [] []))), (14, vi .i64 (i : Int)), (15, vi .i64 (j : Int)), (16, vi .i64 (((i + j) / 2 : Nat) : Int)), (103, vb (!(decide (cmpZ x4.v x5.v < 0))))] [(0, .row 47 3 ((pre ++ X ++ Y ++ post).map Part.d))] (by kernel_rfl) h ?_; clear h; intro a w h
          refine condS (!(decide (cmpZ x4.v x5.v < 0))) h rfl (fun hc => ?_) (fun hc => ?_)
          · have hc11 := hc; clear hc
            have hc11' := hc11; (try simp at hc11')
            refine rS ti_ok 1 [(1, .gen _ _ _ fun _ _ _ _ => Op.arith (op := .add) (d := 105) (xt := 3) (yt := 3) (k := .i64) (m := (((i + j) / 2 : Nat) : Int)) (n := 1) (r := (((i + j) / 2 + 1 : Nat) : Int)) (OV.tmp 104 _) (OV.const (.int .i64 1) rfl) (.inl ⟨rfl, (by omega)⟩) (i64_id (by omega) (by omega)))] [(0, .t (.c (.own 0 L))), (1, vi .i64 (lo : Int)), (2, vi .i64 (m : Int)), (3, vi .i64 (b : Int)), (4, .t (.c (.fn (.func 31) [] []))), (14, vi .i64 (((i + j) / 2 + 1 : Nat) : Int)), (15, vi .i64 (j : Int))] [(0, .row 47 3 ((pre ++ X ++ Y ++ post).map Part.d))] (by kernel_rfl) h ?_; clear h; intro a w h
            refine block_n ?_
            refine then_n ?_
            refine roundS (x := (i, j)) (y := (((i + j) / 2 + 1), j)) h ?_ ?_ (by kernel_rfl) (by kernel_rfl)
            · exact ⟨by omega, by omega, by omega, .inr (by rw [show (i + j) / 2 + 1 - 1 = (i + j) / 2 from rfl, kat_of hx5, kat_of hx4]; exact Int.not_lt.1 (mt cmpZ_lt0.2 (Int.not_lt.2 hc11'))), q5⟩
            · show j - ((i + j) / 2 + 1) < j - i
              omega
          · have hc12 := hc; clear hc
            have hc12' := hc12; (try simp at hc12')
            refine rS ti_ok 1 [] [(0, .t (.c (.own 0 L))), (1, vi .i64 (lo : Int)), (2, vi .i64 (m : Int)), (3, vi .i64 (b : Int)), (4, .t (.c (.fn (.func 31) [] []))), (14, vi .i64 (i : Int)), (15, vi .i64 (((i + j) / 2 : Nat) : Int))] [(0, .row 47 3 ((pre ++ X ++ Y ++ post).map Part.d))] (by kernel_rfl) h ?_; clear h; intro a w h
            refine block_n ?_
            refine then_n ?_
            refine roundS (x := (i, j)) (y := (i, ((i + j) / 2))) h ?_ ?_ (by kernel_rfl) (by kernel_rfl)
            · exact ⟨by omega, by omega, by omega, q4, .inr (by rw [kat_of hx5, kat_of hx4]; exact cmpZ_lt0.1 hc12')⟩
            · show (i + j) / 2 - i < j - i
              omega
        · have hc13 := hc; clear hc
          have hc13' := of_decide_eq_false hc13
          refine wp_exit ?_
          refine then_x ?_
          refine then_x ?_
          refine inBlock_exit ?_
          refine then_n ?_
          refine wp_seq ?_
          obtain ⟨y, a1, a2, hY1, hX1, hi1, hsm⟩ := srch2 (pre := pre) (X := X) (Y := Y) (post := post) (i := i) (by omega) rX (by omega) (by omega) (q4.elim (fun g => .inl (by omega)) (fun g => .inr (by rw [← hm]; exact g))) (q5.elim (fun g => .inl (by omega)) (fun g => .inr (by rw [← hm, show i = j by omega]; exact g)))
          have hla : X.length = a1.length + a2.length := by rw [hX1, List.length_append]
          replace h := h.conv (f' := F.of [(0, .t (.c (.own 0 L))), (1, vi .i64 (lo : Int)), (2, vi .i64 (m : Int)), (3, vi .i64 (b : Int)), (4, .t (.c (.fn (.func 31) [] []))), (14, vi .i64 (i : Int)), (15, vi .i64 (j : Int)), (85, vb (decide ((i : Int) < (j : Int))))] [(0, .row 47 3 (((pre ++ a1) ++ a2.take a2.length ++ y :: (a2.drop a2.length ++ post)).map Part.d))]) (by rw [show ((pre ++ X ++ Y ++ post) : List Part) = ((pre ++ a1) ++ a2.take a2.length ++ y :: (a2.drop a2.length ++ post)) from by rw [hX1, hY1, List.take_length, List.drop_length]; simp])
          refine rSeq ti_ok 1 [] [(0, .t (.c (.own 0 L))), (1, vi .i64 (lo : Int)), (2, vi .i64 (m : Int)), (3, vi .i64 (b : Int)), (4, .t (.c (.fn (.func 31) [] []))), (14, vi .i64 (i : Int)), (17, vi .i64 (m : Int))] [(0, .row 47 3 (((pre ++ a1) ++ a2.take a2.length ++ y :: (a2.drop a2.length ++ post)).map Part.d))] (by kernel_rfl) h ?_; clear h; intro a w h
          refine wp_block ?_
          refine loopS (ι := (Nat) × (Nat)) (fun (z_ : (Nat) × (Nat)) => match z_ with | (k, t) => k = pre.length + a1.length + t ∧ t ≤ a2.length)
              (fun (z_ : (Nat) × (Nat)) => match z_ with | (k, t) => [(0, .t (.c (.own 0 L))), (1, vi .i64 (lo : Int)), (2, vi .i64 (m : Int)), (3, vi .i64 (b : Int)), (4, .t (.c (.fn (.func 31) [] []))), (14, vi .i64 (i : Int)), (17, vi .i64 (k : Int))])
              (fun (z_ : (Nat) × (Nat)) => match z_ with | (k, t) => [(0, .row 47 3 (((pre ++ a1) ++ a2.take t ++ y :: (a2.drop t ++ post)).map Part.d))])
              (fun (z_ : (Nat) × (Nat)) => match z_ with | (k, t) => t) (m, a2.length) ?_ h (by kernel_rfl) (by kernel_rfl) ?_
          · exact ⟨by omega, Nat.le_refl _⟩
          · clear h; rintro ⟨k, t⟩ a w hI h
            change St _ (F.of [(0, .t (.c (.own 0 L))), (1, vi .i64 (lo : Int)), (2, vi .i64 (m : Int)), (3, vi .i64 (b : Int)), (4, .t (.c (.fn (.func 31) [] []))), (14, vi .i64 (i : Int)), (17, vi .i64 (k : Int))] [(0, .row 47 3 (((pre ++ a1) ++ a2.take t ++ y :: (a2.drop t ++ post)).map Part.d))]) a w at h
            obtain ⟨p1, p2⟩ := hI
            refine wp_seq ?_
            refine rSeq ti_ok 1 [] [(0, .t (.c (.own 0 L))), (1, vi .i64 (lo : Int)), (2, vi .i64 (m : Int)), (3, vi .i64 (b : Int)), (4, .t (.c (.fn (.func 31) [] []))), (14, vi .i64 (i : Int)), (17, vi .i64 (k : Int)), (110, vb (decide ((k : Int) > (i : Int))))] [(0, .row 47 3 (((pre ++ a1) ++ a2.take t ++ y :: (a2.drop t ++ post)).map Part.d))] (by kernel_rfl) h ?_; clear h; intro a w h
            refine condS (decide ((k : Int) > (i : Int))) h rfl (fun hc => ?_) (fun hc => ?_)
            · have hc14 := hc; clear hc
              have hc14' := of_decide_eq_true hc14
              refine wp_skip ?_
              refine then_n ?_
              refine wp_seq ?_
              refine wp_block ?_
              obtain ⟨z, hz⟩ : ∃ z_ : Part, a2[t - 1]? = some z_ := ⟨_, List.getElem?_eq_getElem (by omega)⟩
              refine rS ti_ok 1 [(4, .gen _ _ _ fun _ _ _ _ => Op.arith (op := .sub) (d := 117) (xt := 3) (yt := 3) (k := .i64) (m := (k : Int)) (n := 1) (r := ((k - 1 : Nat) : Int)) (OV.tmp 116 _) (OV.const (.int .i64 1) rfl) (.inr (.inl ⟨rfl, (by omega)⟩)) (i64_id (by omega) (by omega))), (7, .gen _ _ _ fun _ _ _ _ => Op.arith (op := .sub) (d := 120) (xt := 3) (yt := 3) (k := .i64) (m := (k : Int)) (n := 1) (r := ((k - 1 : Nat) : Int)) (OV.tmp 119 _) (OV.const (.int .i64 1) rfl) (.inr (.inl ⟨rfl, (by omega)⟩)) (i64_id (by omega) (by omega))), (8, .gen _ _ _ fun _ _ _ _ => Op.idxO (d := 121) (t := 118) (k := .i64) (n := 0) (len := L) (i := (k - 1)) ti_0 (by first | omega | (simp at *; omega)) (OV.tmp 120 _)), (9, .gen _ _ _ fun _ _ _ _ => Op.loadR_agg (d := 122) (t := 121) (n := 0) (i := (k - 1)) (fo := 0) (rty := 47) (es := 3) (xs := [.raw (.int .i64 z.v), .raw (.bool z.c.neg), nsl z.c.abs]) ti_1 rfl (map_at (show (((pre ++ a1) ++ a2.take t ++ y :: (a2.drop t ++ post)) : List Part)[k - 1]? = some z from (dn_nx (p := pre ++ a1) (k - 1) (by first | omega | (simp only [List.length_append]; omega)) (by omega) hz)) (f := Part.d)) rfl rfl), (12, .gen _ _ _ fun _ _ _ _ => Op.idxO (d := 125) (t := 123) (k := .i64) (n := 0) (len := L) (i := k) ti_0 (by first | omega | (simp at *; omega)) (OV.tmp 124 _)), (13, .gen _ _ _ fun _ _ _ _ => Op.loadR_agg (d := 126) (t := 125) (n := 0) (i := k) (fo := 0) (rty := 47) (es := 3) (xs := [.raw (.int .i64 y.v), .raw (.bool y.c.neg), nsl y.c.abs]) ti_1 rfl (map_at (show (((pre ++ a1) ++ a2.take t ++ y :: (a2.drop t ++ post)) : List Part)[k]? = some y from (up_at (p := pre ++ a1) (q := a2) (t := t) k (by first | omega | (simp only [List.length_append]; omega)) (by omega))) (f := Part.d)) rfl rfl), (14, .gen _ _ _ fun _ _ _ _ => Op.idxO (d := 127) (t := 113) (k := .i64) (n := 0) (len := L) (i := k) ti_0 (by first | omega | (simp at *; omega)) (OV.tmp 114 _)), (15, .gen _ _ _ fun _ _ _ _ => Op.storeR (t := 127) (n := 0) (i := k) (fo := 0) (rty := 47) (es := 3) (r := Part.d y) (ds := [.raw (.int .i64 z.v), .raw (.bool z.c.neg), nsl z.c.abs]) (rs := [(122, .t (.agg ([.d (.raw (.int .i64 z.v))] ++ zi z.c)))]) (rows := ((pre ++ a1) ++ a2.take t ++ y :: (a2.drop t ++ post)).map Part.d) (rows' := (((pre ++ a1) ++ a2.take t ++ y :: (a2.drop t ++ post)).set k z).map Part.d) ti_1 (OV.tmp 122 _) rfl rfl rfl (map_at (show (((pre ++ a1) ++ a2.take t ++ y :: (a2.drop t ++ post)) : List Part)[k]? = some y from (up_at (p := pre ++ a1) (q := a2) (t := t) k (by first | omega | (simp only [List.length_append]; omega)) (by omega))) (f := Part.d)) (by simp [Part.d]) (set_map (xs := ((pre ++ a1) ++ a2.take t ++ y :: (a2.drop t ++ post))) (F := Part.d) k _ _ rfl)), (16, .gen _ _ _ fun _ _ _ _ => Op.idxO (d := 128) (t := 115) (k := .i64) (n := 0) (len := L) (i := (k - 1)) ti_0 (by first | omega | (simp at *; omega)) (OV.tmp 117 _)), (17, .gen _ _ _ fun _ _ _ _ => Op.storeR (t := 128) (n := 0) (i := (k - 1)) (fo := 0) (rty := 47) (es := 3) (r := Part.d z) (ds := [.raw (.int .i64 y.v), .raw (.bool y.c.neg), nsl y.c.abs]) (rs := [(126, .t (.agg ([.d (.raw (.int .i64 y.v))] ++ zi y.c)))]) (rows := (((pre ++ a1) ++ a2.take t ++ y :: (a2.drop t ++ post)).set k z).map Part.d) (rows' := ((((pre ++ a1) ++ a2.take t ++ y :: (a2.drop t ++ post)).set k z).set (k - 1) y).map Part.d) ti_1 (OV.tmp 126 _) rfl rfl rfl (map_at ((List.getElem?_set_ne (by omega)).trans (show (((pre ++ a1) ++ a2.take t ++ y :: (a2.drop t ++ post)) : List Part)[k - 1]? = some z from (dn_nx (p := pre ++ a1) (k - 1) (by first | omega | (simp only [List.length_append]; omega)) (by omega) hz))) (f := Part.d)) (by simp [Part.d]) (set_map (xs := (((pre ++ a1) ++ a2.take t ++ y :: (a2.drop t ++ post)).set k z)) (F := Part.d) (k - 1) _ _ rfl))] [(0, .t (.c (.own 0 L))), (1, vi .i64 (lo : Int)), (2, vi .i64 (m : Int)), (3, vi .i64 (b : Int)), (4, .t (.c (.fn (.func 31) [] []))), (14, vi .i64 (i : Int)), (17, vi .i64 (k : Int))] [(0, .row 47 3 (((((pre ++ a1) ++ a2.take t ++ y :: (a2.drop t ++ post)).set k z).set (k - 1) y).map Part.d))] (by kernel_rfl) h ?_; clear h; intro a w h
              refine block_n ?_
              refine then_n ?_
              refine rS ti_ok 1 [(1, .gen _ _ _ fun _ _ _ _ => Op.arith (op := .sub) (d := 112) (xt := 3) (yt := 3) (k := .i64) (m := (k : Int)) (n := 1) (r := ((k - 1 : Nat) : Int)) (OV.tmp 111 _) (OV.const (.int .i64 1) rfl) (.inr (.inl ⟨rfl, (by omega)⟩)) (i64_id (by omega) (by omega)))] [(0, .t (.c (.own 0 L))), (1, vi .i64 (lo : Int)), (2, vi .i64 (m : Int)), (3, vi .i64 (b : Int)), (4, .t (.c (.fn (.func 31) [] []))), (14, vi .i64 (i : Int)), (17, vi .i64 ((k - 1 : Nat) : Int))] [(0, .row 47 3 (((((pre ++ a1) ++ a2.take t ++ y :: (a2.drop t ++ post)).set k z).set (k - 1) y).map Part.d))] (by kernel_rfl) h ?_; clear h; intro a w h
              refine then_n ?_
              rw [dn_step (p := pre ++ a1) k (k - 1) (by first | omega | (simp only [List.length_append]; omega)) rfl (by omega) hz] at h
              refine roundS (x := (k, t)) (y := (k - 1, t - 1)) h ?_ ?_ (by kernel_rfl) (by kernel_rfl)
              · exact ⟨by omega, by omega⟩
              · show t - 1 < t
                omega
            · have hc15 := hc; clear hc
              have hc15' := of_decide_eq_false hc15
              refine wp_exit ?_
              refine then_x ?_
              refine then_x ?_
              refine inBlock_exit ?_
              refine then_n ?_
              refine wp_ret ?_
              refine then_r ?_
              replace h := h.conv (f' := F.of [(0, .t (.c (.own 0 L))), (1, vi .i64 (lo : Int)), (2, vi .i64 (m : Int)), (3, vi .i64 (b : Int)), (4, .t (.c (.fn (.func 31) [] []))), (14, vi .i64 (i : Int)), (17, vi .i64 (k : Int)), (110, vb (decide ((k : Int) > (i : Int))))] [(0, .row 47 3 ((pre ++ ssV Part.v (X ++ Y) ++ post).map Part.d))]) (by rw [show (((pre ++ a1) ++ a2.take t ++ y :: (a2.drop t ++ post)) : List Part) = (pre ++ ssV Part.v (X ++ Y) ++ post) from by
                  rw [← hsm, show t = 0 by omega, List.take_zero, List.drop_zero]; simp])
              refine retS [] h Exit.ret (.inl rfl)  rfl trivial ?_ (by kernel_rfl) (by kernel_rfl)
              rfl
    · have hc16 := hc; clear hc
      have hc16' := hc16; (try simp at hc16')
      refine wp_skip ?_
      refine then_n ?_
      refine rSeq ti_ok 1 [(2, .gen _ _ _ fun _ _ _ _ => Op.arith (op := .add) (d := 131) (xt := 3) (yt := 3) (k := .i64) (m := (lo : Int)) (n := (b : Int)) (r := ((lo + b : Nat) : Int)) (OV.tmp 129 _) (OV.tmp 130 _) (.inl ⟨rfl, (by omega)⟩) (i64_id (by omega) (by omega))), (3, .conv .i64 .u64 (m := ((lo + b : Nat) : Int)) (u64_id (by omega) (by omega))), (4, .gen _ _ _ fun _ _ _ _ => Op.shr (d := 133) (xt := 83) (yt := 83) (k := .u64) (k' := .u64) (m := ((lo + b : Nat) : Int)) (n := 1) (r := (((lo + b) / 2 : Nat) : Int)) (OV.tmp 132 _) (OV.const (.int .u64 1) rfl) (by decide) (half _)), (5, .conv .u64 .i64 (m := (((lo + b) / 2 : Nat) : Int)) (i64_id (by omega) (by omega)))] [(0, .t (.c (.own 0 L))), (1, vi .i64 (lo : Int)), (2, vi .i64 (m : Int)), (3, vi .i64 (b : Int)), (4, .t (.c (.fn (.func 31) [] []))), (18, vi .i64 (((lo + b) / 2 : Nat) : Int))] [(0, .row 47 3 ((pre ++ X ++ Y ++ post).map Part.d))] (by kernel_rfl) h ?_; clear h; intro a w h
      obtain ⟨md, emd⟩ : ∃ z_ : Nat, z_ = (lo + b) / 2 := ⟨_, rfl⟩
      replace h := h.conv (f' := F.of [(0, .t (.c (.own 0 L))), (1, vi .i64 (lo : Int)), (2, vi .i64 (m : Int)), (3, vi .i64 (b : Int)), (4, .t (.c (.fn (.func 31) [] []))), (18, vi .i64 (md : Int))] [(0, .row 47 3 ((pre ++ X ++ Y ++ post).map Part.d))]) (by rw [emd])
      refine rSeq ti_ok 1 [(2, .gen _ _ _ fun _ _ _ _ => Op.arith (op := .add) (d := 137) (xt := 3) (yt := 3) (k := .i64) (m := (md : Int)) (n := (m : Int)) (r := ((md + m : Nat) : Int)) (OV.tmp 135 _) (OV.tmp 136 _) (.inl ⟨rfl, (by omega)⟩) (i64_id (by omega) (by omega)))] [(0, .t (.c (.own 0 L))), (1, vi .i64 (lo : Int)), (2, vi .i64 (m : Int)), (3, vi .i64 (b : Int)), (4, .t (.c (.fn (.func 31) [] []))), (18, vi .i64 (md : Int)), (19, vi .i64 ((md + m : Nat) : Int))] [(0, .row 47 3 ((pre ++ X ++ Y ++ post).map Part.d))] (by kernel_rfl) h ?_; clear h; intro a w h
      refine rSeq ti_ok 1 [] [(0, .t (.c (.own 0 L))), (1, vi .i64 (lo : Int)), (2, vi .i64 (m : Int)), (3, vi .i64 (b : Int)), (4, .t (.c (.fn (.func 31) [] []))), (18, vi .i64 (md : Int)), (19, vi .i64 ((md + m : Nat) : Int)), (20, vi .i64 0), (21, vi .i64 0)] [(0, .row 47 3 ((pre ++ X ++ Y ++ post).map Part.d))] (by kernel_rfl) h ?_; clear h; intro a w h
      obtain ⟨s0, r0, hsr1, hsr2⟩ : ∃ s0 r0 : Nat, (md < m → s0 = md + m - b ∧ r0 = md) ∧ (¬ md < m → s0 = lo ∧ r0 = m) := by
        by_cases g : md < m
        · exact ⟨_, _, fun _ => ⟨rfl, rfl⟩, fun g2 => absurd g g2⟩
        · exact ⟨_, _, fun g2 => absurd g2 g, fun _ => ⟨rfl, rfl⟩⟩
      have hsr : lo ≤ s0 ∧ s0 ≤ r0 ∧ r0 ≤ m ∧ r0 ≤ md ∧ md + m ≤ s0 + b := by
        by_cases g : md < m
        · have := hsr1 g; omega
        · have := hsr2 g; omega
      refine midH h [(0, .t (.c (.own 0 L))), (1, vi .i64 (lo : Int)), (2, vi .i64 (m : Int)), (3, vi .i64 (b : Int)), (4, .t (.c (.fn (.func 31) [] []))), (18, vi .i64 (md : Int)), (19, vi .i64 ((md + m : Nat) : Int)), (20, vi .i64 (s0 : Int)), (21, vi .i64 (r0 : Int))] [(0, .row 47 3 ((pre ++ X ++ Y ++ post).map Part.d))] ?_ (fun a w h => ?_)
      · refine rSeq ti_ok 1 [] [(0, .t (.c (.own 0 L))), (1, vi .i64 (lo : Int)), (2, vi .i64 (m : Int)), (3, vi .i64 (b : Int)), (4, .t (.c (.fn (.func 31) [] []))), (18, vi .i64 (md : Int)), (19, vi .i64 ((md + m : Nat) : Int)), (20, vi .i64 0), (21, vi .i64 0), (140, vb (decide ((m : Int) > (md : Int))))] [(0, .row 47 3 ((pre ++ X ++ Y ++ post).map Part.d))] (by kernel_rfl) h ?_; clear h; intro a w h
        refine condS (decide ((m : Int) > (md : Int))) h rfl (fun hc => ?_) (fun hc => ?_)
        · have hc17 := hc; clear hc
          have hc17' := of_decide_eq_true hc17
          refine rSeq ti_ok 1 [(2, .gen _ _ _ fun _ _ _ _ => Op.arith (op := .sub) (d := 143) (xt := 3) (yt := 3) (k := .i64) (m := ((md + m : Nat) : Int)) (n := (b : Int)) (r := ((md + m - b : Nat) : Int)) (OV.tmp 141 _) (OV.tmp 142 _) (.inr (.inl ⟨rfl, (by omega)⟩)) (i64_id (by omega) (by omega)))] [(0, .t (.c (.own 0 L))), (1, vi .i64 (lo : Int)), (2, vi .i64 (m : Int)), (3, vi .i64 (b : Int)), (4, .t (.c (.fn (.func 31) [] []))), (18, vi .i64 (md : Int)), (19, vi .i64 ((md + m : Nat) : Int)), (20, vi .i64 ((md + m - b : Nat) : Int)), (21, vi .i64 0)] [(0, .row 47 3 ((pre ++ X ++ Y ++ post).map Part.d))] (by kernel_rfl) h ?_; clear h; intro a w h
          refine rS ti_ok 1 [] [(0, .t (.c (.own 0 L))), (1, vi .i64 (lo : Int)), (2, vi .i64 (m : Int)), (3, vi .i64 (b : Int)), (4, .t (.c (.fn (.func 31) [] []))), (18, vi .i64 (md : Int)), (19, vi .i64 ((md + m : Nat) : Int)), (20, vi .i64 ((md + m - b : Nat) : Int)), (21, vi .i64 (md : Int))] [(0, .row 47 3 ((pre ++ X ++ Y ++ post).map Part.d))] (by kernel_rfl) h ?_; clear h; intro a w h
          refine then_n ?_
          have hg := hsr1 (by omega)
          replace h := h.conv (f' := F.of [(0, .t (.c (.own 0 L))), (1, vi .i64 (lo : Int)), (2, vi .i64 (m : Int)), (3, vi .i64 (b : Int)), (4, .t (.c (.fn (.func 31) [] []))), (18, vi .i64 (md : Int)), (19, vi .i64 ((md + m : Nat) : Int)), (20, vi .i64 (s0 : Int)), (21, vi .i64 (r0 : Int))] [(0, .row 47 3 ((pre ++ X ++ Y ++ post).map Part.d))]) (by rw [hg.1, hg.2])
          exact atS h (by kernel_rfl) (by kernel_rfl)
        · have hc18 := hc; clear hc
          have hc18' := of_decide_eq_false hc18
          refine rSeq ti_ok 1 [] [(0, .t (.c (.own 0 L))), (1, vi .i64 (lo : Int)), (2, vi .i64 (m : Int)), (3, vi .i64 (b : Int)), (4, .t (.c (.fn (.func 31) [] []))), (18, vi .i64 (md : Int)), (19, vi .i64 ((md + m : Nat) : Int)), (20, vi .i64 (lo : Int)), (21, vi .i64 0)] [(0, .row 47 3 ((pre ++ X ++ Y ++ post).map Part.d))] (by kernel_rfl) h ?_; clear h; intro a w h
          refine rS ti_ok 1 [] [(0, .t (.c (.own 0 L))), (1, vi .i64 (lo : Int)), (2, vi .i64 (m : Int)), (3, vi .i64 (b : Int)), (4, .t (.c (.fn (.func 31) [] []))), (18, vi .i64 (md : Int)), (19, vi .i64 ((md + m : Nat) : Int)), (20, vi .i64 (lo : Int)), (21, vi .i64 (m : Int))] [(0, .row 47 3 ((pre ++ X ++ Y ++ post).map Part.d))] (by kernel_rfl) h ?_; clear h; intro a w h
          refine then_n ?_
          have hg := hsr2 (by omega)
          replace h := h.conv (f' := F.of [(0, .t (.c (.own 0 L))), (1, vi .i64 (lo : Int)), (2, vi .i64 (m : Int)), (3, vi .i64 (b : Int)), (4, .t (.c (.fn (.func 31) [] []))), (18, vi .i64 (md : Int)), (19, vi .i64 ((md + m : Nat) : Int)), (20, vi .i64 (s0 : Int)), (21, vi .i64 (r0 : Int))] [(0, .row 47 3 ((pre ++ X ++ Y ++ post).map Part.d))]) (by rw [hg.1, hg.2])
          exact atS h (by kernel_rfl) (by kernel_rfl)
      · refine rSeq ti_ok 1 [(1, .gen _ _ _ fun _ _ _ _ => Op.arith (op := .sub) (d := 148) (xt := 3) (yt := 3) (k := .i64) (m := ((md + m : Nat) : Int)) (n := 1) (r := ((md + m - 1 : Nat) : Int)) (OV.tmp 147 _) (OV.const (.int .i64 1) rfl) (.inr (.inl ⟨rfl, (by omega)⟩)) (i64_id (by omega) (by omega)))] [(0, .t (.c (.own 0 L))), (1, vi .i64 (lo : Int)), (2, vi .i64 (m : Int)), (3, vi .i64 (b : Int)), (4, .t (.c (.fn (.func 31) [] []))), (18, vi .i64 (md : Int)), (19, vi .i64 ((md + m : Nat) : Int)), (20, vi .i64 (s0 : Int)), (21, vi .i64 (r0 : Int)), (22, vi .i64 ((md + m - 1 : Nat) : Int))] [(0, .row 47 3 ((pre ++ X ++ Y ++ post).map Part.d))] (by kernel_rfl) h ?_; clear h; intro a w h
        refine wp_seq ?_
        refine wp_block ?_
        refine loopS (ι := (Nat) × (Nat)) (fun (z_ : (Nat) × (Nat)) => match z_ with | (s, r) => s0 ≤ s ∧ s ≤ r ∧ r ≤ r0 ∧ (s = s0 ∨ kat (pre ++ X ++ Y ++ post) (s - 1) ≤ kat (pre ++ X ++ Y ++ post) (md + m - s)) ∧ (r = r0 ∨ kat (pre ++ X ++ Y ++ post) (md + m - 1 - r) < kat (pre ++ X ++ Y ++ post) (r)))
            (fun (z_ : (Nat) × (Nat)) => match z_ with | (s, r) => [(0, .t (.c (.own 0 L))), (1, vi .i64 (lo : Int)), (2, vi .i64 (m : Int)), (3, vi .i64 (b : Int)), (4, .t (.c (.fn (.func 31) [] []))), (18, vi .i64 (md : Int)), (19, vi .i64 ((md + m : Nat) : Int)), (20, vi .i64 (s : Int)), (21, vi .i64 (r : Int)), (22, vi .i64 ((md + m - 1 : Nat) : Int))])
            (fun (z_ : (Nat) × (Nat)) => match z_ with | (s, r) => [(0, .row 47 3 ((pre ++ X ++ Y ++ post).map Part.d))])
            (fun (z_ : (Nat) × (Nat)) => match z_ with | (s, r) => r - s) (s0, r0) ?_ h (by kernel_rfl) (by kernel_rfl) ?_
        · exact ⟨Nat.le_refl _, by omega, Nat.le_refl _, .inl rfl, .inl rfl⟩
        · clear h; rintro ⟨s, r⟩ a w hI h
          change St _ (F.of [(0, .t (.c (.own 0 L))), (1, vi .i64 (lo : Int)), (2, vi .i64 (m : Int)), (3, vi .i64 (b : Int)), (4, .t (.c (.fn (.func 31) [] []))), (18, vi .i64 (md : Int)), (19, vi .i64 ((md + m : Nat) : Int)), (20, vi .i64 (s : Int)), (21, vi .i64 (r : Int)), (22, vi .i64 ((md + m - 1 : Nat) : Int))] [(0, .row 47 3 ((pre ++ X ++ Y ++ post).map Part.d))]) a w at h
          obtain ⟨q1, q2, q3, q4, q5⟩ := hI
          refine wp_seq ?_
          refine rSeq ti_ok 1 [] [(0, .t (.c (.own 0 L))), (1, vi .i64 (lo : Int)), (2, vi .i64 (m : Int)), (3, vi .i64 (b : Int)), (4, .t (.c (.fn (.func 31) [] []))), (18, vi .i64 (md : Int)), (19, vi .i64 ((md + m : Nat) : Int)), (20, vi .i64 (s : Int)), (21, vi .i64 (r : Int)), (22, vi .i64 ((md + m - 1 : Nat) : Int)), (151, vb (decide ((s : Int) < (r : Int))))] [(0, .row 47 3 ((pre ++ X ++ Y ++ post).map Part.d))] (by kernel_rfl) h ?_; clear h; intro a w h
          refine condS (decide ((s : Int) < (r : Int))) h rfl (fun hc => ?_) (fun hc => ?_)
          · have hc19 := hc; clear hc
            have hc19' := of_decide_eq_true hc19
            refine wp_skip ?_
            refine then_n ?_
            refine wp_block ?_
            refine rSeq ti_ok 1 [(2, .gen _ _ _ fun _ _ _ _ => Op.arith (op := .add) (d := 154) (xt := 3) (yt := 3) (k := .i64) (m := (s : Int)) (n := (r : Int)) (r := ((s + r : Nat) : Int)) (OV.tmp 152 _) (OV.tmp 153 _) (.inl ⟨rfl, (by omega)⟩) (i64_id (by omega) (by omega))), (3, .conv .i64 .u64 (m := ((s + r : Nat) : Int)) (u64_id (by omega) (by omega))), (4, .gen _ _ _ fun _ _ _ _ => Op.shr (d := 156) (xt := 83) (yt := 83) (k := .u64) (k' := .u64) (m := ((s + r : Nat) : Int)) (n := 1) (r := (((s + r) / 2 : Nat) : Int)) (OV.tmp 155 _) (OV.const (.int .u64 1) rfl) (by decide) (half _)), (5, .conv .u64 .i64 (m := (((s + r) / 2 : Nat) : Int)) (i64_id (by omega) (by omega)))] [(0, .t (.c (.own 0 L))), (1, vi .i64 (lo : Int)), (2, vi .i64 (m : Int)), (3, vi .i64 (b : Int)), (4, .t (.c (.fn (.func 31) [] []))), (18, vi .i64 (md : Int)), (19, vi .i64 ((md + m : Nat) : Int)), (20, vi .i64 (s : Int)), (21, vi .i64 (r : Int)), (22, vi .i64 ((md + m - 1 : Nat) : Int)), (23, vi .i64 (((s + r) / 2 : Nat) : Int))] [(0, .row 47 3 ((pre ++ X ++ Y ++ post).map Part.d))] (by kernel_rfl) h ?_; clear h; intro a w h
            obtain ⟨x7, hx7⟩ : ∃ z_ : Part, (pre ++ X ++ Y ++ post)[md + m - 1 - (s + r) / 2]? = some z_ := ⟨_, List.getElem?_eq_getElem (by first | omega | (simp at *; omega))⟩
            obtain ⟨x8, hx8⟩ : ∃ z_ : Part, (pre ++ X ++ Y ++ post)[(s + r) / 2]? = some z_ := ⟨_, List.getElem?_eq_getElem (by first | omega | (simp at *; omega))⟩
            refine rSeq ti_ok 1 [(4, .gen _ _ _ fun _ _ _ _ => Op.arith (op := .sub) (d := 162) (xt := 3) (yt := 3) (k := .i64) (m := ((md + m - 1 : Nat) : Int)) (n := (((s + r) / 2 : Nat) : Int)) (r := ((md + m - 1 - (s + r) / 2 : Nat) : Int)) (OV.tmp 160 _) (OV.tmp 161 _) (.inr (.inl ⟨rfl, (by omega)⟩)) (i64_id (by omega) (by omega))), (5, .gen _ _ _ fun _ _ _ _ => Op.idxO (d := 163) (t := 159) (k := .i64) (n := 0) (len := L) (i := (md + m - 1 - (s + r) / 2)) ti_0 (by first | omega | (simp at *; omega)) (OV.tmp 162 _)), (6, .gen _ _ _ fun _ _ _ _ => Op.loadR_agg (d := 164) (t := 163) (n := 0) (i := (md + m - 1 - (s + r) / 2)) (fo := 0) (rty := 47) (es := 3) (xs := [.raw (.int .i64 x7.v), .raw (.bool x7.c.neg), nsl x7.c.abs]) ti_1 rfl (map_at hx7 (f := Part.d)) rfl rfl), (9, .gen _ _ _ fun _ _ _ _ => Op.idxO (d := 167) (t := 165) (k := .i64) (n := 0) (len := L) (i := ((s + r) / 2)) ti_0 (by first | omega | (simp at *; omega)) (OV.tmp 166 _)), (10, .gen _ _ _ fun _ _ _ _ => Op.loadR_agg (d := 168) (t := 167) (n := 0) (i := ((s + r) / 2)) (fo := 0) (rty := 47) (es := 3) (xs := [.raw (.int .i64 x8.v), .raw (.bool x8.c.neg), nsl x8.c.abs]) ti_1 rfl (map_at hx8 (f := Part.d)) rfl rfl), (11, .gen _ _ _ fun _ _ _ _ => Op.callV (d := 169) (t := 158) (cap := []) (args := [.t (.agg ([.d (.raw (.int .i64 x7.v))] ++ zi x7.c)), .t (.agg ([.d (.raw (.int .i64 x8.v))] ++ zi x8.c))]) (rs := [(164, .t (.agg ([.d (.raw (.int .i64 x7.v))] ++ zi x7.c))), (168, .t (.agg ([.d (.raw (.int .i64 x8.v))] ++ zi x8.c)))]) (tys := #[47, 47]) (SPlain1 x7 x8) ti_2 (OVs.cons (OV.tmp 164 _) (OVs.cons (OV.tmp 168 _) (OVs.nil))))] [(0, .t (.c (.own 0 L))), (1, vi .i64 (lo : Int)), (2, vi .i64 (m : Int)), (3, vi .i64 (b : Int)), (4, .t (.c (.fn (.func 31) [] []))), (18, vi .i64 (md : Int)), (19, vi .i64 ((md + m : Nat) : Int)), (20, vi .i64 (s : Int)), (21, vi .i64 (r : Int)), (22, vi .i64 ((md + m - 1 : Nat) : Int)), (23, vi .i64 (((s + r) / 2 : Nat) : Int)), (171, vb (!(decide (cmpZ x7.v x8.v < 0))))] [(0, .row 47 3 ((pre ++ X ++ Y ++ post).map Part.d))] (by kernel_rfl) h ?_; clear h; intro a w h
            refine condS (!(decide (cmpZ x7.v x8.v < 0))) h rfl (fun hc => ?_) (fun hc => ?_)
            · have hc20 := hc; clear hc
              have hc20' := hc20; (try simp at hc20')
              refine rS ti_ok 1 [(1, .gen _ _ _ fun _ _ _ _ => Op.arith (op := .add) (d := 173) (xt := 3) (yt := 3) (k := .i64) (m := (((s + r) / 2 : Nat) : Int)) (n := 1) (r := (((s + r) / 2 + 1 : Nat) : Int)) (OV.tmp 172 _) (OV.const (.int .i64 1) rfl) (.inl ⟨rfl, (by omega)⟩) (i64_id (by omega) (by omega)))] [(0, .t (.c (.own 0 L))), (1, vi .i64 (lo : Int)), (2, vi .i64 (m : Int)), (3, vi .i64 (b : Int)), (4, .t (.c (.fn (.func 31) [] []))), (18, vi .i64 (md : Int)), (19, vi .i64 ((md + m : Nat) : Int)), (20, vi .i64 (((s + r) / 2 + 1 : Nat) : Int)), (21, vi .i64 (r : Int)), (22, vi .i64 ((md + m - 1 : Nat) : Int))] [(0, .row 47 3 ((pre ++ X ++ Y ++ post).map Part.d))] (by kernel_rfl) h ?_; clear h; intro a w h
              refine block_n ?_
              refine then_n ?_
              refine roundS (x := (s, r)) (y := (((s + r) / 2 + 1), r)) h ?_ ?_ (by kernel_rfl) (by kernel_rfl)
              · exact ⟨by omega, by omega, by omega, .inr (by rw [show (s + r) / 2 + 1 - 1 = (s + r) / 2 from rfl, show md + m - ((s + r) / 2 + 1) = md + m - 1 - (s + r) / 2 by omega, kat_of hx7, kat_of hx8]; exact Int.not_lt.1 (mt cmpZ_lt0.2 (Int.not_lt.2 hc20'))), q5⟩
              · show r - ((s + r) / 2 + 1) < r - s
                omega
            · have hc21 := hc; clear hc
              have hc21' := hc21; (try simp at hc21')
              refine rS ti_ok 1 [] [(0, .t (.c (.own 0 L))), (1, vi .i64 (lo : Int)), (2, vi .i64 (m : Int)), (3, vi .i64 (b : Int)), (4, .t (.c (.fn (.func 31) [] []))), (18, vi .i64 (md : Int)), (19, vi .i64 ((md + m : Nat) : Int)), (20, vi .i64 (s : Int)), (21, vi .i64 (((s + r) / 2 : Nat) : Int)), (22, vi .i64 ((md + m - 1 : Nat) : Int))] [(0, .row 47 3 ((pre ++ X ++ Y ++ post).map Part.d))] (by kernel_rfl) h ?_; clear h; intro a w h
              refine block_n ?_
              refine then_n ?_
              refine roundS (x := (s, r)) (y := (s, ((s + r) / 2))) h ?_ ?_ (by kernel_rfl) (by kernel_rfl)
              · exact ⟨by omega, by omega, by omega, q4, .inr (by rw [kat_of hx7, kat_of hx8]; exact cmpZ_lt0.1 hc21')⟩
              · show (s + r) / 2 - s < r - s
                omega
          · have hc22 := hc; clear hc
            have hc22' := of_decide_eq_false hc22
            refine wp_exit ?_
            refine then_x ?_
            refine then_x ?_
            refine inBlock_exit ?_
            refine then_n ?_
            refine rSeq ti_ok 1 [(2, .gen _ _ _ fun _ _ _ _ => Op.arith (op := .sub) (d := 177) (xt := 3) (yt := 3) (k := .i64) (m := ((md + m : Nat) : Int)) (n := (s : Int)) (r := ((md + m - s : Nat) : Int)) (OV.tmp 175 _) (OV.tmp 176 _) (.inr (.inl ⟨rfl, (by omega)⟩)) (i64_id (by omega) (by omega)))] [(0, .t (.c (.own 0 L))), (1, vi .i64 (lo : Int)), (2, vi .i64 (m : Int)), (3, vi .i64 (b : Int)), (4, .t (.c (.fn (.func 31) [] []))), (18, vi .i64 (md : Int)), (20, vi .i64 (s : Int)), (24, vi .i64 ((md + m - s : Nat) : Int))] [(0, .row 47 3 ((pre ++ X ++ Y ++ post).map Part.d))] (by kernel_rfl) h ?_; clear h; intro a w h
            obtain ⟨e, ee⟩ : ∃ z_ : Nat, z_ = md + m - s := ⟨_, rfl⟩
            replace h := h.conv (f' := F.of [(0, .t (.c (.own 0 L))), (1, vi .i64 (lo : Int)), (2, vi .i64 (m : Int)), (3, vi .i64 (b : Int)), (4, .t (.c (.fn (.func 31) [] []))), (18, vi .i64 (md : Int)), (20, vi .i64 (s : Int)), (24, vi .i64 (e : Int))] [(0, .row 47 3 ((pre ++ X ++ Y ++ post).map Part.d))]) (by rw [ee])
            have hsr' : s = r := by omega
            have g1 : s = pre.length ∨ e = pre.length + X.length + Y.length ∨ kat (pre ++ X ++ Y ++ post) (s - 1) ≤ kat (pre ++ X ++ Y ++ post) e := by
              rcases q4 with g | g
              · by_cases gm : md < m
                · have := hsr1 gm; exact .inr (.inl (by omega))
                · have := hsr2 gm; exact .inl (by omega)
              · exact .inr (.inr (by rw [ee]; exact g))
            have g2 : s = pre.length + X.length ∨ e = pre.length + X.length ∨ kat (pre ++ X ++ Y ++ post) (e - 1) < kat (pre ++ X ++ Y ++ post) s := by
              rcases q5 with g | g
              · by_cases gm : md < m
                · have := hsr1 gm; exact .inr (.inl (by omega))
                · have := hsr2 gm; exact .inl (by omega)
              · exact .inr (.inr (by rw [show e - 1 = md + m - 1 - r by omega, hsr']; exact g))
            obtain ⟨a1, a2, b1, b2, hX1, hY1, hs1, he1, hsm, ra1, ra2, rb1, rb2⟩ := srch3 (pre := pre) (X := X) (Y := Y) (post := post) (s := s) (e := e) rX rY (by omega) (by omega) (by omega) (by omega) g1 g2
            have hla : X.length = a1.length + a2.length := by rw [hX1, List.length_append]
            have hlb : Y.length = b1.length + b2.length := by rw [hY1, List.length_append]
            replace h := h.conv (f' := F.of [(0, .t (.c (.own 0 L))), (1, vi .i64 (lo : Int)), (2, vi .i64 (m : Int)), (3, vi .i64 (b : Int)), (4, .t (.c (.fn (.func 31) [] []))), (18, vi .i64 (md : Int)), (20, vi .i64 (s : Int)), (24, vi .i64 (e : Int))] [(0, .row 47 3 ((pre ++ a1 ++ a2 ++ b1 ++ b2 ++ post).map Part.d))]) (by rw [show ((pre ++ X ++ Y ++ post) : List Part) = (pre ++ a1 ++ a2 ++ b1 ++ b2 ++ post) from by rw [hX1, hY1]; simp only [List.append_assoc]])
            refine midH h [(0, .t (.c (.own 0 L))), (1, vi .i64 (lo : Int)), (3, vi .i64 (b : Int)), (4, .t (.c (.fn (.func 31) [] []))), (18, vi .i64 (md : Int)), (20, vi .i64 (s : Int)), (24, vi .i64 (e : Int))] [(0, .row 47 3 ((pre ++ a1 ++ b1 ++ a2 ++ b2 ++ post).map Part.d))] ?_ (fun a w h => ?_)
            · rcases Bool.eq_false_or_eq_true (decide ((s : Int) < (m : Int))) with hc | hc
              · have hc23 := hc; clear hc
                have hc23' := of_decide_eq_true hc23
                refine rSeq ti_ok 1 [(2, .cmp (op := .lss) (m := (s : Int)) (n := (m : Int)) (b := true) .i64 hc23)] [(0, .t (.c (.own 0 L))), (1, vi .i64 (lo : Int)), (2, vi .i64 (m : Int)), (3, vi .i64 (b : Int)), (4, .t (.c (.fn (.func 31) [] []))), (18, vi .i64 (md : Int)), (20, vi .i64 (s : Int)), (24, vi .i64 (e : Int)), (185, vb (decide ((m : Int) < (e : Int))))] [(0, .row 47 3 ((pre ++ a1 ++ a2 ++ b1 ++ b2 ++ post).map Part.d))] (by kernel_rfl) h ?_; clear h; intro a w h
                refine condS (decide ((m : Int) < (e : Int))) h rfl (fun hc => ?_) (fun hc => ?_)
                · have hc24 := hc; clear hc
                  have hc24' := of_decide_eq_true hc24
                  refine rS ti_ok 1 [(5, .call (Srotate2 (r0 := (pre ++ a1 ++ a2 ++ b1 ++ b2 ++ post)) (r1 := (pre ++ a1 ++ b1 ++ a2 ++ b2 ++ post)) (L := L) (a := s) (m := m) (b := e) (pre ++ a1) a2 b1 (b2 ++ post) (by simp only [List.append_assoc]) (by simp only [List.append_assoc]) (by first | omega | (simp only [List.length_append]; omega)) (by first | omega | (simp only [List.length_append]; omega)) (by first | omega | (simp only [List.length_append]; omega)) (by first | omega | (simp only [List.length_append]; omega)) (by omega) (by omega) (by omega)) ti_3)] [(0, .t (.c (.own 0 L))), (1, vi .i64 (lo : Int)), (3, vi .i64 (b : Int)), (4, .t (.c (.fn (.func 31) [] []))), (18, vi .i64 (md : Int)), (20, vi .i64 (s : Int)), (24, vi .i64 (e : Int))] [(0, .row 47 3 ((pre ++ a1 ++ b1 ++ a2 ++ b2 ++ post).map Part.d))] (by kernel_rfl) h ?_; clear h; intro a w h
                  refine then_n ?_
                  exact atS h (by kernel_rfl) (by kernel_rfl)
                · have hc25 := hc; clear hc
                  have hc25' := of_decide_eq_false hc25
                  refine wp_skip ?_
                  refine then_n ?_
                  replace h := h.conv (f' := F.of [(0, .t (.c (.own 0 L))), (1, vi .i64 (lo : Int)), (2, vi .i64 (m : Int)), (3, vi .i64 (b : Int)), (4, .t (.c (.fn (.func 31) [] []))), (18, vi .i64 (md : Int)), (20, vi .i64 (s : Int)), (24, vi .i64 (e : Int)), (185, vb (decide ((m : Int) < (e : Int))))] [(0, .row 47 3 ((pre ++ a1 ++ b1 ++ a2 ++ b2 ++ post).map Part.d))]) (by rw [show ((pre ++ a1 ++ a2 ++ b1 ++ b2 ++ post) : List Part) = (pre ++ a1 ++ b1 ++ a2 ++ b2 ++ post) from by rcases (show a2.length = 0 ∨ b1.length = 0 by omega) with g | g <;> (rw [len_nil g]; simp)])
                  exact atS h (by kernel_rfl) (by kernel_rfl)
              · have hc26 := hc; clear hc
                have hc26' := of_decide_eq_false hc26
                refine rSeq ti_ok 1 [(2, .cmp (op := .lss) (m := (s : Int)) (n := (m : Int)) (b := false) .i64 hc26)] [(0, .t (.c (.own 0 L))), (1, vi .i64 (lo : Int)), (2, vi .i64 (m : Int)), (3, vi .i64 (b : Int)), (4, .t (.c (.fn (.func 31) [] []))), (18, vi .i64 (md : Int)), (20, vi .i64 (s : Int)), (24, vi .i64 (e : Int)), (185, vb false)] [(0, .row 47 3 ((pre ++ a1 ++ a2 ++ b1 ++ b2 ++ post).map Part.d))] (by kernel_rfl) h ?_; clear h; intro a w h
                refine condS false h rfl (fun hc => ?_) (fun hc => ?_)
                · cases hc
                · clear hc
                  refine wp_skip ?_
                  refine then_n ?_
                  replace h := h.conv (f' := F.of [(0, .t (.c (.own 0 L))), (1, vi .i64 (lo : Int)), (2, vi .i64 (m : Int)), (3, vi .i64 (b : Int)), (4, .t (.c (.fn (.func 31) [] []))), (18, vi .i64 (md : Int)), (20, vi .i64 (s : Int)), (24, vi .i64 (e : Int)), (185, vb false)] [(0, .row 47 3 ((pre ++ a1 ++ b1 ++ a2 ++ b2 ++ post).map Part.d))]) (by rw [show ((pre ++ a1 ++ a2 ++ b1 ++ b2 ++ post) : List Part) = (pre ++ a1 ++ b1 ++ a2 ++ b2 ++ post) from by rcases (show a2.length = 0 ∨ b1.length = 0 by omega) with g | g <;> (rw [len_nil g]; simp)])
                  exact atS h (by kernel_rfl) (by kernel_rfl)
            · refine midH h [(0, .t (.c (.own 0 L))), (3, vi .i64 (b : Int)), (4, .t (.c (.fn (.func 31) [] []))), (18, vi .i64 (md : Int)), (24, vi .i64 (e : Int))] [(0, .row 47 3 ((pre ++ ssV Part.v (a1 ++ b1) ++ a2 ++ b2 ++ post).map Part.d))] ?_ (fun a w h => ?_)
              · rcases Bool.eq_false_or_eq_true (decide ((lo : Int) < (s : Int))) with hc | hc
                · have hc27 := hc; clear hc
                  have hc27' := of_decide_eq_true hc27
                  refine rSeq ti_ok 1 [(2, .cmp (op := .lss) (m := (lo : Int)) (n := (s : Int)) (b := true) .i64 hc27)] [(0, .t (.c (.own 0 L))), (1, vi .i64 (lo : Int)), (3, vi .i64 (b : Int)), (4, .t (.c (.fn (.func 31) [] []))), (18, vi .i64 (md : Int)), (20, vi .i64 (s : Int)), (24, vi .i64 (e : Int)), (199, vb (decide ((s : Int) < (md : Int))))] [(0, .row 47 3 ((pre ++ a1 ++ b1 ++ a2 ++ b2 ++ post).map Part.d))] (by kernel_rfl) h ?_; clear h; intro a w h
                  refine condS (decide ((s : Int) < (md : Int))) h rfl (fun hc => ?_) (fun hc => ?_)
                  · have hc28 := hc; clear hc
                    have hc28' := of_decide_eq_true hc28
                    refine rS ti_ok 1 [(5, .call (ih (a1.length + b1.length) (by omega) L lo s md (pre ++ a1 ++ b1 ++ a2 ++ b2 ++ post) (pre ++ ssV Part.v (a1 ++ b1) ++ a2 ++ b2 ++ post) ⟨pre, a1, b1, (a2 ++ b2 ++ post), rfl, by first | omega | (simp only [List.length_append, ssV_len]; omega), by first | omega | (simp only [List.length_append, ssV_len]; omega), by first | omega | (simp only [List.length_append, ssV_len]; omega), by first | omega | (simp only [List.length_append, ssV_len]; omega), by omega, by omega, by omega, ra1, rb1, by simp only [List.append_assoc], by simp only [List.append_assoc]⟩) ti_4)] [(0, .t (.c (.own 0 L))), (3, vi .i64 (b : Int)), (4, .t (.c (.fn (.func 31) [] []))), (18, vi .i64 (md : Int)), (24, vi .i64 (e : Int))] [(0, .row 47 3 ((pre ++ ssV Part.v (a1 ++ b1) ++ a2 ++ b2 ++ post).map Part.d))] (by kernel_rfl) h ?_; clear h; intro a w h
                    refine then_n ?_
                    exact atS h (by kernel_rfl) (by kernel_rfl)
                  · have hc29 := hc; clear hc
                    have hc29' := of_decide_eq_false hc29
                    refine wp_skip ?_
                    refine then_n ?_
                    replace h := h.conv (f' := F.of [(0, .t (.c (.own 0 L))), (1, vi .i64 (lo : Int)), (3, vi .i64 (b : Int)), (4, .t (.c (.fn (.func 31) [] []))), (18, vi .i64 (md : Int)), (20, vi .i64 (s : Int)), (24, vi .i64 (e : Int)), (199, vb (decide ((s : Int) < (md : Int))))] [(0, .row 47 3 ((pre ++ ssV Part.v (a1 ++ b1) ++ a2 ++ b2 ++ post).map Part.d))]) (by rw [show ((pre ++ a1 ++ b1 ++ a2 ++ b2 ++ post) : List Part) = (pre ++ ssV Part.v (a1 ++ b1) ++ a2 ++ b2 ++ post) from by rw [ssV_e (show a1.length = 0 ∨ b1.length = 0 by omega) ra1 rb1]; simp only [List.append_assoc]])
                    exact atS h (by kernel_rfl) (by kernel_rfl)
                · have hc30 := hc; clear hc
                  have hc30' := of_decide_eq_false hc30
                  refine rSeq ti_ok 1 [(2, .cmp (op := .lss) (m := (lo : Int)) (n := (s : Int)) (b := false) .i64 hc30)] [(0, .t (.c (.own 0 L))), (1, vi .i64 (lo : Int)), (3, vi .i64 (b : Int)), (4, .t (.c (.fn (.func 31) [] []))), (18, vi .i64 (md : Int)), (20, vi .i64 (s : Int)), (24, vi .i64 (e : Int)), (199, vb false)] [(0, .row 47 3 ((pre ++ a1 ++ b1 ++ a2 ++ b2 ++ post).map Part.d))] (by kernel_rfl) h ?_; clear h; intro a w h
                  refine condS false h rfl (fun hc => ?_) (fun hc => ?_)
                  · cases hc
                  · clear hc
                    refine wp_skip ?_
                    refine then_n ?_
                    replace h := h.conv (f' := F.of [(0, .t (.c (.own 0 L))), (1, vi .i64 (lo : Int)), (3, vi .i64 (b : Int)), (4, .t (.c (.fn (.func 31) [] []))), (18, vi .i64 (md : Int)), (20, vi .i64 (s : Int)), (24, vi .i64 (e : Int)), (199, vb false)] [(0, .row 47 3 ((pre ++ ssV Part.v (a1 ++ b1) ++ a2 ++ b2 ++ post).map Part.d))]) (by rw [show ((pre ++ a1 ++ b1 ++ a2 ++ b2 ++ post) : List Part) = (pre ++ ssV Part.v (a1 ++ b1) ++ a2 ++ b2 ++ post) from by rw [ssV_e (show a1.length = 0 ∨ b1.length = 0 by omega) ra1 rb1]; simp only [List.append_assoc]])
                    exact atS h (by kernel_rfl) (by kernel_rfl)
              · rcases Bool.eq_false_or_eq_true (decide ((md : Int) < (e : Int))) with hc | hc
                · have hc31 := hc; clear hc
                  have hc31' := of_decide_eq_true hc31
                  refine rSeq ti_ok 1 [(2, .cmp (op := .lss) (m := (md : Int)) (n := (e : Int)) (b := true) .i64 hc31)] [(0, .t (.c (.own 0 L))), (3, vi .i64 (b : Int)), (4, .t (.c (.fn (.func 31) [] []))), (18, vi .i64 (md : Int)), (24, vi .i64 (e : Int)), (213, vb (decide ((e : Int) < (b : Int))))] [(0, .row 47 3 ((pre ++ ssV Part.v (a1 ++ b1) ++ a2 ++ b2 ++ post).map Part.d))] (by kernel_rfl) h ?_; clear h; intro a w h
                  refine condS (decide ((e : Int) < (b : Int))) h rfl (fun hc => ?_) (fun hc => ?_)
                  · have hc32 := hc; clear hc
                    have hc32' := of_decide_eq_true hc32
                    refine rS ti_ok 1 [(5, .call (ih (a2.length + b2.length) (by omega) L md e b (pre ++ ssV Part.v (a1 ++ b1) ++ a2 ++ b2 ++ post) (pre ++ ssV Part.v (a1 ++ b1) ++ ssV Part.v (a2 ++ b2) ++ post) ⟨(pre ++ ssV Part.v (a1 ++ b1)), a2, b2, post, rfl, by first | omega | (simp only [List.length_append, ssV_len]; omega), by first | omega | (simp only [List.length_append, ssV_len]; omega), by first | omega | (simp only [List.length_append, ssV_len]; omega), by first | omega | (simp only [List.length_append, ssV_len]; omega), by omega, by omega, by omega, ra2, rb2, by simp only [List.append_assoc], by simp only [List.append_assoc]⟩) ti_4)] [] [(0, .row 47 3 ((pre ++ ssV Part.v (a1 ++ b1) ++ ssV Part.v (a2 ++ b2) ++ post).map Part.d))] (by kernel_rfl) h ?_; clear h; intro a w h
                    replace h := h.conv (f' := F.of [] [(0, .row 47 3 ((pre ++ ssV Part.v (X ++ Y) ++ post).map Part.d))]) (by rw [show ((pre ++ ssV Part.v (a1 ++ b1) ++ ssV Part.v (a2 ++ b2) ++ post) : List Part) = (pre ++ ssV Part.v (X ++ Y) ++ post) from by rw [← hsm]; simp only [List.append_assoc]])
                    refine retS [] h Exit.normal (.inr rfl)  rfl trivial ?_ (by kernel_rfl) (by kernel_rfl)
                    rfl
                  · have hc33 := hc; clear hc
                    have hc33' := of_decide_eq_false hc33
                    refine wp_skip ?_
                    replace h := h.conv (f' := F.of [(0, .t (.c (.own 0 L))), (3, vi .i64 (b : Int)), (4, .t (.c (.fn (.func 31) [] []))), (18, vi .i64 (md : Int)), (24, vi .i64 (e : Int)), (213, vb (decide ((e : Int) < (b : Int))))] [(0, .row 47 3 ((pre ++ ssV Part.v (X ++ Y) ++ post).map Part.d))]) (by rw [show ((pre ++ ssV Part.v (a1 ++ b1) ++ a2 ++ b2 ++ post) : List Part) = (pre ++ ssV Part.v (X ++ Y) ++ post) from by rw [← hsm, ssV_e (show a2.length = 0 ∨ b2.length = 0 by omega) ra2 rb2]; simp only [List.append_assoc]])
                    refine retS [] h Exit.normal (.inr rfl)  rfl trivial ?_ (by kernel_rfl) (by kernel_rfl)
                    rfl
                · have hc34 := hc; clear hc
                  have hc34' := of_decide_eq_false hc34
                  refine rSeq ti_ok 1 [(2, .cmp (op := .lss) (m := (md : Int)) (n := (e : Int)) (b := false) .i64 hc34)] [(0, .t (.c (.own 0 L))), (3, vi .i64 (b : Int)), (4, .t (.c (.fn (.func 31) [] []))), (18, vi .i64 (md : Int)), (24, vi .i64 (e : Int)), (213, vb false)] [(0, .row 47 3 ((pre ++ ssV Part.v (a1 ++ b1) ++ a2 ++ b2 ++ post).map Part.d))] (by kernel_rfl) h ?_; clear h; intro a w h
                  refine condS false h rfl (fun hc => ?_) (fun hc => ?_)
                  · cases hc
                  · clear hc
                    refine wp_skip ?_
                    replace h := h.conv (f' := F.of [(0, .t (.c (.own 0 L))), (3, vi .i64 (b : Int)), (4, .t (.c (.fn (.func 31) [] []))), (18, vi .i64 (md : Int)), (24, vi .i64 (e : Int)), (213, vb false)] [(0, .row 47 3 ((pre ++ ssV Part.v (X ++ Y) ++ post).map Part.d))]) (by rw [show ((pre ++ ssV Part.v (a1 ++ b1) ++ a2 ++ b2 ++ post) : List Part) = (pre ++ ssV Part.v (X ++ Y) ++ post) from by rw [← hsm, ssV_e (show a2.length = 0 ∨ b2.length = 0 by omega) ra2 rb2]; simp only [List.append_assoc]])
                    refine retS [] h Exit.normal (.inr rfl)  rfl trivial ?_ (by kernel_rfl) (by kernel_rfl)
                    rfl
theorem Ssym : ∀ (N : Nat), SymIH N
  | 0 => fun n hn => absurd hn (by omega)
  | N + 1 => fun n hn L a m b r0 r1 hs => SsymN (N := n) (fun k hk => Ssym N k (by omega)) hs
end Go.Proofs.Ytekhnajfdaknnaa.S
