/-
  Stable sorting.
-/
import Derived.Test.YtekhnajfdaknnaaTi
import Derived.Test.YtekhnajfdaknnaaStd
namespace Go.Proofs.Ytekhnajfdaknnaa.S
open Go.RowKit

theorem tj_0 : Bodied Try.prog 71 := Bodied.mk' (by kernel_rfl)
theorem tj_1 : Bodied Try.prog 72 := Bodied.mk' (by kernel_rfl)
theorem tj_2 : Bodied Try.prog 53 := Bodied.mk' (by kernel_rfl)
def tj_tb : Tb := [(22, ⟨1, false, [], [.d (.raw nilV)], 1⟩)]
theorem tj_ok : TbOk Try.prog tj_tb := ⟨TyOk.slc Try.underlying22 (by kernel_rfl) ⟨(.slice none 0 0 : Value), [.slice none 0 0], by kernel_rfl, rfl, (fun _ _ => ⟨DR.raw _ rfl, trivial⟩)⟩,
  trivial⟩
theorem Sinsort2 {r0 r1 : List Part} {L lo hi : Nat} (pre mid post : List Part) (e0 : r0 = pre ++ mid ++ post) (e1 : r1 = pre ++ ssV Part.v mid ++ post) (eL : L = pre.length + mid.length + post.length) (ea : lo = pre.length) (eb : hi = pre.length + mid.length) (hl : L ≤ 1000000) :
    Fn Try.prog 71 [(0, .row 47 3 (r0.map Part.d))] [.t (.c (.own 0 L)), vi .i64 (lo : Int), vi .i64 (hi : Int), .t (.c (.fn (.func 31) [] []))] (.tup []) [(0, .row 47 3 (r1.map Part.d))] := by
  have el : L = (pre ++ mid ++ post).length := by simp only [List.length_append]; omega
  subst e0 e1 ea eb el
  exact Sinsort pre mid post hl
theorem Ssym2 {r0 r1 : List Part} {L lo m b : Nat} (pre X Y post : List Part) (e0 : r0 = pre ++ X ++ Y ++ post) (e1 : r1 = pre ++ ssV Part.v (X ++ Y) ++ post) (rX : Ris Part.v X) (rY : Ris Part.v Y) (hX : 0 < X.length) (hY : 0 < Y.length) (ea : lo = pre.length) (em : m = pre.length + X.length) (eb : b = pre.length + X.length + Y.length) (eL : L = pre.length + X.length + Y.length + post.length) (hl : L ≤ 1000000) :
    Fn Try.prog 72 [(0, .row 47 3 (r0.map Part.d))] [.t (.c (.own 0 L)), vi .i64 (lo : Int), vi .i64 (m : Int), vi .i64 (b : Int), .t (.c (.fn (.func 31) [] []))] (.tup []) [(0, .row 47 3 (r1.map Part.d))] :=
  Ssym (X.length + Y.length + 1) (X.length + Y.length) (by omega) L lo m b r0 r1 ⟨pre, X, Y, post, rfl, ea, em, eb, eL, hl, hX, hY, rX, rY, e0, e1⟩
set_option maxRecDepth 100000 in
theorem Sstable (xs : List Part) (L : Nat) (hL : L = xs.length) (hl : L ≤ 400000) : Fn Try.prog 53 [(0, .row 47 3 (xs.map Part.d))] [.t (.c (.own 0 L)), vi .i64 (L : Int), .t (.c (.fn (.func 31) [] []))] (.tup []) [(0, .row 47 3 ((ssV Part.v xs).map Part.d))] := by
  refine Fn.body Try.func53 rfl 63 rfl fun w H B a h => ?_
  refine rSeq tj_ok 1 [] [(0, .t (.c (.own 0 L))), (1, vi .i64 (L : Int)), (2, .t (.c (.fn (.func 31) [] []))), (6, vi .i64 20)] [(0, .row 47 3 (xs.map Part.d))] (by kernel_rfl) h ?_; clear h; intro a w h
  refine rSeq tj_ok 1 [] [(0, .t (.c (.own 0 L))), (1, vi .i64 (L : Int)), (2, .t (.c (.fn (.func 31) [] []))), (6, vi .i64 20), (7, vi .i64 0), (8, vi .i64 20)] [(0, .row 47 3 (xs.map Part.d))] (by kernel_rfl) h ?_; clear h; intro a w h
  refine wp_seq ?_
  refine wp_block ?_
  refine loopS (ι := (Nat) × (List Part) × (List Part)) (fun (z_ : (Nat) × (List Part) × (List Part)) => match z_ with | (lo, P, Z) => lo = P.length ∧ Pfx 20 P ∧ lo + Z.length = L ∧ Stb Part.v (P ++ Z) xs)
      (fun (z_ : (Nat) × (List Part) × (List Part)) => match z_ with | (lo, P, Z) => [(0, .t (.c (.own 0 L))), (1, vi .i64 (L : Int)), (2, .t (.c (.fn (.func 31) [] []))), (6, vi .i64 20), (7, vi .i64 (lo : Int)), (8, vi .i64 ((20 + lo : Nat) : Int))])
      (fun (z_ : (Nat) × (List Part) × (List Part)) => match z_ with | (lo, P, Z) => [(0, .row 47 3 ((P ++ Z).map Part.d))])
      (fun (z_ : (Nat) × (List Part) × (List Part)) => match z_ with | (lo, P, Z) => Z.length) (0, [], xs) ?_ h (by kernel_rfl) (by kernel_rfl) ?_
  · exact ⟨rfl, Pfx.nil _, by simp; omega, Stb.refl _⟩
  · clear h; rintro ⟨lo, P, Z⟩ a w hI h
    change St _ (F.of [(0, .t (.c (.own 0 L))), (1, vi .i64 (L : Int)), (2, .t (.c (.fn (.func 31) [] []))), (6, vi .i64 20), (7, vi .i64 (lo : Int)), (8, vi .i64 ((20 + lo : Nat) : Int))] [(0, .row 47 3 ((P ++ Z).map Part.d))]) a w at h
    obtain ⟨q1, q2, q3, q4⟩ := hI
    refine wp_seq ?_
    refine rSeq tj_ok 1 [] [(0, .t (.c (.own 0 L))), (1, vi .i64 (L : Int)), (2, .t (.c (.fn (.func 31) [] []))), (6, vi .i64 20), (7, vi .i64 (lo : Int)), (8, vi .i64 ((20 + lo : Nat) : Int)), (13, vb (decide (((20 + lo : Nat) : Int) ≤ (L : Int))))] [(0, .row 47 3 ((P ++ Z).map Part.d))] (by kernel_rfl) h ?_; clear h; intro a w h
    refine condS (decide (((20 + lo : Nat) : Int) ≤ (L : Int))) h rfl (fun hc => ?_) (fun hc => ?_)
    · have hc1 := hc; clear hc
      have hc1' := of_decide_eq_true hc1
      refine wp_skip ?_
      refine then_n ?_
      refine wp_block ?_
      obtain ⟨M, Z1, hZ, hM⟩ := split_to (l := Z) (n := 20) (by omega)
      have hz1 : Z.length = M.length + Z1.length := by rw [hZ, List.length_append]
      replace h := h.conv (f' := F.of [(0, .t (.c (.own 0 L))), (1, vi .i64 (L : Int)), (2, .t (.c (.fn (.func 31) [] []))), (6, vi .i64 20), (7, vi .i64 (lo : Int)), (8, vi .i64 ((20 + lo : Nat) : Int)), (13, vb (decide (((20 + lo : Nat) : Int) ≤ (L : Int))))] [(0, .row 47 3 ((P ++ (M ++ Z1)).map Part.d))]) (by rw [show ((P ++ Z) : List Part) = (P ++ (M ++ Z1)) from by rw [hZ]])
      refine rSeq tj_ok 1 [(4, .call (Sinsort2 (r0 := (P ++ (M ++ Z1))) (r1 := ((P ++ ssV Part.v M) ++ Z1)) (L := L) (lo := lo) (hi := (20 + lo)) P M Z1 (by simp only [List.append_assoc]) (rfl) (by first | omega | (simp only [List.length_append, ssV_len]; omega)) (by first | omega | (simp only [List.length_append, ssV_len]; omega)) (by first | omega | (simp only [List.length_append, ssV_len]; omega)) (by omega)) tj_0)] [(0, .t (.c (.own 0 L))), (1, vi .i64 (L : Int)), (2, .t (.c (.fn (.func 31) [] []))), (6, vi .i64 20), (7, vi .i64 (lo : Int)), (8, vi .i64 ((20 + lo : Nat) : Int))] [(0, .row 47 3 (((P ++ ssV Part.v M) ++ Z1).map Part.d))] (by kernel_rfl) h ?_; clear h; intro a w h
      refine rSeq tj_ok 1 [] [(0, .t (.c (.own 0 L))), (1, vi .i64 (L : Int)), (2, .t (.c (.fn (.func 31) [] []))), (6, vi .i64 20), (7, vi .i64 ((20 + lo : Nat) : Int)), (8, vi .i64 ((20 + lo : Nat) : Int))] [(0, .row 47 3 (((P ++ ssV Part.v M) ++ Z1).map Part.d))] (by kernel_rfl) h ?_; clear h; intro a w h
      refine rS tj_ok 1 [(2, .gen _ _ _ fun _ _ _ _ => Op.arith (op := .add) (d := 22) (xt := 3) (yt := 3) (k := .i64) (m := ((20 + lo : Nat) : Int)) (n := 20) (r := ((20 + (20 + lo) : Nat) : Int)) (OV.tmp 20 _) (OV.tmp 21 _) (.inl ⟨rfl, (by omega)⟩) (i64_id (by omega) (by omega)))] [(0, .t (.c (.own 0 L))), (1, vi .i64 (L : Int)), (2, .t (.c (.fn (.func 31) [] []))), (6, vi .i64 20), (7, vi .i64 ((20 + lo : Nat) : Int)), (8, vi .i64 ((20 + (20 + lo) : Nat) : Int))] [(0, .row 47 3 (((P ++ ssV Part.v M) ++ Z1).map Part.d))] (by kernel_rfl) h ?_; clear h; intro a w h
      refine block_n ?_
      refine then_n ?_
      refine roundS (x := (lo, P, Z)) (y := ((20 + lo), (P ++ ssV Part.v M), Z1)) h ?_ ?_ (by kernel_rfl) (by kernel_rfl)
      · exact ⟨by rw [List.length_append, ssV_len]; omega, q2.snoc (by rw [ssV_len]; exact hM) (ssV_ris M), by omega, by rw [List.append_assoc]; exact Stb.mid (by rw [← hZ]; exact q4) (ssV_stb M)⟩
      · show Z1.length < Z.length
        omega
    · have hc2 := hc; clear hc
      have hc2' := of_decide_eq_false hc2
      refine wp_exit ?_
      refine then_x ?_
      refine then_x ?_
      refine inBlock_exit ?_
      refine then_n ?_
      refine rSeq tj_ok 1 [(4, .call (Sinsort2 (r0 := (P ++ Z)) (r1 := (P ++ ssV Part.v Z)) (L := L) (lo := lo) (hi := L) P Z [] ((List.append_nil _).symm) ((List.append_nil _).symm) (by simp only [List.length_nil]; omega) (by first | omega | (simp only [List.length_append, ssV_len]; omega)) (by first | omega | (simp only [List.length_append, ssV_len]; omega)) (by omega)) tj_0)] [(0, .t (.c (.own 0 L))), (1, vi .i64 (L : Int)), (2, .t (.c (.fn (.func 31) [] []))), (6, vi .i64 20), (7, vi .i64 (lo : Int)), (8, vi .i64 ((20 + lo : Nat) : Int))] [(0, .row 47 3 ((P ++ ssV Part.v Z).map Part.d))] (by kernel_rfl) h ?_; clear h; intro a w h
      refine wp_block ?_
      refine loopS (ι := (Nat) × (List Part)) (fun (z_ : (Nat) × (List Part)) => match z_ with | (bs, ys) => 20 ≤ bs ∧ bs ≤ 2 * L + 20 ∧ Blk bs ys ∧ Stb Part.v ys xs)
          (fun (z_ : (Nat) × (List Part)) => match z_ with | (bs, ys) => [(0, .t (.c (.own 0 L))), (1, vi .i64 (L : Int)), (2, .t (.c (.fn (.func 31) [] []))), (6, vi .i64 (bs : Int))])
          (fun (z_ : (Nat) × (List Part)) => match z_ with | (bs, ys) => [(0, .row 47 3 (ys.map Part.d))])
          (fun (z_ : (Nat) × (List Part)) => match z_ with | (bs, ys) => L - bs) (20, (P ++ ssV Part.v Z)) ?_ h (by kernel_rfl) (by kernel_rfl) ?_
      · exact ⟨Nat.le_refl _, by omega, q2 _ (.last _ (ssV_ris Z) (by rw [ssV_len]; omega)), (((Stb.refl P).app (ssV_stb Z)).trans q4)⟩
      · clear h; rintro ⟨bs, ys⟩ a w hI h
        change St _ (F.of [(0, .t (.c (.own 0 L))), (1, vi .i64 (L : Int)), (2, .t (.c (.fn (.func 31) [] []))), (6, vi .i64 (bs : Int))] [(0, .row 47 3 (ys.map Part.d))]) a w at h
        obtain ⟨p1, p2, p3, p4⟩ := hI
        have p5 := p4.len
        refine wp_seq ?_
        refine rSeq tj_ok 1 [] [(0, .t (.c (.own 0 L))), (1, vi .i64 (L : Int)), (2, .t (.c (.fn (.func 31) [] []))), (6, vi .i64 (bs : Int)), (30, vb (decide ((bs : Int) < (L : Int))))] [(0, .row 47 3 (ys.map Part.d))] (by kernel_rfl) h ?_; clear h; intro a w h
        refine condS (decide ((bs : Int) < (L : Int))) h rfl (fun hc => ?_) (fun hc => ?_)
        · have hc3 := hc; clear hc
          have hc3' := of_decide_eq_true hc3
          refine wp_skip ?_
          refine then_n ?_
          refine wp_block ?_
          refine rSeq tj_ok 1 [(1, .gen _ _ _ fun _ _ _ _ => Op.arith (op := .mul) (d := 32) (xt := 3) (yt := 3) (k := .i64) (m := 2) (n := (bs : Int)) (r := ((2 * bs : Nat) : Int)) (OV.const (.int .i64 2) rfl) (OV.tmp 31 _) (.inr (.inr ⟨rfl, (by omega)⟩)) (i64_id (by omega) (by omega)))] [(0, .t (.c (.own 0 L))), (1, vi .i64 (L : Int)), (2, .t (.c (.fn (.func 31) [] []))), (6, vi .i64 (bs : Int)), (7, vi .i64 0), (8, vi .i64 ((2 * bs : Nat) : Int))] [(0, .row 47 3 (ys.map Part.d))] (by kernel_rfl) h ?_; clear h; intro a w h
          refine wp_seq ?_
          refine wp_block ?_
          refine loopS (ι := (Nat) × (List Part) × (List Part)) (fun (z_ : (Nat) × (List Part) × (List Part)) => match z_ with | (lo, P, Z) => lo = P.length ∧ Pfx (2 * bs) P ∧ lo + Z.length = L ∧ Blk bs Z ∧ Stb Part.v (P ++ Z) xs)
              (fun (z_ : (Nat) × (List Part) × (List Part)) => match z_ with | (lo, P, Z) => [(0, .t (.c (.own 0 L))), (1, vi .i64 (L : Int)), (2, .t (.c (.fn (.func 31) [] []))), (6, vi .i64 (bs : Int)), (7, vi .i64 (lo : Int)), (8, vi .i64 ((2 * bs + lo : Nat) : Int))])
              (fun (z_ : (Nat) × (List Part) × (List Part)) => match z_ with | (lo, P, Z) => [(0, .row 47 3 ((P ++ Z).map Part.d))])
              (fun (z_ : (Nat) × (List Part) × (List Part)) => match z_ with | (lo, P, Z) => Z.length) (0, [], ys) ?_ h (by kernel_rfl) (by kernel_rfl) ?_
          · exact ⟨rfl, Pfx.nil _, by simp; omega, p3, p4⟩
          · clear h; rintro ⟨lo, P, Z⟩ a w hI h
            change St _ (F.of [(0, .t (.c (.own 0 L))), (1, vi .i64 (L : Int)), (2, .t (.c (.fn (.func 31) [] []))), (6, vi .i64 (bs : Int)), (7, vi .i64 (lo : Int)), (8, vi .i64 ((2 * bs + lo : Nat) : Int))] [(0, .row 47 3 ((P ++ Z).map Part.d))]) a w at h
            obtain ⟨q1, q2, q3, q5, q4⟩ := hI
            refine wp_seq ?_
            refine rSeq tj_ok 1 [] [(0, .t (.c (.own 0 L))), (1, vi .i64 (L : Int)), (2, .t (.c (.fn (.func 31) [] []))), (6, vi .i64 (bs : Int)), (7, vi .i64 (lo : Int)), (8, vi .i64 ((2 * bs + lo : Nat) : Int)), (35, vb (decide (((2 * bs + lo : Nat) : Int) ≤ (L : Int))))] [(0, .row 47 3 ((P ++ Z).map Part.d))] (by kernel_rfl) h ?_; clear h; intro a w h
            refine condS (decide (((2 * bs + lo : Nat) : Int) ≤ (L : Int))) h rfl (fun hc => ?_) (fun hc => ?_)
            · have hc4 := hc; clear hc
              have hc4' := of_decide_eq_true hc4
              refine wp_skip ?_
              refine then_n ?_
              refine wp_block ?_
              obtain ⟨X, Y, Z1, hZ, hX, hY, rX, rY, bZ⟩ := q5.two (by omega)
              have hz1 : Z.length = X.length + Y.length + Z1.length := by rw [hZ, List.length_append, List.length_append]
              replace h := h.conv (f' := F.of [(0, .t (.c (.own 0 L))), (1, vi .i64 (L : Int)), (2, .t (.c (.fn (.func 31) [] []))), (6, vi .i64 (bs : Int)), (7, vi .i64 (lo : Int)), (8, vi .i64 ((2 * bs + lo : Nat) : Int)), (35, vb (decide (((2 * bs + lo : Nat) : Int) ≤ (L : Int))))] [(0, .row 47 3 ((P ++ X ++ Y ++ Z1).map Part.d))]) (by rw [show ((P ++ Z) : List Part) = (P ++ X ++ Y ++ Z1) from by rw [hZ]; simp only [List.append_assoc]])
              refine rSeq tj_ok 1 [(4, .gen _ _ _ fun _ _ _ _ => Op.arith (op := .add) (d := 40) (xt := 3) (yt := 3) (k := .i64) (m := (lo : Int)) (n := (bs : Int)) (r := ((lo + bs : Nat) : Int)) (OV.tmp 38 _) (OV.tmp 39 _) (.inl ⟨rfl, (by omega)⟩) (i64_id (by omega) (by omega))), (7, .call (Ssym2 (r0 := (P ++ X ++ Y ++ Z1)) (r1 := ((P ++ ssV Part.v (X ++ Y)) ++ Z1)) (L := L) (lo := lo) (m := (lo + bs)) (b := (2 * bs + lo)) P X Y Z1 rfl rfl rX rY (by omega) (by omega) (by first | omega | (simp only [List.length_append, ssV_len]; omega)) (by first | omega | (simp only [List.length_append, ssV_len]; omega)) (by first | omega | (simp only [List.length_append, ssV_len]; omega)) (by first | omega | (simp only [List.length_append, ssV_len]; omega)) (by omega)) tj_1)] [(0, .t (.c (.own 0 L))), (1, vi .i64 (L : Int)), (2, .t (.c (.fn (.func 31) [] []))), (6, vi .i64 (bs : Int)), (7, vi .i64 (lo : Int)), (8, vi .i64 ((2 * bs + lo : Nat) : Int))] [(0, .row 47 3 (((P ++ ssV Part.v (X ++ Y)) ++ Z1).map Part.d))] (by kernel_rfl) h ?_; clear h; intro a w h
              refine rSeq tj_ok 1 [] [(0, .t (.c (.own 0 L))), (1, vi .i64 (L : Int)), (2, .t (.c (.fn (.func 31) [] []))), (6, vi .i64 (bs : Int)), (7, vi .i64 ((2 * bs + lo : Nat) : Int)), (8, vi .i64 ((2 * bs + lo : Nat) : Int))] [(0, .row 47 3 (((P ++ ssV Part.v (X ++ Y)) ++ Z1).map Part.d))] (by kernel_rfl) h ?_; clear h; intro a w h
              refine rS tj_ok 1 [(2, .gen _ _ _ fun _ _ _ _ => Op.arith (op := .mul) (d := 47) (xt := 3) (yt := 3) (k := .i64) (m := 2) (n := (bs : Int)) (r := ((2 * bs : Nat) : Int)) (OV.const (.int .i64 2) rfl) (OV.tmp 46 _) (.inr (.inr ⟨rfl, (by omega)⟩)) (i64_id (by omega) (by omega))), (3, .gen _ _ _ fun _ _ _ _ => Op.arith (op := .add) (d := 48) (xt := 3) (yt := 3) (k := .i64) (m := ((2 * bs + lo : Nat) : Int)) (n := ((2 * bs : Nat) : Int)) (r := ((2 * bs + (2 * bs + lo) : Nat) : Int)) (OV.tmp 45 _) (OV.tmp 47 _) (.inl ⟨rfl, (by omega)⟩) (i64_id (by omega) (by omega)))] [(0, .t (.c (.own 0 L))), (1, vi .i64 (L : Int)), (2, .t (.c (.fn (.func 31) [] []))), (6, vi .i64 (bs : Int)), (7, vi .i64 ((2 * bs + lo : Nat) : Int)), (8, vi .i64 ((2 * bs + (2 * bs + lo) : Nat) : Int))] [(0, .row 47 3 (((P ++ ssV Part.v (X ++ Y)) ++ Z1).map Part.d))] (by kernel_rfl) h ?_; clear h; intro a w h
              refine block_n ?_
              refine then_n ?_
              refine roundS (x := (lo, P, Z)) (y := ((2 * bs + lo), (P ++ ssV Part.v (X ++ Y)), Z1)) h ?_ ?_ (by kernel_rfl) (by kernel_rfl)
              · exact ⟨by rw [List.length_append, ssV_len, List.length_append]; omega, q2.snoc (by rw [ssV_len, List.length_append]; omega) (ssV_ris _), by omega, bZ, by rw [List.append_assoc]; exact Stb.mid (M := X ++ Y) (by rw [← hZ]; exact q4) (ssV_stb _)⟩
              · show Z1.length < Z.length
                omega
            · have hc5 := hc; clear hc
              have hc5' := of_decide_eq_false hc5
              refine wp_exit ?_
              refine then_x ?_
              refine then_x ?_
              refine inBlock_exit ?_
              refine then_n ?_
              refine wp_seq ?_
              refine rSeq tj_ok 1 [(2, .gen _ _ _ fun _ _ _ _ => Op.arith (op := .add) (d := 51) (xt := 3) (yt := 3) (k := .i64) (m := (lo : Int)) (n := (bs : Int)) (r := ((lo + bs : Nat) : Int)) (OV.tmp 49 _) (OV.tmp 50 _) (.inl ⟨rfl, (by omega)⟩) (i64_id (by omega) (by omega)))] [(0, .t (.c (.own 0 L))), (1, vi .i64 (L : Int)), (2, .t (.c (.fn (.func 31) [] []))), (6, vi .i64 (bs : Int)), (7, vi .i64 (lo : Int)), (9, vi .i64 ((lo + bs : Nat) : Int))] [(0, .row 47 3 ((P ++ Z).map Part.d))] (by kernel_rfl) h ?_; clear h; intro a w h
              refine rSeq tj_ok 1 [] [(0, .t (.c (.own 0 L))), (1, vi .i64 (L : Int)), (2, .t (.c (.fn (.func 31) [] []))), (6, vi .i64 (bs : Int)), (7, vi .i64 (lo : Int)), (9, vi .i64 ((lo + bs : Nat) : Int)), (54, vb (decide (((lo + bs : Nat) : Int) < (L : Int))))] [(0, .row 47 3 ((P ++ Z).map Part.d))] (by kernel_rfl) h ?_; clear h; intro a w h
              refine condS (decide (((lo + bs : Nat) : Int) < (L : Int))) h rfl (fun hc => ?_) (fun hc => ?_)
              · have hc6 := hc; clear hc
                have hc6' := of_decide_eq_true hc6
                obtain ⟨X, Y, hZ, hX, rX, bY⟩ := q5.one (by omega)
                have hz1 : Z.length = X.length + Y.length := by rw [hZ, List.length_append]
                have rY := bY.ris (by omega)
                replace h := h.conv (f' := F.of [(0, .t (.c (.own 0 L))), (1, vi .i64 (L : Int)), (2, .t (.c (.fn (.func 31) [] []))), (6, vi .i64 (bs : Int)), (7, vi .i64 (lo : Int)), (9, vi .i64 ((lo + bs : Nat) : Int)), (54, vb (decide (((lo + bs : Nat) : Int) < (L : Int))))] [(0, .row 47 3 ((P ++ X ++ Y ++ []).map Part.d))]) (by rw [show ((P ++ Z) : List Part) = (P ++ X ++ Y ++ []) from by rw [hZ]; simp only [List.append_assoc, List.append_nil]])
                refine rS tj_ok 1 [(5, .call (Ssym2 (r0 := (P ++ X ++ Y ++ [])) (r1 := (P ++ ssV Part.v (X ++ Y) ++ [])) (L := L) (lo := lo) (m := (lo + bs)) (b := L) P X Y [] rfl rfl rX rY (by omega) (by omega) (by first | omega | (simp only [List.length_append, ssV_len]; omega)) (by first | omega | (simp only [List.length_append, ssV_len]; omega)) (by first | omega | (simp only [List.length_append, ssV_len]; omega)) (by simp only [List.length_nil]; omega) (by omega)) tj_1)] [(0, .t (.c (.own 0 L))), (1, vi .i64 (L : Int)), (2, .t (.c (.fn (.func 31) [] []))), (6, vi .i64 (bs : Int))] [(0, .row 47 3 ((P ++ ssV Part.v (X ++ Y) ++ []).map Part.d))] (by kernel_rfl) h ?_; clear h; intro a w h
                refine then_n ?_
                refine rS tj_ok 1 [(1, .gen _ _ _ fun _ _ _ _ => Op.arith (op := .mul) (d := 62) (xt := 3) (yt := 3) (k := .i64) (m := (bs : Int)) (n := 2) (r := ((bs * 2 : Nat) : Int)) (OV.tmp 61 _) (OV.const (.int .i64 2) rfl) (.inr (.inr ⟨rfl, (by omega)⟩)) (i64_id (by omega) (by omega)))] [(0, .t (.c (.own 0 L))), (1, vi .i64 (L : Int)), (2, .t (.c (.fn (.func 31) [] []))), (6, vi .i64 ((bs * 2 : Nat) : Int))] [(0, .row 47 3 ((P ++ ssV Part.v (X ++ Y) ++ []).map Part.d))] (by kernel_rfl) h ?_; clear h; intro a w h
                refine block_n ?_
                refine then_n ?_
                replace h := h.conv (f' := F.of [(0, .t (.c (.own 0 L))), (1, vi .i64 (L : Int)), (2, .t (.c (.fn (.func 31) [] []))), (6, vi .i64 ((bs * 2 : Nat) : Int))] [(0, .row 47 3 ((P ++ ssV Part.v Z).map Part.d))]) (by rw [show ((P ++ ssV Part.v (X ++ Y) ++ []) : List Part) = (P ++ ssV Part.v Z) from by rw [hZ, List.append_nil]])
                refine roundS (x := (bs, ys)) (y := ((bs * 2), (P ++ ssV Part.v Z))) h ?_ ?_ (by kernel_rfl) (by kernel_rfl)
                · exact ⟨by omega, by omega, by rw [Nat.mul_comm]; exact q2 _ (.last _ (ssV_ris Z) (by rw [ssV_len]; omega)), (((Stb.refl P).app (ssV_stb Z)).trans q4)⟩
                · show L - bs * 2 < L - bs
                  omega
              · have hc7 := hc; clear hc
                have hc7' := of_decide_eq_false hc7
                refine wp_skip ?_
                refine then_n ?_
                refine rS tj_ok 1 [(1, .gen _ _ _ fun _ _ _ _ => Op.arith (op := .mul) (d := 62) (xt := 3) (yt := 3) (k := .i64) (m := (bs : Int)) (n := 2) (r := ((bs * 2 : Nat) : Int)) (OV.tmp 61 _) (OV.const (.int .i64 2) rfl) (.inr (.inr ⟨rfl, (by omega)⟩)) (i64_id (by omega) (by omega)))] [(0, .t (.c (.own 0 L))), (1, vi .i64 (L : Int)), (2, .t (.c (.fn (.func 31) [] []))), (6, vi .i64 ((bs * 2 : Nat) : Int))] [(0, .row 47 3 ((P ++ Z).map Part.d))] (by kernel_rfl) h ?_; clear h; intro a w h
                refine block_n ?_
                refine then_n ?_
                replace h := h.conv (f' := F.of [(0, .t (.c (.own 0 L))), (1, vi .i64 (L : Int)), (2, .t (.c (.fn (.func 31) [] []))), (6, vi .i64 ((bs * 2 : Nat) : Int))] [(0, .row 47 3 ((P ++ ssV Part.v Z).map Part.d))]) (by rw [show ((P ++ Z) : List Part) = (P ++ ssV Part.v Z) from by rw [ssV_of (q5.ris (by omega))]])
                refine roundS (x := (bs, ys)) (y := ((bs * 2), (P ++ ssV Part.v Z))) h ?_ ?_ (by kernel_rfl) (by kernel_rfl)
                · exact ⟨by omega, by omega, by rw [Nat.mul_comm]; exact q2 _ (.last _ (ssV_ris Z) (by rw [ssV_len]; omega)), (((Stb.refl P).app (ssV_stb Z)).trans q4)⟩
                · show L - bs * 2 < L - bs
                  omega
        · have hc8 := hc; clear hc
          have hc8' := of_decide_eq_false hc8
          refine wp_exit ?_
          refine then_x ?_
          refine then_x ?_
          refine inBlock_exit ?_
          replace h := h.conv (f' := F.of [(0, .t (.c (.own 0 L))), (1, vi .i64 (L : Int)), (2, .t (.c (.fn (.func 31) [] []))), (6, vi .i64 (bs : Int)), (30, vb (decide ((bs : Int) < (L : Int))))] [(0, .row 47 3 ((ssV Part.v xs).map Part.d))]) (by rw [show (ys : List Part) = (ssV Part.v xs) from ssV_unique (p3.ris (by omega)) p4])
          refine retS [] h Exit.normal (.inr rfl)  rfl trivial ?_ (by kernel_rfl) (by kernel_rfl)
          rfl
set_option maxRecDepth 100000 in
theorem SSortStable (xs : List Part) (hl : xs.length ≤ 400000) : Fn Try.prog 30 [(0, .row 47 3 (xs.map Part.d))] [.t (.c (.own 0 xs.length)), .t (.c (.fn (.func 31) [] []))] (.tup []) [(0, .row 47 3 ((ssV Part.v xs).map Part.d))] := by
  refine Fn.body Try.func30 rfl 9 rfl fun w H B a h => ?_
  refine rS tj_ok 1 [(4, .call (Sstable xs xs.length rfl (by omega)) tj_2)] [] [(0, .row 47 3 ((ssV Part.v xs).map Part.d))] (by kernel_rfl) h ?_; clear h; intro a w h
  refine retS [] h Exit.normal (.inr rfl)  rfl trivial ?_ (by kernel_rfl) (by kernel_rfl)
  rfl
end Go.Proofs.Ytekhnajfdaknnaa.S
