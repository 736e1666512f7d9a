/-
  Terms moved; the place of a number.
-/
import Derived.Test.YtekhnajfdaknnaaStq
import Derived.Test.YtekhnajfdaknnaaTo
import Derived.Test.YtekhnajfdaknnaaSigM
namespace Go.Proofs.Ytekhnajfdaknnaa.S
open Go.RowKit

theorem tp_0 : SlT Try.prog 38 3 1 := SlT.mk' Try.underlying38 (by kernel_rfl)
theorem tp_1 : SlT Try.prog 22 47 3 := SlT.mk' Try.underlying22 (by kernel_rfl)
theorem tp_2 : Sz Try.prog 47 3 true := Sz.mk' (by kernel_rfl) Try.underlying47 _ rfl
theorem tp_3 : Bodied Try.prog 51 := Bodied.mk' (by kernel_rfl)
theorem tp_4 : Bodied Try.prog 58 := Bodied.mk' (by kernel_rfl)
theorem tp_5 : Zero Try.prog 47 [.d (.raw (.int .i64 0)), .d (.raw (.bool false)), .d (nsl [])] := ⟨(Value.agg #[.int .i64 0, .bool false, .slice none 0 0]), [.int .i64 0, .bool false, .slice none 0 0], by kernel_rfl, rfl, (fun _ _ => ⟨DR.raw _ rfl, DR.raw _ rfl, DR.nil _ _ _ (fun _ => rfl) (Nat.zero_le _), trivial⟩)⟩
theorem tp_6 : Bodied Try.prog 29 := Bodied.mk' (by kernel_rfl)
theorem tp_7 : Bodied Try.prog 30 := Bodied.mk' (by kernel_rfl)
theorem tp_8 : Bodied Try.prog 33 := Bodied.mk' (by kernel_rfl)
theorem tp_9 : ElZ Try.prog 22 47 3 := ElZ.mk' Try.underlying22 _ _ rfl rfl (by kernel_rfl) (by kernel_rfl) (by kernel_rfl) (by decide)
theorem tp_10 : ElT Try.prog 22 47 3 40 := ElT.mk' Try.underlying22 _ _ rfl rfl (by kernel_rfl) (by kernel_rfl) (by kernel_rfl) (by decide) (by decide)
theorem tp_11 : Sz Try.prog 3 1 false := Sz.mk' (by kernel_rfl) Try.underlying3 _ rfl
theorem tp_12 : Sz Try.prog 26 2 true := Sz.mk' (by kernel_rfl) Try.underlying26 _ rfl
theorem tp_13 : Bodied Try.prog 34 := Bodied.mk' (by kernel_rfl)
theorem tp_14 : Bodied Try.prog 35 := Bodied.mk' (by kernel_rfl)
theorem tp_15 : Sz Try.prog 28 3 true := Sz.mk' (by kernel_rfl) Try.underlying28 _ rfl
theorem tp_16 : Bodied Try.prog 8 := Bodied.mk' (by kernel_rfl)
theorem tp_17 : Bodied Try.prog 39 := Bodied.mk' (by kernel_rfl)
theorem tp_18 : Bodied Try.prog 40 := Bodied.mk' (by kernel_rfl)
theorem tp_19 : Bodied Try.prog 9 := Bodied.mk' (by kernel_rfl)
def tp_tb : Tb := [(38, ⟨1, false, [], [.d (.raw nilV)], 1⟩), (3, ⟨1, false, [], [.d (.raw (.int .i64 0))], 13⟩), (4, ⟨1, false, [], [.d (.raw (.bool false))], 3⟩), (24, ⟨1, false, [], [.d (nsl [])], 1⟩), (26, ⟨2, true, [(0, 1, false), (1, 1, false)], [.d (.raw (.bool false)), .d (nsl [])], 0⟩), (47, ⟨3, true, [(0, 1, false), (1, 2, true)], [.d (.raw (.int .i64 0)), .d (.raw (.bool false)), .d (nsl [])], 0⟩), (22, ⟨1, false, [], [.d (.raw nilV)], 1⟩), (28, ⟨3, true, [(0, 1, false), (1, 2, true)], [.d (.raw nilV), .d (.raw (.bool false)), .d (nsl [])], 0⟩)]
theorem tp_ok : TbOk Try.prog tp_tb := ⟨TyOk.slc Try.underlying38 (by kernel_rfl) ⟨(.slice none 0 0 : Value), [.slice none 0 0], by kernel_rfl, rfl, (fun _ _ => ⟨DR.raw _ rfl, trivial⟩)⟩,
  TyOk.int Try.underlying3 rfl (by kernel_rfl) ⟨(.int .i64 0 : Value), [.int .i64 0], by kernel_rfl, rfl, (fun _ _ => ⟨DR.raw _ rfl, trivial⟩)⟩,
  TyOk.bl Try.underlying4 (by kernel_rfl) ⟨(.bool false : Value), [.bool false], by kernel_rfl, rfl, (fun _ _ => ⟨DR.raw _ rfl, trivial⟩)⟩,
  TyOk.slc Try.underlying24 (by kernel_rfl) ⟨(.slice none 0 0 : Value), [.slice none 0 0], by kernel_rfl, rfl, (fun _ _ => ⟨DR.nil _ _ _ (fun _ => rfl) (Nat.zero_le _), trivial⟩)⟩,
  TyOk.st Try.underlying26 (by kernel_rfl) ⟨⟨by decide, Fd.mk' _ _ Try.underlying26 rfl rfl (Sz.mk' (by kernel_rfl) Try.underlying4 _ rfl)⟩, ⟨by decide, Fd.mk' _ _ Try.underlying26 rfl rfl (Sz.mk' (by kernel_rfl) Try.underlying24 _ rfl)⟩, trivial⟩ ⟨(Value.agg #[.bool false, .slice none 0 0]), [.bool false, .slice none 0 0], by kernel_rfl, rfl, (fun _ _ => ⟨DR.raw _ rfl, DR.nil _ _ _ (fun _ => rfl) (Nat.zero_le _), trivial⟩)⟩ ⟨_, Try.underlying26, ⟨⟨rfl, by kernel_rfl⟩, ⟨rfl, by kernel_rfl⟩, trivial⟩⟩,
  TyOk.st Try.underlying47 (by kernel_rfl) ⟨⟨by decide, Fd.mk' _ _ Try.underlying47 rfl rfl (Sz.mk' (by kernel_rfl) Try.underlying3 _ rfl)⟩, ⟨by decide, Fd.mk' _ _ Try.underlying47 rfl rfl (Sz.mk' (by kernel_rfl) Try.underlying26 _ rfl)⟩, trivial⟩ ⟨(Value.agg #[.int .i64 0, .bool false, .slice none 0 0]), [.int .i64 0, .bool false, .slice none 0 0], by kernel_rfl, rfl, (fun _ _ => ⟨DR.raw _ rfl, DR.raw _ rfl, DR.nil _ _ _ (fun _ => rfl) (Nat.zero_le _), trivial⟩)⟩ ⟨_, Try.underlying47, ⟨⟨rfl, by kernel_rfl⟩, ⟨rfl, by kernel_rfl⟩, trivial⟩⟩,
  TyOk.slc Try.underlying22 (by kernel_rfl) ⟨(.slice none 0 0 : Value), [.slice none 0 0], by kernel_rfl, rfl, (fun _ _ => ⟨DR.raw _ rfl, trivial⟩)⟩,
  TyOk.st Try.underlying28 (by kernel_rfl) ⟨⟨by decide, Fd.mk' _ _ Try.underlying28 rfl rfl (Sz.mk' (by kernel_rfl) Try.underlying22 _ rfl)⟩, ⟨by decide, Fd.mk' _ _ Try.underlying28 rfl rfl (Sz.mk' (by kernel_rfl) Try.underlying26 _ rfl)⟩, trivial⟩ ⟨(Value.agg #[.slice none 0 0, .bool false, .slice none 0 0]), [.slice none 0 0, .bool false, .slice none 0 0], by kernel_rfl, rfl, (fun _ _ => ⟨DR.raw _ rfl, DR.raw _ rfl, DR.nil _ _ _ (fun _ => rfl) (Nat.zero_le _), trivial⟩)⟩ ⟨_, Try.underlying28, ⟨⟨rfl, by kernel_rfl⟩, ⟨rfl, by kernel_rfl⟩, trivial⟩⟩,
  trivial⟩
set_option maxRecDepth 100000 in
theorem SIndex (xs : List Int) (v : Int) (hl : xs.length ≤ 1000000) : Fn Try.prog 50 [] [.t (.c (.d (.sl 1 (xs.map intD)))), vi .i64 v] (vi .i64 (idxI v xs 0)) [] := by
  refine Fn.body Try.func50 rfl 19 rfl fun w H B a h => ?_
  refine rSeq tp_ok 0 [] [(0, .t (.c (.d (.sl 1 (xs.map intD))))), (1, vi .i64 v), (4, vi .i64 0)] [] (by kernel_rfl) h ?_; clear h; intro a w h
  refine wp_seq ?_
  refine rSeq tp_ok 0 [(1, .len (c := (.d (.sl 1 (xs.map intD)))) (n := xs.length) (lenC_map _ _ _))] [(0, .t (.c (.d (.sl 1 (xs.map intD))))), (1, vi .i64 v), (4, vi .i64 0), (7, vi .i64 (xs.length : Int)), (8, vi .i64 0)] [] (by kernel_rfl) h ?_; clear h; intro a w h
  refine wp_block ?_
  refine loopS (ι := (Nat)) (fun (z_ : (Nat)) => match z_ with | j => j ≤ xs.length ∧ idxI v xs 0 = idxI v (xs.drop j) j)
      (fun (z_ : (Nat)) => match z_ with | j => [(0, .t (.c (.d (.sl 1 (xs.map intD))))), (1, vi .i64 v), (7, vi .i64 (xs.length : Int)), (8, vi .i64 (j : Int))])
      (fun (z_ : (Nat)) => match z_ with | j => [])
      (fun (z_ : (Nat)) => match z_ with | j => xs.length - j) 0 ?_ h (by kernel_rfl) (by kernel_rfl) ?_
  · exact ⟨Nat.zero_le _, rfl⟩
  · clear h; rintro j a w hI h
    change St _ (F.of [(0, .t (.c (.d (.sl 1 (xs.map intD))))), (1, vi .i64 v), (7, vi .i64 (xs.length : Int)), (8, vi .i64 (j : Int))] []) a w at h
    obtain ⟨hI1, hI2⟩ := hI
    refine rSeq tp_ok 0 [] [(0, .t (.c (.d (.sl 1 (xs.map intD))))), (1, vi .i64 v), (7, vi .i64 (xs.length : Int)), (8, vi .i64 (j : Int)), (9, vb (decide ((j : Int) < (xs.length : Int))))] [] (by kernel_rfl) h ?_; clear h; intro a w h
    refine wp_seq ?_
    refine condS (decide ((j : Int) < (xs.length : Int))) h rfl (fun hc => ?_) (fun hc => ?_)
    · have hc1 := hc; clear hc
      have hc1' := of_decide_eq_true hc1
      refine wp_skip ?_
      refine then_n ?_
      refine wp_seq ?_
      refine wp_block ?_
      refine rSeq tp_ok 0 [] [(0, .t (.c (.d (.sl 1 (xs.map intD))))), (1, vi .i64 v), (5, vi .i64 (j : Int)), (7, vi .i64 (xs.length : Int)), (8, vi .i64 (j : Int))] [] (by kernel_rfl) h ?_; clear h; intro a w h
      obtain ⟨x1, hx1⟩ : ∃ z_ : Int, xs[j]? = some z_ := ⟨_, List.getElem?_eq_getElem (by first | omega | (simp at *; omega))⟩
      refine rSeq tp_ok 0 [(3, .gen _ _ _ fun _ _ _ _ => Op.idxD (d := 14) (t := 12) (k := .i64) tp_0 (map_at hx1 (f := intD)) (OV.tmp 13 _))] [(0, .t (.c (.d (.sl 1 (xs.map intD))))), (1, vi .i64 v), (5, vi .i64 (j : Int)), (7, vi .i64 (xs.length : Int)), (8, vi .i64 (j : Int)), (16, vb (v == x1))] [] (by kernel_rfl) h ?_; clear h; intro a w h
      refine condS (v == x1) h rfl (fun hc => ?_) (fun hc => ?_)
      · have hc2 := hc; clear hc
        have hc2' := hc2; (try simp at hc2')
        refine rSeq tp_ok 0 [] [(0, .t (.c (.d (.sl 1 (xs.map intD))))), (1, vi .i64 v), (4, vi .i64 (j : Int)), (7, vi .i64 (xs.length : Int)), (8, vi .i64 (j : Int))] [] (by kernel_rfl) h ?_; clear h; intro a w h
        refine wp_ret ?_
        refine block_r ?_
        refine then_r ?_
        refine then_r ?_
        refine block_r ?_
        refine then_r ?_
        refine retS [.c (.d (.raw (.int .i64 (j : Int))))] h Exit.ret (.inl rfl)  rfl ⟨RV.tmp _ _ rfl, trivial⟩ ?_ (by kernel_rfl) (by kernel_rfl)
        have hz : idxI v xs 0 = (j : Int) := by rw [hI2, idxI_at hx1, if_pos (by simpa using hc2)]
        rw [hz]; first | done | rfl
      · have hc3 := hc; clear hc
        have hc3' := hc3; (try simp at hc3')
        refine wp_skip ?_
        refine block_n ?_
        refine then_n ?_
        refine rS tp_ok 0 [(0, .add .i64 (m := (j : Int)) (n := 1) (i64_id (by omega) (by omega)))] [(0, .t (.c (.d (.sl 1 (xs.map intD))))), (1, vi .i64 v), (7, vi .i64 (xs.length : Int)), (8, vi .i64 ((j : Int) + 1))] [] (by kernel_rfl) h ?_; clear h; intro a w h
        refine then_n ?_
        refine roundS (x := j) (y := j + 1) h ?_ ?_ (by kernel_rfl) (by kernel_rfl)
        · exact ⟨by have := at_lt hx1; omega, by rw [hI2, idxI_at hx1, if_neg (by simpa using hc3)]⟩
        · show xs.length - (j + 1) < xs.length - j
          have := at_lt hx1; omega
    · have hc4 := hc; clear hc
      have hc4' := of_decide_eq_false hc4
      refine wp_exit ?_
      refine then_x ?_
      refine then_x ?_
      refine inBlock_exit ?_
      refine then_n ?_
      refine rSeq tp_ok 0 [] [(4, vi .i64 (-1))] [] (by kernel_rfl) h ?_; clear h; intro a w h
      refine wp_ret ?_
      refine retS [.c (.d (.raw (.int .i64 (-1))))] h Exit.ret (.inl rfl)  rfl ⟨RV.tmp _ _ rfl, trivial⟩ ?_ (by kernel_rfl) (by kernel_rfl)
      have hz : idxI v xs 0 = -1 := by rw [hI2, List.drop_of_length_le (by omega)]; rfl
      rw [hz]; first | done | rfl
set_option maxRecDepth 100000 in
theorem SMove1 (p : Part) (n : Int) (hn : -2147483648 ≤ n ∧ n ≤ 2147483647) : Fn Try.prog 51 [(1, .box [.d (.raw (.int .i64 n))])] [.t (.agg ([.d (.raw (.int .i64 p.v))] ++ zi p.c)), vp 1 0] (vb (isFar n p)) [(1, .box [.d (.raw (.int .i64 n))])] := by
  refine Fn.body Try.func51 rfl 9 rfl fun w H B a h => ?_
  refine rSeq tp_ok 2 [] [(1, vp 1 0), (2, vp 2 0), (3, vb false)] [(1, .box [.d (.raw (.int .i64 n))]), (2, .box ([.d (.raw (.int .i64 p.v))] ++ zi p.c))] (by kernel_rfl) h ?_; clear h; intro a w h
  refine rSeq tp_ok 3 [(3, .sub .i64 (m := 2147483647) (n := n) (i64_id (by omega) (by omega)))] [(3, vb (decide (p.v > (2147483647 - n))))] [(1, .box [.d (.raw (.int .i64 n))])] (by kernel_rfl) h ?_; clear h; intro a w h
  refine wp_ret ?_
  refine retS [.c (.d (.raw (.bool (decide (p.v > (2147483647 - n))))))] h Exit.ret (.inl rfl)  rfl ⟨RV.tmp _ _ rfl, trivial⟩ ?_ (by kernel_rfl) (by kernel_rfl)
  rfl
set_option maxRecDepth 100000 in
theorem SIndexFM (pr : Part → Bool) (xs : List Part) (n : Int) (hf : ∀ p ∈ xs, Fn Try.prog 51 [(1, .box [.d (.raw (.int .i64 n))])] [vd p.d, vp 1 0] (vb (pr p)) [(1, .box [.d (.raw (.int .i64 n))])]) (hl : xs.length ≤ 1000000) : Fn Try.prog 58 [(0, .row 47 3 (xs.map Part.d)), (1, .box [.d (.raw (.int .i64 n))])] [.t (.c (.own 0 xs.length)), .t (.c (.fn (.func 51) [] [.ptr 1 0]))] (vi .i64 (idxF pr xs 0)) [(0, .row 47 3 (xs.map Part.d)), (1, .box [.d (.raw (.int .i64 n))])] := by
  refine Fn.body Try.func58 rfl 19 rfl fun w H B a h => ?_
  refine rSeq tp_ok 2 [] [(0, .t (.c (.own 0 xs.length))), (1, .t (.c (.fn (.func 51) [] [.ptr 1 0]))), (4, vi .i64 0)] [(0, .row 47 3 (xs.map Part.d)), (1, .box [.d (.raw (.int .i64 n))])] (by kernel_rfl) h ?_; clear h; intro a w h
  refine wp_seq ?_
  refine rSeq tp_ok 2 [] [(0, .t (.c (.own 0 xs.length))), (1, .t (.c (.fn (.func 51) [] [.ptr 1 0]))), (4, vi .i64 0), (7, vi .i64 (xs.length : Int)), (8, vi .i64 0)] [(0, .row 47 3 (xs.map Part.d)), (1, .box [.d (.raw (.int .i64 n))])] (by kernel_rfl) h ?_; clear h; intro a w h
  refine wp_block ?_
  refine loopS (ι := (Nat)) (fun (z_ : (Nat)) => match z_ with | j => j ≤ xs.length ∧ idxF pr xs 0 = idxF pr (xs.drop j) j)
      (fun (z_ : (Nat)) => match z_ with | j => [(0, .t (.c (.own 0 xs.length))), (1, .t (.c (.fn (.func 51) [] [.ptr 1 0]))), (7, vi .i64 (xs.length : Int)), (8, vi .i64 (j : Int))])
      (fun (z_ : (Nat)) => match z_ with | j => [(0, .row 47 3 (xs.map Part.d)), (1, .box [.d (.raw (.int .i64 n))])])
      (fun (z_ : (Nat)) => match z_ with | j => xs.length - j) 0 ?_ h (by kernel_rfl) (by kernel_rfl) ?_
  · exact ⟨Nat.zero_le _, rfl⟩
  · clear h; rintro j a w hI h
    change St _ (F.of [(0, .t (.c (.own 0 xs.length))), (1, .t (.c (.fn (.func 51) [] [.ptr 1 0]))), (7, vi .i64 (xs.length : Int)), (8, vi .i64 (j : Int))] [(0, .row 47 3 (xs.map Part.d)), (1, .box [.d (.raw (.int .i64 n))])]) a w at h
    obtain ⟨hI1, hI2⟩ := hI
    refine rSeq tp_ok 2 [] [(0, .t (.c (.own 0 xs.length))), (1, .t (.c (.fn (.func 51) [] [.ptr 1 0]))), (7, vi .i64 (xs.length : Int)), (8, vi .i64 (j : Int)), (9, vb (decide ((j : Int) < (xs.length : Int))))] [(0, .row 47 3 (xs.map Part.d)), (1, .box [.d (.raw (.int .i64 n))])] (by kernel_rfl) h ?_; clear h; intro a w h
    refine wp_seq ?_
    refine condS (decide ((j : Int) < (xs.length : Int))) h rfl (fun hc => ?_) (fun hc => ?_)
    · have hc1 := hc; clear hc
      have hc1' := of_decide_eq_true hc1
      refine wp_skip ?_
      refine then_n ?_
      refine wp_seq ?_
      refine wp_block ?_
      refine rSeq tp_ok 2 [] [(0, .t (.c (.own 0 xs.length))), (1, .t (.c (.fn (.func 51) [] [.ptr 1 0]))), (5, vi .i64 (j : Int)), (7, vi .i64 (xs.length : Int)), (8, vi .i64 (j : Int))] [(0, .row 47 3 (xs.map Part.d)), (1, .box [.d (.raw (.int .i64 n))])] (by kernel_rfl) h ?_; clear h; intro a w h
      obtain ⟨x1, hx1⟩ : ∃ z_ : Part, xs[j]? = some z_ := ⟨_, List.getElem?_eq_getElem (by first | omega | (simp at *; omega))⟩
      refine rSeq tp_ok 2 [(3, .gen _ _ _ fun _ _ _ _ => Op.idxO (d := 14) (t := 12) (k := .i64) (n := 0) (len := xs.length) (i := j) tp_1 (by first | omega | (simp at *; omega)) (OV.tmp 13 _)), (4, .gen _ _ _ fun _ _ _ _ => Op.loadR_agg (d := 15) (t := 14) (n := 0) (i := j) (fo := 0) (rty := 47) (es := 3) (xs := [.raw (.int .i64 x1.v), .raw (.bool x1.c.neg), nsl x1.c.abs]) tp_2 rfl (map_at hx1 (f := Part.d)) rfl rfl), (5, .gen _ _ _ fun _ _ _ _ => Op.callV (d := 16) (t := 11) (cap := [.ptr 1 0]) (args := [.t (.agg ([.d (.raw (.int .i64 x1.v))] ++ zi x1.c))]) (rs := [(15, .t (.agg ([.d (.raw (.int .i64 x1.v))] ++ zi x1.c)))]) (tys := #[47]) (hf x1 (List.mem_of_getElem? hx1)) tp_3 (OVs.cons (OV.tmp 15 _) (OVs.nil)))] [(0, .t (.c (.own 0 xs.length))), (1, .t (.c (.fn (.func 51) [] [.ptr 1 0]))), (5, vi .i64 (j : Int)), (7, vi .i64 (xs.length : Int)), (8, vi .i64 (j : Int)), (16, vb (pr x1))] [(0, .row 47 3 (xs.map Part.d)), (1, .box [.d (.raw (.int .i64 n))])] (by kernel_rfl) h ?_; clear h; intro a w h
      refine condS (pr x1) h rfl (fun hc => ?_) (fun hc => ?_)
      · have hc2 := hc; clear hc
        refine rSeq tp_ok 2 [] [(0, .t (.c (.own 0 xs.length))), (1, .t (.c (.fn (.func 51) [] [.ptr 1 0]))), (4, vi .i64 (j : Int)), (7, vi .i64 (xs.length : Int)), (8, vi .i64 (j : Int))] [(0, .row 47 3 (xs.map Part.d)), (1, .box [.d (.raw (.int .i64 n))])] (by kernel_rfl) h ?_; clear h; intro a w h
        refine wp_ret ?_
        refine block_r ?_
        refine then_r ?_
        refine then_r ?_
        refine block_r ?_
        refine then_r ?_
        refine retS [.c (.d (.raw (.int .i64 (j : Int))))] h Exit.ret (.inl rfl)  rfl ⟨RV.tmp _ _ rfl, trivial⟩ ?_ (by kernel_rfl) (by kernel_rfl)
        have hz : idxF pr xs 0 = (j : Int) := by rw [hI2, idxF_at hx1, if_pos hc2]
        rw [hz]; first | done | rfl
      · have hc3 := hc; clear hc
        refine wp_skip ?_
        refine block_n ?_
        refine then_n ?_
        refine rS tp_ok 2 [(0, .add .i64 (m := (j : Int)) (n := 1) (i64_id (by omega) (by omega)))] [(0, .t (.c (.own 0 xs.length))), (1, .t (.c (.fn (.func 51) [] [.ptr 1 0]))), (7, vi .i64 (xs.length : Int)), (8, vi .i64 ((j : Int) + 1))] [(0, .row 47 3 (xs.map Part.d)), (1, .box [.d (.raw (.int .i64 n))])] (by kernel_rfl) h ?_; clear h; intro a w h
        refine then_n ?_
        refine roundS (x := j) (y := j + 1) h ?_ ?_ (by kernel_rfl) (by kernel_rfl)
        · exact ⟨by have := at_lt hx1; omega, by rw [hI2, idxF_at hx1, if_neg (by rw [hc3]; exact Bool.noConfusion)]⟩
        · simp; omega
    · have hc4 := hc; clear hc
      have hc4' := of_decide_eq_false hc4
      refine wp_exit ?_
      refine then_x ?_
      refine then_x ?_
      refine inBlock_exit ?_
      refine then_n ?_
      refine rSeq tp_ok 2 [] [(4, vi .i64 (-1))] [(0, .row 47 3 (xs.map Part.d)), (1, .box [.d (.raw (.int .i64 n))])] (by kernel_rfl) h ?_; clear h; intro a w h
      refine wp_ret ?_
      refine retS [.c (.d (.raw (.int .i64 (-1))))] h Exit.ret (.inl rfl)  rfl ⟨RV.tmp _ _ rfl, trivial⟩ ?_ (by kernel_rfl) (by kernel_rfl)
      have hz : idxF pr xs 0 = -1 := by rw [hI2, List.drop_of_length_le (by omega)]; rfl
      rw [hz]; first | done | rfl
set_option maxRecDepth 100000 in
theorem SDeleteFM (pr : Part → Bool) (xs : List Part) (n : Int) (hf : ∀ p ∈ xs, Fn Try.prog 51 [(1, .box [.d (.raw (.int .i64 n))])] [vd p.d, vp 1 0] (vb (pr p)) [(1, .box [.d (.raw (.int .i64 n))])]) (hl : xs.length ≤ 1000000) : Fn Try.prog 35 [(0, .row 47 3 (xs.map Part.d)), (1, .box [.d (.raw (.int .i64 n))])] [.t (.c (.own 0 xs.length)), .t (.c (.fn (.func 51) [] [.ptr 1 0]))] (.t (.c (.own 0 (xs.filter (fun p => !pr p)).length))) [(0, .row 47 3 ((xs.filter (fun p => !pr p)).map Part.d)), (1, .box [.d (.raw (.int .i64 n))])] := by
  refine Fn.body Try.func35 rfl 42 rfl fun w H B a h => ?_
  refine rSeq tp_ok 2 [] [(0, .t (.c (.own 0 xs.length))), (1, .t (.c (.fn (.func 51) [] [.ptr 1 0]))), (4, .t (.c (.d (.raw nilV))))] [(0, .row 47 3 (xs.map Part.d)), (1, .box [.d (.raw (.int .i64 n))])] (by kernel_rfl) h ?_; clear h; intro a w h
  refine rSeq tp_ok 2 [(2, .call (SIndexFM pr xs n hf hl) tp_4)] [(0, .t (.c (.own 0 xs.length))), (1, .t (.c (.fn (.func 51) [] [.ptr 1 0]))), (4, .t (.c (.d (.raw nilV)))), (5, vi .i64 (idxF pr xs 0))] [(0, .row 47 3 (xs.map Part.d)), (1, .box [.d (.raw (.int .i64 n))])] (by kernel_rfl) h ?_; clear h; intro a w h
  refine wp_seq ?_
  rcases idxF_cases pr xs 0 with ⟨hz, hz2⟩ | ⟨k, x0, hz, hk, hk2, hk3⟩
  · rw [hz] at h
    refine rSeq tp_ok 2 [(1, .cmp (op := .eql) (m := (-1)) (n := (-1)) (b := true) .i64 rfl)] [(0, .t (.c (.own 0 xs.length))), (1, .t (.c (.fn (.func 51) [] [.ptr 1 0]))), (4, .t (.c (.d (.raw nilV)))), (5, vi .i64 (-1)), (12, vb true)] [(0, .row 47 3 (xs.map Part.d)), (1, .box [.d (.raw (.int .i64 n))])] (by kernel_rfl) h ?_; clear h; intro a w h
    refine condS true h rfl (fun hc => ?_) (fun hc => ?_)
    · clear hc
      refine rSeq tp_ok 2 [] [(0, .t (.c (.own 0 xs.length))), (1, .t (.c (.fn (.func 51) [] [.ptr 1 0]))), (4, .t (.c (.own 0 xs.length))), (5, vi .i64 (-1))] [(0, .row 47 3 (xs.map Part.d)), (1, .box [.d (.raw (.int .i64 n))])] (by kernel_rfl) h ?_; clear h; intro a w h
      refine wp_ret ?_
      refine then_r ?_
      replace h := h.conv (f' := F.of [(0, .t (.c (.own 0 xs.length))), (1, .t (.c (.fn (.func 51) [] [.ptr 1 0]))), (4, .t (.c (.own 0 (xs.filter (fun p => !pr p)).length))), (5, vi .i64 (-1))] [(0, .row 47 3 (xs.map Part.d)), (1, .box [.d (.raw (.int .i64 n))])]) (by rw [hz2])
      replace h := h.conv (f' := F.of [(0, .t (.c (.own 0 xs.length))), (1, .t (.c (.fn (.func 51) [] [.ptr 1 0]))), (4, .t (.c (.own 0 (xs.filter (fun p => !pr p)).length))), (5, vi .i64 (-1))] [(0, .row 47 3 ((xs.filter (fun p => !pr p)).map Part.d)), (1, .box [.d (.raw (.int .i64 n))])]) (congrArg (fun (z_ : List Part) => F.of [(0, .t (.c (.own 0 xs.length))), (1, .t (.c (.fn (.func 51) [] [.ptr 1 0]))), (4, .t (.c (.own 0 (xs.filter (fun p => !pr p)).length))), (5, vi .i64 (-1))] [(0, .row 47 3 (z_.map Part.d)), (1, .box [.d (.raw (.int .i64 n))])]) (show (xs : List Part) = (xs.filter (fun p => !pr p)) from hz2.symm))
      refine retS [.c (.own 0 (xs.filter (fun p => !pr p)).length)] h Exit.ret (.inl rfl)  rfl ⟨RV.tmp _ _ rfl, trivial⟩ ?_ (by kernel_rfl) (by kernel_rfl)
      rfl
    · cases hc
  · rw [Nat.zero_add] at hz
    have hkl := at_lt hk
    have hf2 : ((xs.take (k + 1)).filter (fun p => !pr p)) = xs.take k := by rw [List.take_add_one, hk]; simp [List.filter_append, hk2, hk3]
    have hf3 : ((xs.take (k + 1)).filter (fun p => !pr p)).length = k := by rw [hf2, List.length_take]; omega
    rw [hz] at h
    refine rSeq tp_ok 2 [(1, .cmp (op := .eql) (m := (k : Int)) (n := (-1)) (b := false) .i64 (beq_eq_false_iff_ne.2 (by omega)))] [(0, .t (.c (.own 0 xs.length))), (1, .t (.c (.fn (.func 51) [] [.ptr 1 0]))), (4, .t (.c (.d (.raw nilV)))), (5, vi .i64 (k : Int)), (12, vb false)] [(0, .row 47 3 (xs.map Part.d)), (1, .box [.d (.raw (.int .i64 n))])] (by kernel_rfl) h ?_; clear h; intro a w h
    refine condS false h rfl (fun hc => ?_) (fun hc => ?_)
    · cases hc
    · clear hc
      refine wp_skip ?_
      refine then_n ?_
      refine wp_seq ?_
      refine rSeq tp_ok 2 [(1, .gen _ _ _ fun _ _ _ _ => Op.arith (op := .add) (d := 15) (xt := 3) (yt := 3) (k := .i64) (m := (k : Int)) (n := 1) (r := ((k + 1 : Nat) : Int)) (OV.tmp 14 _) (OV.const (.int .i64 1) rfl) (.inl ⟨rfl, (by omega)⟩) (i64_id (by omega) (by omega)))] [(0, .t (.c (.own 0 xs.length))), (1, .t (.c (.fn (.func 51) [] [.ptr 1 0]))), (4, .t (.c (.d (.raw nilV)))), (5, vi .i64 (k : Int)), (6, vi .i64 ((k + 1 : Nat) : Int))] [(0, .row 47 3 (xs.map Part.d)), (1, .box [.d (.raw (.int .i64 n))])] (by kernel_rfl) h ?_; clear h; intro a w h
      refine wp_block ?_
      replace h := h.conv (f' := F.of [(0, .t (.c (.own 0 xs.length))), (1, .t (.c (.fn (.func 51) [] [.ptr 1 0]))), (4, .t (.c (.d (.raw nilV)))), (5, vi .i64 (((xs.take (k + 1)).filter (fun p => !pr p)).length : Int)), (6, vi .i64 ((k + 1 : Nat) : Int))] [(0, .row 47 3 (xs.map Part.d)), (1, .box [.d (.raw (.int .i64 n))])]) (by rw [hf3])
      replace h := h.conv (f' := F.of [(0, .t (.c (.own 0 xs.length))), (1, .t (.c (.fn (.func 51) [] [.ptr 1 0]))), (4, .t (.c (.d (.raw nilV)))), (5, vi .i64 (((xs.take (k + 1)).filter (fun p => !pr p)).length : Int)), (6, vi .i64 ((k + 1 : Nat) : Int))] [(0, .row 47 3 ((((xs.take (k + 1)).filter (fun p => !pr p)) ++ [x0] ++ xs.drop (k + 1)).map Part.d)), (1, .box [.d (.raw (.int .i64 n))])]) (congrArg (fun (z_ : List Part) => F.of [(0, .t (.c (.own 0 xs.length))), (1, .t (.c (.fn (.func 51) [] [.ptr 1 0]))), (4, .t (.c (.d (.raw nilV)))), (5, vi .i64 (((xs.take (k + 1)).filter (fun p => !pr p)).length : Int)), (6, vi .i64 ((k + 1 : Nat) : Int))] [(0, .row 47 3 (z_.map Part.d)), (1, .box [.d (.raw (.int .i64 n))])]) (show (xs : List Part) = (((xs.take (k + 1)).filter (fun p => !pr p)) ++ [x0] ++ xs.drop (k + 1)) from by rw [hf2]; obtain ⟨g1, g2⟩ := List.getElem?_eq_some_iff.1 hk; subst g2; simp))
      refine loopS (ι := (Nat) × (List Part)) (fun (z_ : (Nat) × (List Part)) => match z_ with | (j, G) => j ≤ xs.length ∧ ((xs.take j).filter (fun p => !pr p)).length + G.length = j ∧ 0 < G.length)
          (fun (z_ : (Nat) × (List Part)) => match z_ with | (j, G) => [(0, .t (.c (.own 0 xs.length))), (1, .t (.c (.fn (.func 51) [] [.ptr 1 0]))), (4, .t (.c (.d (.raw nilV)))), (5, vi .i64 (((xs.take j).filter (fun p => !pr p)).length : Int)), (6, vi .i64 (j : Int))])
          (fun (z_ : (Nat) × (List Part)) => match z_ with | (j, G) => [(0, .row 47 3 ((((xs.take j).filter (fun p => !pr p)) ++ G ++ xs.drop j).map Part.d)), (1, .box [.d (.raw (.int .i64 n))])])
          (fun (z_ : (Nat) × (List Part)) => match z_ with | (j, G) => xs.length - j) ((k + 1), [x0]) ?_ h (by kernel_rfl) (by kernel_rfl) ?_
      · exact ⟨by omega, by rw [hf3]; rfl, Nat.one_pos⟩
      · clear h; rintro ⟨j, G⟩ a w hI h
        change St _ (F.of [(0, .t (.c (.own 0 xs.length))), (1, .t (.c (.fn (.func 51) [] [.ptr 1 0]))), (4, .t (.c (.d (.raw nilV)))), (5, vi .i64 (((xs.take j).filter (fun p => !pr p)).length : Int)), (6, vi .i64 (j : Int))] [(0, .row 47 3 ((((xs.take j).filter (fun p => !pr p)) ++ G ++ xs.drop j).map Part.d)), (1, .box [.d (.raw (.int .i64 n))])]) a w at h
        obtain ⟨hI1, hI2, hI3⟩ := hI
        have hrl : (((xs.take j).filter (fun p => !pr p)) ++ G ++ xs.drop j).length = xs.length := by simp only [List.length_append, List.length_drop]; omega
        refine wp_seq ?_
        refine rSeq tp_ok 2 [] [(0, .t (.c (.own 0 xs.length))), (1, .t (.c (.fn (.func 51) [] [.ptr 1 0]))), (4, .t (.c (.d (.raw nilV)))), (5, vi .i64 (((xs.take j).filter (fun p => !pr p)).length : Int)), (6, vi .i64 (j : Int)), (19, vb (decide ((j : Int) < (xs.length : Int))))] [(0, .row 47 3 ((((xs.take j).filter (fun p => !pr p)) ++ G ++ xs.drop j).map Part.d)), (1, .box [.d (.raw (.int .i64 n))])] (by kernel_rfl) h ?_; clear h; intro a w h
        refine condS (decide ((j : Int) < (xs.length : Int))) h rfl (fun hc => ?_) (fun hc => ?_)
        · have hc1 := hc; clear hc
          have hc1' := of_decide_eq_true hc1
          refine wp_skip ?_
          refine then_n ?_
          refine wp_seq ?_
          refine wp_block ?_
          obtain ⟨x, hx⟩ : ∃ z_ : Part, xs[j]? = some z_ := ⟨_, List.getElem?_eq_getElem (by omega)⟩
          refine rSeq tp_ok 2 [(2, .gen _ _ _ fun _ _ _ _ => Op.idxO (d := 24) (t := 22) (k := .i64) (n := 0) (len := xs.length) (i := j) tp_1 (by first | omega | (simp at *; omega)) (OV.tmp 23 _)), (3, .gen _ _ _ fun _ _ _ _ => Op.loadR_agg (d := 25) (t := 24) (n := 0) (i := j) (fo := 0) (rty := 47) (es := 3) (xs := [.raw (.int .i64 x.v), .raw (.bool x.c.neg), nsl x.c.abs]) tp_2 rfl (map_at (show ((((xs.take j).filter (fun p => !pr p)) ++ G ++ xs.drop j) : List Part)[j]? = some x from del_at (pr := pr) hI2 hx) (f := Part.d)) rfl rfl)] [(0, .t (.c (.own 0 xs.length))), (1, .t (.c (.fn (.func 51) [] [.ptr 1 0]))), (4, .t (.c (.d (.raw nilV)))), (5, vi .i64 (((xs.take j).filter (fun p => !pr p)).length : Int)), (6, vi .i64 (j : Int)), (7, vp 2 0)] [(0, .row 47 3 ((((xs.take j).filter (fun p => !pr p)) ++ G ++ xs.drop j).map Part.d)), (1, .box [.d (.raw (.int .i64 n))]), (2, .box ([.d (.raw (.int .i64 x.v))] ++ zi x.c))] (by kernel_rfl) h ?_; clear h; intro a w h
          refine rSeq tp_ok 3 [(2, .gen _ _ _ fun _ _ _ _ => Op.callV (d := 28) (t := 26) (cap := [.ptr 1 0]) (args := [.t (.agg ([.d (.raw (.int .i64 x.v))] ++ zi x.c))]) (rs := [(27, .t (.agg ([.d (.raw (.int .i64 x.v))] ++ zi x.c)))]) (tys := #[47]) (hf x (List.mem_of_getElem? hx)) tp_3 (OVs.cons (OV.tmp 27 _) (OVs.nil)))] [(0, .t (.c (.own 0 xs.length))), (1, .t (.c (.fn (.func 51) [] [.ptr 1 0]))), (4, .t (.c (.d (.raw nilV)))), (5, vi .i64 (((xs.take j).filter (fun p => !pr p)).length : Int)), (6, vi .i64 (j : Int)), (7, vp 2 0), (29, vb (!(pr x)))] [(0, .row 47 3 ((((xs.take j).filter (fun p => !pr p)) ++ G ++ xs.drop j).map Part.d)), (1, .box [.d (.raw (.int .i64 n))]), (2, .box ([.d (.raw (.int .i64 x.v))] ++ zi x.c))] (by kernel_rfl) h ?_; clear h; intro a w h
          refine condS (!(pr x)) h rfl (fun hc => ?_) (fun hc => ?_)
          · have hc2 := hc; clear hc
            have hc2' := hc2; (try simp at hc2')
            obtain ⟨x3, hx3⟩ : ∃ z_ : Part, (((xs.take j).filter (fun p => !pr p)) ++ G ++ xs.drop j)[((xs.take j).filter (fun p => !pr p)).length]? = some z_ := ⟨_, List.getElem?_eq_getElem (by first | omega | (simp at *; omega))⟩
            refine rSeq tp_ok 3 [(3, .gen _ _ _ fun _ _ _ _ => Op.idxO (d := 33) (t := 30) (k := .i64) (n := 0) (len := xs.length) (i := ((xs.take j).filter (fun p => !pr p)).length) tp_1 (by first | omega | (simp at *; omega)) (OV.tmp 31 _)), (4, .gen _ _ _ fun _ _ _ _ => Op.storeR (t := 33) (n := 0) (i := ((xs.take j).filter (fun p => !pr p)).length) (fo := 0) (rty := 47) (es := 3) (r := Part.d x3) (ds := [.raw (.int .i64 x.v), .raw (.bool x.c.neg), nsl x.c.abs]) (rs := [(32, .t (.agg ([.d (.raw (.int .i64 x.v))] ++ zi x.c)))]) (rows := (((xs.take j).filter (fun p => !pr p)) ++ G ++ xs.drop j).map Part.d) (rows' := ((((xs.take j).filter (fun p => !pr p)) ++ G ++ xs.drop j).set ((xs.take j).filter (fun p => !pr p)).length x).map Part.d) tp_2 (OV.tmp 32 _) rfl rfl rfl (map_at hx3 (f := Part.d)) (by simp [Part.d]) (set_map (xs := (((xs.take j).filter (fun p => !pr p)) ++ G ++ xs.drop j)) (F := Part.d) ((xs.take j).filter (fun p => !pr p)).length _ _ rfl))] [(0, .t (.c (.own 0 xs.length))), (1, .t (.c (.fn (.func 51) [] [.ptr 1 0]))), (4, .t (.c (.d (.raw nilV)))), (5, vi .i64 (((xs.take j).filter (fun p => !pr p)).length : Int)), (6, vi .i64 (j : Int))] [(0, .row 47 3 (((((xs.take j).filter (fun p => !pr p)) ++ G ++ xs.drop j).set ((xs.take j).filter (fun p => !pr p)).length x).map Part.d)), (1, .box [.d (.raw (.int .i64 n))])] (by kernel_rfl) h ?_; clear h; intro a w h
            refine rS tp_ok 3 [(1, .gen _ _ _ fun _ _ _ _ => Op.arith (op := .add) (d := 35) (xt := 3) (yt := 3) (k := .i64) (m := (((xs.take j).filter (fun p => !pr p)).length : Int)) (n := 1) (r := ((((xs.take j).filter (fun p => !pr p)).length + 1 : Nat) : Int)) (OV.tmp 34 _) (OV.const (.int .i64 1) rfl) (.inl ⟨rfl, (by omega)⟩) (i64_id (by omega) (by omega)))] [(0, .t (.c (.own 0 xs.length))), (1, .t (.c (.fn (.func 51) [] [.ptr 1 0]))), (4, .t (.c (.d (.raw nilV)))), (5, vi .i64 ((((xs.take j).filter (fun p => !pr p)).length + 1 : Nat) : Int)), (6, vi .i64 (j : Int))] [(0, .row 47 3 (((((xs.take j).filter (fun p => !pr p)) ++ G ++ xs.drop j).set ((xs.take j).filter (fun p => !pr p)).length x).map Part.d)), (1, .box [.d (.raw (.int .i64 n))])] (by kernel_rfl) h ?_; clear h; intro a w h
            refine block_n ?_
            refine then_n ?_
            refine rS tp_ok 3 [(1, .add .i64 (m := (j : Int)) (n := 1) (i64_id (by omega) (by omega)))] [(0, .t (.c (.own 0 xs.length))), (1, .t (.c (.fn (.func 51) [] [.ptr 1 0]))), (4, .t (.c (.d (.raw nilV)))), (5, vi .i64 ((((xs.take j).filter (fun p => !pr p)).length + 1 : Nat) : Int)), (6, vi .i64 ((j : Int) + 1))] [(0, .row 47 3 (((((xs.take j).filter (fun p => !pr p)) ++ G ++ xs.drop j).set ((xs.take j).filter (fun p => !pr p)).length x).map Part.d)), (1, .box [.d (.raw (.int .i64 n))])] (by kernel_rfl) h ?_; clear h; intro a w h
            refine then_n ?_
            have hp : pr x = false := (by simpa using hc2)
            replace h := h.conv (f' := F.of [(0, .t (.c (.own 0 xs.length))), (1, .t (.c (.fn (.func 51) [] [.ptr 1 0]))), (4, .t (.c (.d (.raw nilV)))), (5, vi .i64 (((xs.take (j + 1)).filter (fun p => !pr p)).length : Int)), (6, vi .i64 ((j : Int) + 1))] [(0, .row 47 3 (((((xs.take j).filter (fun p => !pr p)) ++ G ++ xs.drop j).set ((xs.take j).filter (fun p => !pr p)).length x).map Part.d)), (1, .box [.d (.raw (.int .i64 n))])]) (by rw [← filt_len hx hp])
            replace h := h.conv (f' := F.of [(0, .t (.c (.own 0 xs.length))), (1, .t (.c (.fn (.func 51) [] [.ptr 1 0]))), (4, .t (.c (.d (.raw nilV)))), (5, vi .i64 (((xs.take (j + 1)).filter (fun p => !pr p)).length : Int)), (6, vi .i64 ((j : Int) + 1))] [(0, .row 47 3 ((((xs.take (j + 1)).filter (fun p => !pr p)) ++ (G.tail ++ [x]) ++ xs.drop (j + 1)).map Part.d)), (1, .box [.d (.raw (.int .i64 n))])]) (congrArg (fun (z_ : List Part) => F.of [(0, .t (.c (.own 0 xs.length))), (1, .t (.c (.fn (.func 51) [] [.ptr 1 0]))), (4, .t (.c (.d (.raw nilV)))), (5, vi .i64 (((xs.take (j + 1)).filter (fun p => !pr p)).length : Int)), (6, vi .i64 ((j : Int) + 1))] [(0, .row 47 3 (z_.map Part.d)), (1, .box [.d (.raw (.int .i64 n))])]) (show (((((xs.take j).filter (fun p => !pr p)) ++ G ++ xs.drop j).set ((xs.take j).filter (fun p => !pr p)).length x) : List Part) = (((xs.take (j + 1)).filter (fun p => !pr p)) ++ (G.tail ++ [x]) ++ xs.drop (j + 1)) from del_keep hx hp hI3))
            refine roundS (x := (j, G)) (y := ((j + 1), (G.tail ++ [x]))) h ?_ ?_ (by kernel_rfl) (by kernel_rfl)
            · exact ⟨by have := at_lt hx; omega, by rw [← filt_len hx hp, List.length_append, List.length_tail]; simp only [List.length_cons, List.length_nil]; omega, by rw [List.length_append]; simp only [List.length_cons, List.length_nil]; omega⟩
            · show xs.length - (j + 1) < xs.length - j
              have := at_lt hx; omega
          · have hc3 := hc; clear hc
            have hc3' := hc3; (try simp at hc3')
            refine wp_skip ?_
            refine block_n ?_
            refine then_n ?_
            refine rS tp_ok 3 [(1, .add .i64 (m := (j : Int)) (n := 1) (i64_id (by omega) (by omega)))] [(0, .t (.c (.own 0 xs.length))), (1, .t (.c (.fn (.func 51) [] [.ptr 1 0]))), (4, .t (.c (.d (.raw nilV)))), (5, vi .i64 (((xs.take j).filter (fun p => !pr p)).length : Int)), (6, vi .i64 ((j : Int) + 1))] [(0, .row 47 3 ((((xs.take j).filter (fun p => !pr p)) ++ G ++ xs.drop j).map Part.d)), (1, .box [.d (.raw (.int .i64 n))])] (by kernel_rfl) h ?_; clear h; intro a w h
            refine then_n ?_
            have hp : pr x = true := (by simpa using hc3)
            replace h := h.conv (f' := F.of [(0, .t (.c (.own 0 xs.length))), (1, .t (.c (.fn (.func 51) [] [.ptr 1 0]))), (4, .t (.c (.d (.raw nilV)))), (5, vi .i64 (((xs.take (j + 1)).filter (fun p => !pr p)).length : Int)), (6, vi .i64 ((j : Int) + 1))] [(0, .row 47 3 ((((xs.take j).filter (fun p => !pr p)) ++ G ++ xs.drop j).map Part.d)), (1, .box [.d (.raw (.int .i64 n))])]) (by rw [← filt_len0 hx hp])
            replace h := h.conv (f' := F.of [(0, .t (.c (.own 0 xs.length))), (1, .t (.c (.fn (.func 51) [] [.ptr 1 0]))), (4, .t (.c (.d (.raw nilV)))), (5, vi .i64 (((xs.take (j + 1)).filter (fun p => !pr p)).length : Int)), (6, vi .i64 ((j : Int) + 1))] [(0, .row 47 3 ((((xs.take (j + 1)).filter (fun p => !pr p)) ++ (G ++ [x]) ++ xs.drop (j + 1)).map Part.d)), (1, .box [.d (.raw (.int .i64 n))])]) (congrArg (fun (z_ : List Part) => F.of [(0, .t (.c (.own 0 xs.length))), (1, .t (.c (.fn (.func 51) [] [.ptr 1 0]))), (4, .t (.c (.d (.raw nilV)))), (5, vi .i64 (((xs.take (j + 1)).filter (fun p => !pr p)).length : Int)), (6, vi .i64 ((j : Int) + 1))] [(0, .row 47 3 (z_.map Part.d)), (1, .box [.d (.raw (.int .i64 n))])]) (show ((((xs.take j).filter (fun p => !pr p)) ++ G ++ xs.drop j) : List Part) = (((xs.take (j + 1)).filter (fun p => !pr p)) ++ (G ++ [x]) ++ xs.drop (j + 1)) from del_skip hx hp))
            refine roundS (x := (j, G)) (y := ((j + 1), (G ++ [x]))) h ?_ ?_ (by kernel_rfl) (by kernel_rfl)
            · exact ⟨by have := at_lt hx; omega, by rw [← filt_len0 hx hp, List.length_append]; simp only [List.length_cons, List.length_nil]; omega, by rw [List.length_append]; simp only [List.length_cons, List.length_nil]; omega⟩
            · show xs.length - (j + 1) < xs.length - j
              have := at_lt hx; omega
        · have hc4 := hc; clear hc
          have hc4' := of_decide_eq_false hc4
          refine wp_exit ?_
          refine then_x ?_
          refine then_x ?_
          refine inBlock_exit ?_
          refine then_n ?_
          have hj : j = xs.length := by omega
          have hF : ((xs.take j).filter (fun p => !pr p)) = (xs.filter (fun p => !pr p)) := by rw [hj, List.take_length]
          refine rSeq tp_ok 3 [(2, .gen _ _ _ fun _ _ _ _ => Op.sliceLo (d := 38) (t := 36) (k := .i64) (n := 0) (len := xs.length) (l := ((xs.take j).filter (fun p => !pr p)).length) (rows := (((xs.take j).filter (fun p => !pr p)) ++ G ++ xs.drop j).map Part.d) (rty := 47) tp_1 (by first | omega | (simp only [List.length_map, List.length_append, List.length_drop]; omega)) (OV.tmp 37 _) (by first | omega | (simp at *; omega)) rfl), (3, .gen _ _ _ fun _ _ _ _ => Op.clearCut' (rows' := ((xs.take j).filter (fun p => !pr p)).map Part.d) (o := none) (t := 38) (n := 0) (off := ((xs.take j).filter (fun p => !pr p)).length * 3) (len := (xs.length - ((xs.take j).filter (fun p => !pr p)).length)) (l := ((xs.take j).filter (fun p => !pr p)).length) (es := 3) (rows := (((xs.take j).filter (fun p => !pr p)) ++ G ++ xs.drop j).map Part.d) (rty := 47) (zs := [.d (.raw (.int .i64 0)), .d (.raw (.bool false)), .d (nsl [])]) tp_1.hu tp_5 rfl rfl (by first | omega | (simp only [List.length_map, List.length_append, List.length_drop]; omega)) _ rfl (by simp [List.map_append, List.take_append]))] [(0, .t (.c (.own 0 xs.length))), (4, .t (.c (.d (.raw nilV)))), (5, vi .i64 (((xs.take j).filter (fun p => !pr p)).length : Int))] [(0, .row 47 3 (((xs.take j).filter (fun p => !pr p)).map Part.d)), (1, .box [.d (.raw (.int .i64 n))])] (by kernel_rfl) h ?_; clear h; intro a w h
          refine rSeq tp_ok 3 [(2, .gen _ _ _ fun _ _ _ _ => Op.sliceHi (d := 41) (t := 39) (k := .i64) (n := 0) (len := xs.length) (h := ((xs.take j).filter (fun p => !pr p)).length) (rows := ((xs.take j).filter (fun p => !pr p)).map Part.d) (rty := 47) tp_1 (by first | omega | (simp only [List.length_map, List.length_append, List.length_drop]; omega)) (OV.tmp 40 _))] [(4, .t (.c (.own 0 ((xs.take j).filter (fun p => !pr p)).length)))] [(0, .row 47 3 (((xs.take j).filter (fun p => !pr p)).map Part.d)), (1, .box [.d (.raw (.int .i64 n))])] (by kernel_rfl) h ?_; clear h; intro a w h
          refine wp_ret ?_
          replace h := h.conv (f' := F.of [(4, .t (.c (.own 0 (xs.filter (fun p => !pr p)).length)))] [(0, .row 47 3 (((xs.take j).filter (fun p => !pr p)).map Part.d)), (1, .box [.d (.raw (.int .i64 n))])]) (by rw [hF])
          replace h := h.conv (f' := F.of [(4, .t (.c (.own 0 (xs.filter (fun p => !pr p)).length)))] [(0, .row 47 3 ((xs.filter (fun p => !pr p)).map Part.d)), (1, .box [.d (.raw (.int .i64 n))])]) (congrArg (fun (z_ : List Part) => F.of [(4, .t (.c (.own 0 (xs.filter (fun p => !pr p)).length)))] [(0, .row 47 3 (z_.map Part.d)), (1, .box [.d (.raw (.int .i64 n))])]) (show (((xs.take j).filter (fun p => !pr p)) : List Part) = (xs.filter (fun p => !pr p)) from hF))
          refine retS [.c (.own 0 (xs.filter (fun p => !pr p)).length)] h Exit.ret (.inl rfl)  rfl ⟨RV.tmp _ _ rfl, trivial⟩ ?_ (by kernel_rfl) (by kernel_rfl)
          rfl
set_option maxRecDepth 100000 in
theorem SPlainO0 (t : Term) (ht : PsOk 40000 t.parts) (hk : Lb t.k.abs) (lk : t.k.abs.length ≤ 40000) : Fn Try.prog 8 [] [.t (.agg ([.d (.sl 3 (t.parts.map Part.d))] ++ zi t.k))] (.t (.agg ([.own 0 (plainT t).parts.length] ++ zi (plainT t).k))) [(0, .row 47 3 ((plainT t).parts.map Part.d))] := by
  have ln := ht.1
  refine Fn.body Try.func8 rfl 74 rfl fun w H B a h => ?_
  refine rSeq tp_ok 5 [] [(1, vp 5 0), (2, vp 6 0)] [(5, .box ([.d (.sl 3 (t.parts.map Part.d))] ++ zi t.k)), (6, .box [.d (.raw nilV), .d (.raw (.bool false)), .d (nsl [])])] (by kernel_rfl) h ?_; clear h; intro a w h
  refine rSeq tp_ok 7 [(2, .call (SClone t.parts (by omega)) tp_6)] [(1, vp 5 0), (2, vp 6 0), (3, .t (.c (.own 0 t.parts.length)))] [(5, .box ([.d (.sl 3 (t.parts.map Part.d))] ++ zi t.k)), (6, .box [.d (.raw nilV), .d (.raw (.bool false)), .d (nsl [])]), (0, .row 47 3 (t.parts.map Part.d))] (by kernel_rfl) h ?_; clear h; intro a w h
  refine rSeq tp_ok 7 [(1, .call (SSortStable t.parts (by omega)) tp_7)] [(1, vp 5 0), (2, vp 6 0), (3, .t (.c (.own 0 t.parts.length)))] [(5, .box ([.d (.sl 3 (t.parts.map Part.d))] ++ zi t.k)), (6, .box [.d (.raw nilV), .d (.raw (.bool false)), .d (nsl [])]), (0, .row 47 3 ((ssV Part.v t.parts).map Part.d))] (by kernel_rfl) h ?_; clear h; intro a w h
  obtain ⟨r3, er3, vr3, or3, lr3⟩ := mkZ (v := t.k.val) (m := t.k.abs.length) (len_id hk)
  refine rSeq tp_ok 7 [(2, .call (Fn.cast (Scopied t.k hk (by omega)) (congrArg vz er3.symm)) tp_8)] [(2, vp 6 0), (3, .t (.c (.own 0 t.parts.length))), (4, vp 7 0)] [(6, .box [.d (.raw nilV), .d (.raw (.bool false)), .d (nsl [])]), (0, .row 47 3 ((ssV Part.v t.parts).map Part.d)), (7, .box ([.d (.raw nilV)] ++ zi r3))] (by kernel_rfl) h ?_; clear h; intro a w h
  refine wp_seq ?_
  replace h := nilOLs 7 0 8 3 47 ([.d (.raw nilV)] ++ zi r3) [(2, vp 6 0), (3, .t (.c (.own 0 t.parts.length))), (4, vp 7 0)] [(6, .box [.d (.raw nilV), .d (.raw (.bool false)), .d (nsl [])]), (0, .row 47 3 ((ssV Part.v t.parts).map Part.d)), (7, .box ([.own 8 0] ++ zi r3)), (8, .row 47 3 ([].map Part.d))] h (by kernel_rfl) rfl rfl (by kernel_rfl) (by kernel_rfl)
  refine rSeq tp_ok 9 [] [(2, vp 6 0), (4, vp 7 0), (17, .t (.c (.own 0 t.parts.length))), (18, vi .i64 (t.parts.length : Int)), (19, vi .i64 0)] [(6, .box [.d (.raw nilV), .d (.raw (.bool false)), .d (nsl [])]), (0, .row 47 3 ((ssV Part.v t.parts).map Part.d)), (7, .box ([.own 8 0] ++ zi r3)), (8, .row 47 3 ([].map Part.d))] (by kernel_rfl) h ?_; clear h; intro a w h
  refine wp_block ?_
  refine loopS (ι := (Nat) × (List Part)) (fun (z_ : (Nat) × (List Part)) => match z_ with | (j, out) => out = (mrgZ ((ssV Part.v t.parts).take j)) ∧ j ≤ (ssV Part.v t.parts).length ∧ out.length ≤ j ∧ MOk 40000 j out)
      (fun (z_ : (Nat) × (List Part)) => match z_ with | (j, out) => [(2, vp 6 0), (4, vp 7 0), (17, .t (.c (.own 0 t.parts.length))), (18, vi .i64 (t.parts.length : Int)), (19, vi .i64 (j : Int))])
      (fun (z_ : (Nat) × (List Part)) => match z_ with | (j, out) => [(6, .box [.d (.raw nilV), .d (.raw (.bool false)), .d (nsl [])]), (0, .row 47 3 ((ssV Part.v t.parts).map Part.d)), (7, .box ([.own 8 out.length] ++ zi r3)), (8, .row 47 3 (out.map Part.d))])
      (fun (z_ : (Nat) × (List Part)) => match z_ with | (j, out) => (ssV Part.v t.parts).length - j) (0, []) ?_ h (by kernel_rfl) (by kernel_rfl) ?_
  · exact ⟨by simp [mrgZ], Nat.zero_le _, Nat.zero_le _, fun q hq => (by cases hq)⟩
  · clear h; rintro ⟨j, out⟩ a w hI h
    change St _ (F.of [(2, vp 6 0), (4, vp 7 0), (17, .t (.c (.own 0 t.parts.length))), (18, vi .i64 (t.parts.length : Int)), (19, vi .i64 (j : Int))] [(6, .box [.d (.raw nilV), .d (.raw (.bool false)), .d (nsl [])]), (0, .row 47 3 ((ssV Part.v t.parts).map Part.d)), (7, .box ([.own 8 out.length] ++ zi r3)), (8, .row 47 3 (out.map Part.d))]) a w at h
    obtain ⟨hI1, hI2, hI3, hI4⟩ := hI
    have ln := ht.1
    have ls : (ssV Part.v t.parts).length = t.parts.length := ssV_len _
    refine rSeq tp_ok 9 [] [(2, vp 6 0), (4, vp 7 0), (17, .t (.c (.own 0 t.parts.length))), (18, vi .i64 (t.parts.length : Int)), (19, vi .i64 (j : Int)), (20, vb (decide ((j : Int) < (t.parts.length : Int))))] [(6, .box [.d (.raw nilV), .d (.raw (.bool false)), .d (nsl [])]), (0, .row 47 3 ((ssV Part.v t.parts).map Part.d)), (7, .box ([.own 8 out.length] ++ zi r3)), (8, .row 47 3 (out.map Part.d))] (by kernel_rfl) h ?_; clear h; intro a w h
    refine wp_seq ?_
    refine condS (decide ((j : Int) < (t.parts.length : Int))) h rfl (fun hc => ?_) (fun hc => ?_)
    · have hc1 := hc; clear hc
      have hc1' := of_decide_eq_true hc1
      refine wp_skip ?_
      refine then_n ?_
      refine wp_seq ?_
      refine wp_block ?_
      obtain ⟨x4, hx4⟩ : ∃ z_ : Part, (ssV Part.v t.parts)[j]? = some z_ := ⟨_, List.getElem?_eq_getElem (by first | omega | (simp at *; omega))⟩
      obtain ⟨ox4, lx4⟩ := ht.get_mem (ssV_mem (List.mem_of_getElem? hx4))
      refine rSeq tp_ok 9 [(0, .gen _ _ _ fun _ _ _ _ => Op.idxO (d := 21) (t := 17) (k := .i64) (n := 0) (len := t.parts.length) (i := j) tp_1 (by first | omega | (simp at *; omega)) (OV.tmp 19 _)), (1, .gen _ _ _ fun _ _ _ _ => Op.loadR_agg (d := 22) (t := 21) (n := 0) (i := j) (fo := 0) (rty := 47) (es := 3) (xs := [.raw (.int .i64 x4.v), .raw (.bool x4.c.neg), nsl x4.c.abs]) tp_2 rfl (map_at hx4 (f := Part.d)) rfl rfl)] [(2, vp 6 0), (4, vp 7 0), (6, vp 9 0), (17, .t (.c (.own 0 t.parts.length))), (18, vi .i64 (t.parts.length : Int)), (19, vi .i64 (j : Int))] [(6, .box [.d (.raw nilV), .d (.raw (.bool false)), .d (nsl [])]), (0, .row 47 3 ((ssV Part.v t.parts).map Part.d)), (7, .box ([.own 8 out.length] ++ zi r3)), (8, .row 47 3 (out.map Part.d)), (9, .box ([.d (.raw (.int .i64 x4.v))] ++ zi x4.c))] (by kernel_rfl) h ?_; clear h; intro a w h
      refine wp_seq ?_
      refine rSeq tp_ok 10 [] [(2, vp 6 0), (4, vp 7 0), (6, vp 9 0), (17, .t (.c (.own 0 t.parts.length))), (18, vi .i64 (t.parts.length : Int)), (19, vi .i64 (j : Int)), (25, vb (decide (x4.v < 0)))] [(6, .box [.d (.raw nilV), .d (.raw (.bool false)), .d (nsl [])]), (0, .row 47 3 ((ssV Part.v t.parts).map Part.d)), (7, .box ([.own 8 out.length] ++ zi r3)), (8, .row 47 3 (out.map Part.d)), (9, .box ([.d (.raw (.int .i64 x4.v))] ++ zi x4.c))] (by kernel_rfl) h ?_; clear h; intro a w h
      refine condS (decide (x4.v < 0)) h rfl (fun hc => ?_) (fun hc => ?_)
      · have hc2 := hc; clear hc
        have hc2' := of_decide_eq_true hc2
        refine wp_exit ?_
        refine then_x ?_
        refine inBlock_exit ?_
        refine then_n ?_
        refine rS tp_ok 10 [(0, .add .i64 (m := (j : Int)) (n := 1) (i64_id (by omega) (by omega)))] [(2, vp 6 0), (4, vp 7 0), (17, .t (.c (.own 0 t.parts.length))), (18, vi .i64 (t.parts.length : Int)), (19, vi .i64 ((j : Int) + 1))] [(6, .box [.d (.raw nilV), .d (.raw (.bool false)), .d (nsl [])]), (0, .row 47 3 ((ssV Part.v t.parts).map Part.d)), (7, .box ([.own 8 out.length] ++ zi r3)), (8, .row 47 3 (out.map Part.d))] (by kernel_rfl) h ?_; clear h; intro a w h
        refine then_n ?_
        have hst : (mrgZ ((ssV Part.v t.parts).take (j + 1))) = mrgStep out x4 := by rw [hI1, show ((ssV Part.v t.parts).take (j + 1) : List Part) = (ssV Part.v t.parts).take j ++ [x4] from by rw [List.take_add_one, hx4]; rfl, mrgZ_snoc]
        have hst2 := mrg_neg (out := out) hc2'
        refine roundS (x := (j, out)) (y := ((j + 1), out)) h ?_ ?_ (by kernel_rfl) (by kernel_rfl)
        · exact ⟨by rw [hst, hst2], (by have := at_lt hx4; omega), by omega, by have hh := hI4.step (ht.get_mem (ssV_mem (List.mem_of_getElem? hx4))); rw [hst2] at hh; exact hh⟩
        · show (ssV Part.v t.parts).length - (j + 1) < (ssV Part.v t.parts).length - j
          have := at_lt hx4; omega
      · have hc3 := hc; clear hc
        have hc3' := of_decide_eq_false hc3
        refine wp_skip ?_
        refine then_n ?_
        rcases Nat.eq_zero_or_pos out.length with hz | hz
        · refine rSeq tp_ok 10 [(3, .gen _ _ _ fun _ _ _ _ => Op.arith (op := .sub) (d := 29) (xt := 3) (yt := 3) (k := .i64) (m := (out.length : Int)) (n := 1) (r := (-1)) (OV.tmp 28 _) (OV.const (.int .i64 1) rfl) (.inr (.inl ⟨rfl, (by omega)⟩)) (i64_id (by omega) (by omega)))] [(2, vp 6 0), (4, vp 7 0), (6, vp 9 0), (7, vi .i64 (-1)), (17, .t (.c (.own 0 t.parts.length))), (18, vi .i64 (t.parts.length : Int)), (19, vi .i64 (j : Int))] [(6, .box [.d (.raw nilV), .d (.raw (.bool false)), .d (nsl [])]), (0, .row 47 3 ((ssV Part.v t.parts).map Part.d)), (7, .box ([.own 8 out.length] ++ zi r3)), (8, .row 47 3 (out.map Part.d)), (9, .box ([.d (.raw (.int .i64 x4.v))] ++ zi x4.c))] (by kernel_rfl) h ?_; clear h; intro a w h
          refine rSeq tp_ok 10 [(1, .cmp (op := .geq) (m := (-1)) (n := 0) (b := false) .i64 rfl)] [(2, vp 6 0), (4, vp 7 0), (6, vp 9 0), (7, vi .i64 (-1)), (17, .t (.c (.own 0 t.parts.length))), (18, vi .i64 (t.parts.length : Int)), (19, vi .i64 (j : Int)), (42, vb false)] [(6, .box [.d (.raw nilV), .d (.raw (.bool false)), .d (nsl [])]), (0, .row 47 3 ((ssV Part.v t.parts).map Part.d)), (7, .box ([.own 8 out.length] ++ zi r3)), (8, .row 47 3 (out.map Part.d)), (9, .box ([.d (.raw (.int .i64 x4.v))] ++ zi x4.c))] (by kernel_rfl) h ?_; clear h; intro a w h
          refine condS false h rfl (fun hc => ?_) (fun hc => ?_)
          · cases hc
          · clear hc
            obtain ⟨r5, er5, vr5, or5, lr5⟩ := mkZ (v := x4.c.val) (m := x4.c.abs.length) (len_id ox4)
            refine rS tp_ok 10 [(6, .call (Fn.cast (Scopied x4.c ox4 (by omega)) (congrArg vz er5.symm)) tp_8), (8, .gen _ _ _ fun _ _ _ _ => Op.buildD (d := 65) (len := 1) (rows := [(Part.mk x4.v r5)].map Part.d) (rs := [(64, .t (.agg ([.d (.raw (.int .i64 x4.v))] ++ zi r5)))]) tp_9 (.cons (i := 0) (OV.tmp 64 _) (.nil)) (by kernel_rfl) rfl (by simp [Part.d]) (by decide) (by decide)), (9, .gen _ _ _ fun _ _ _ _ => Op.appOD (d := 66) (t := 58) (u := 65) (n := 8) (n' := 10) (len := out.length) (len' := (out ++ [(Part.mk x4.v r5)]).length) (rows := out.map Part.d) (rows2 := [(Part.mk x4.v r5)].map Part.d) (rows' := (out ++ [(Part.mk x4.v r5)]).map Part.d) tp_10 (by first | exact (List.length_map _).symm | simp) (by first | (rw [List.length_append, List.length_map]; done) | simp) (by simp) (by simp [Part.d]) (by first | omega | (simp at *; done) | (simp at *; omega)))] [(2, vp 6 0), (4, vp 7 0), (17, .t (.c (.own 0 t.parts.length))), (18, vi .i64 (t.parts.length : Int)), (19, vi .i64 (j : Int))] [(6, .box [.d (.raw nilV), .d (.raw (.bool false)), .d (nsl [])]), (0, .row 47 3 ((ssV Part.v t.parts).map Part.d)), (7, .box ([.own 10 (out ++ [(Part.mk x4.v r5)]).length] ++ zi r3)), (10, .row 47 3 ((out ++ [(Part.mk x4.v r5)]).map Part.d))] (by kernel_rfl) h ?_; clear h; intro a w h
            refine block_n ?_
            refine then_n ?_
            refine rS tp_ok 11 [(0, .add .i64 (m := (j : Int)) (n := 1) (i64_id (by omega) (by omega)))] [(2, vp 6 0), (4, vp 7 0), (17, .t (.c (.own 0 t.parts.length))), (18, vi .i64 (t.parts.length : Int)), (19, vi .i64 ((j : Int) + 1))] [(6, .box [.d (.raw nilV), .d (.raw (.bool false)), .d (nsl [])]), (0, .row 47 3 ((ssV Part.v t.parts).map Part.d)), (7, .box ([.own 10 (out ++ [(Part.mk x4.v r5)]).length] ++ zi r3)), (10, .row 47 3 ((out ++ [(Part.mk x4.v r5)]).map Part.d))] (by kernel_rfl) h ?_; clear h; intro a w h
            refine then_n ?_
            have hst : (mrgZ ((ssV Part.v t.parts).take (j + 1))) = mrgStep out x4 := by rw [hI1, show ((ssV Part.v t.parts).take (j + 1) : List Part) = (ssV Part.v t.parts).take j ++ [x4] from by rw [List.take_add_one, hx4]; rfl, mrgZ_snoc]
            have hst2 := mrg_nil hc3' hz
            replace h := renS 10 8 [(2, vp 6 0), (4, vp 7 0), (17, .t (.c (.own 0 t.parts.length))), (18, vi .i64 (t.parts.length : Int)), (19, vi .i64 ((j : Int) + 1))] [(6, .box [.d (.raw nilV), .d (.raw (.bool false)), .d (nsl [])]), (0, .row 47 3 ((ssV Part.v t.parts).map Part.d)), (7, .box ([.own 8 (out ++ [(Part.mk x4.v r5)]).length] ++ zi r3)), (8, .row 47 3 ((out ++ [(Part.mk x4.v r5)]).map Part.d))] h (by kernel_rfl) (by kernel_rfl) (by kernel_rfl)
            refine roundS (x := (j, out)) (y := ((j + 1), (out ++ [(Part.mk x4.v r5)]))) h ?_ ?_ (by kernel_rfl) (by kernel_rfl)
            · have hnew : (out ++ [(Part.mk x4.v r5)]) = mrgStep out x4 := by rw [hst2, er5]
              exact ⟨by rw [hst]; exact hnew, (by have := at_lt hx4; omega), by rw [List.length_append]; simp only [List.length_cons, List.length_nil]; omega, by rw [hnew]; exact hI4.step (ht.get_mem (ssV_mem (List.mem_of_getElem? hx4)))⟩
            · show (ssV Part.v t.parts).length - (j + 1) < (ssV Part.v t.parts).length - j
              have := at_lt hx4; omega
        · obtain ⟨k, hk1⟩ : ∃ k, out.length = k + 1 := ⟨out.length - 1, by omega⟩
          refine rSeq tp_ok 11 [(3, .gen _ _ _ fun _ _ _ _ => Op.arith (op := .sub) (d := 29) (xt := 3) (yt := 3) (k := .i64) (m := (out.length : Int)) (n := 1) (r := (k : Int)) (OV.tmp 28 _) (OV.const (.int .i64 1) rfl) (.inr (.inl ⟨rfl, (by omega)⟩)) (i64_id (by omega) (by omega)))] [(2, vp 6 0), (4, vp 7 0), (6, vp 9 0), (7, vi .i64 (k : Int)), (17, .t (.c (.own 0 t.parts.length))), (18, vi .i64 (t.parts.length : Int)), (19, vi .i64 (j : Int))] [(6, .box [.d (.raw nilV), .d (.raw (.bool false)), .d (nsl [])]), (0, .row 47 3 ((ssV Part.v t.parts).map Part.d)), (7, .box ([.own 8 out.length] ++ zi r3)), (8, .row 47 3 (out.map Part.d)), (9, .box ([.d (.raw (.int .i64 x4.v))] ++ zi x4.c))] (by kernel_rfl) h ?_; clear h; intro a w h
          obtain ⟨x6, hx6⟩ : ∃ z_ : Part, out[k]? = some z_ := ⟨_, List.getElem?_eq_getElem (by first | omega | (simp at *; omega))⟩
          obtain ⟨ox6, lx6⟩ := hI4.lb (List.mem_of_getElem? hx6) (by omega)
          refine rSeq tp_ok 11 [(1, .cmp (op := .geq) (m := (k : Int)) (n := 0) (b := true) .i64 (show decide ((k : Int) ≥ 0) = true from decide_eq_true (by omega))), (6, .gen _ _ _ fun _ _ _ _ => Op.idxO (d := 36) (t := 34) (k := .i64) (n := 8) (len := out.length) (i := k) tp_1 (by first | omega | (simp at *; omega)) (OV.tmp 35 _)), (8, .gen _ _ _ fun _ _ _ _ => Op.loadR_c (d := 38) (t := 37) (n := 8) (i := k) (fo := 0) (rty := 47) (es := 3) (x := (.raw (.int .i64 x6.v))) tp_11 rfl (map_at hx6 (f := Part.d)) rfl)] [(2, vp 6 0), (4, vp 7 0), (6, vp 9 0), (7, vi .i64 (k : Int)), (17, .t (.c (.own 0 t.parts.length))), (18, vi .i64 (t.parts.length : Int)), (19, vi .i64 (j : Int)), (42, vb (x6.v == x4.v))] [(6, .box [.d (.raw nilV), .d (.raw (.bool false)), .d (nsl [])]), (0, .row 47 3 ((ssV Part.v t.parts).map Part.d)), (7, .box ([.own 8 out.length] ++ zi r3)), (8, .row 47 3 (out.map Part.d)), (9, .box ([.d (.raw (.int .i64 x4.v))] ++ zi x4.c))] (by kernel_rfl) h ?_; clear h; intro a w h
          refine condS (x6.v == x4.v) h rfl (fun hc => ?_) (fun hc => ?_)
          · have hc4 := hc; clear hc
            have hc4' := hc4; (try simp at hc4')
            obtain ⟨r7, er7, vr7, or7, lr7⟩ := mkZ (v := x6.c.val + x4.c.val) (m := x6.c.abs.length + x4.c.abs.length + 1) (len_add ox6 ox4)
            refine rS tp_ok 11 [(6, .gen _ _ _ fun _ _ _ _ => Op.idxO (d := 49) (t := 47) (k := .i64) (n := 8) (len := out.length) (i := k) tp_1 (by first | omega | (simp at *; omega)) (OV.tmp 48 _)), (8, .gen _ _ _ fun _ _ _ _ => Op.loadR_agg (d := 51) (t := 50) (n := 8) (i := k) (fo := 1) (rty := 47) (es := 3) (xs := [.raw (.bool x6.c.neg), nsl x6.c.abs]) tp_12 rfl (map_at hx6 (f := Part.d)) rfl rfl), (11, .call (Fn.cast (SAdd x6.c x4.c ox6 ox4 (by omega) (by omega)) (congrArg vz er7.symm)) tp_13), (12, .gen _ _ _ fun _ _ _ _ => Op.idxO (d := 55) (t := 44) (k := .i64) (n := 8) (len := out.length) (i := k) tp_1 (by first | omega | (simp at *; omega)) (OV.tmp 45 _)), (14, .gen _ _ _ fun _ _ _ _ => Op.storeR (t := 56) (n := 8) (i := k) (fo := 1) (rty := 47) (es := 3) (r := Part.d x6) (ds := [.raw (.bool r7.neg), nsl r7.abs]) (rs := [(54, vz r7)]) (rows := out.map Part.d) (rows' := (out.set k (Part.mk x6.v r7)).map Part.d) tp_12 (OV.tmp 54 _) rfl rfl rfl (map_at hx6 (f := Part.d)) (by simp [Part.d]) (set_map (xs := out) (F := Part.d) k _ _ rfl))] [(2, vp 6 0), (4, vp 7 0), (17, .t (.c (.own 0 t.parts.length))), (18, vi .i64 (t.parts.length : Int)), (19, vi .i64 (j : Int))] [(6, .box [.d (.raw nilV), .d (.raw (.bool false)), .d (nsl [])]), (0, .row 47 3 ((ssV Part.v t.parts).map Part.d)), (7, .box ([.own 8 out.length] ++ zi r3)), (8, .row 47 3 ((out.set k (Part.mk x6.v r7)).map Part.d))] (by kernel_rfl) h ?_; clear h; intro a w h
            refine block_n ?_
            refine then_n ?_
            refine rS tp_ok 11 [(0, .add .i64 (m := (j : Int)) (n := 1) (i64_id (by omega) (by omega)))] [(2, vp 6 0), (4, vp 7 0), (17, .t (.c (.own 0 t.parts.length))), (18, vi .i64 (t.parts.length : Int)), (19, vi .i64 ((j : Int) + 1))] [(6, .box [.d (.raw nilV), .d (.raw (.bool false)), .d (nsl [])]), (0, .row 47 3 ((ssV Part.v t.parts).map Part.d)), (7, .box ([.own 8 out.length] ++ zi r3)), (8, .row 47 3 ((out.set k (Part.mk x6.v r7)).map Part.d))] (by kernel_rfl) h ?_; clear h; intro a w h
            refine then_n ?_
            have hst : (mrgZ ((ssV Part.v t.parts).take (j + 1))) = mrgStep out x4 := by rw [hI1, show ((ssV Part.v t.parts).take (j + 1) : List Part) = (ssV Part.v t.parts).take j ++ [x4] from by rw [List.take_add_one, hx4]; rfl, mrgZ_snoc]
            replace h := h.conv (f' := F.of [(2, vp 6 0), (4, vp 7 0), (17, .t (.c (.own 0 t.parts.length))), (18, vi .i64 (t.parts.length : Int)), (19, vi .i64 ((j : Int) + 1))] [(6, .box [.d (.raw nilV), .d (.raw (.bool false)), .d (nsl [])]), (0, .row 47 3 ((ssV Part.v t.parts).map Part.d)), (7, .box ([.own 8 (out.set k (Part.mk x6.v r7)).length] ++ zi r3)), (8, .row 47 3 ((out.set k (Part.mk x6.v r7)).map Part.d))]) (by rw [List.length_set])
            have hst2 := mrg_same hc3' hk1 hx6 (by simpa using hc4)
            refine roundS (x := (j, out)) (y := ((j + 1), (out.set k (Part.mk x6.v r7)))) h ?_ ?_ (by kernel_rfl) (by kernel_rfl)
            · have hnew : (out.set k (Part.mk x6.v r7)) = mrgStep out x4 := by rw [hst2, er7]
              exact ⟨by rw [hst]; exact hnew, (by have := at_lt hx4; omega), by rw [List.length_set]; omega, by rw [hnew]; exact hI4.step (ht.get_mem (ssV_mem (List.mem_of_getElem? hx4)))⟩
            · show (ssV Part.v t.parts).length - (j + 1) < (ssV Part.v t.parts).length - j
              have := at_lt hx4; omega
          · have hc5 := hc; clear hc
            have hc5' := hc5; (try simp at hc5')
            obtain ⟨r8, er8, vr8, or8, lr8⟩ := mkZ (v := x4.c.val) (m := x4.c.abs.length) (len_id ox4)
            refine rS tp_ok 11 [(6, .call (Fn.cast (Scopied x4.c ox4 (by omega)) (congrArg vz er8.symm)) tp_8), (8, .gen _ _ _ fun _ _ _ _ => Op.buildD (d := 65) (len := 1) (rows := [(Part.mk x4.v r8)].map Part.d) (rs := [(64, .t (.agg ([.d (.raw (.int .i64 x4.v))] ++ zi r8)))]) tp_9 (.cons (i := 0) (OV.tmp 64 _) (.nil)) (by kernel_rfl) rfl (by simp [Part.d]) (by decide) (by decide)), (9, .gen _ _ _ fun _ _ _ _ => Op.appOD (d := 66) (t := 58) (u := 65) (n := 8) (n' := 11) (len := out.length) (len' := (out ++ [(Part.mk x4.v r8)]).length) (rows := out.map Part.d) (rows2 := [(Part.mk x4.v r8)].map Part.d) (rows' := (out ++ [(Part.mk x4.v r8)]).map Part.d) tp_10 (by first | exact (List.length_map _).symm | simp) (by first | (rw [List.length_append, List.length_map]; done) | simp) (by simp) (by simp [Part.d]) (by first | omega | (simp at *; done) | (simp at *; omega)))] [(2, vp 6 0), (4, vp 7 0), (17, .t (.c (.own 0 t.parts.length))), (18, vi .i64 (t.parts.length : Int)), (19, vi .i64 (j : Int))] [(6, .box [.d (.raw nilV), .d (.raw (.bool false)), .d (nsl [])]), (0, .row 47 3 ((ssV Part.v t.parts).map Part.d)), (7, .box ([.own 11 (out ++ [(Part.mk x4.v r8)]).length] ++ zi r3)), (11, .row 47 3 ((out ++ [(Part.mk x4.v r8)]).map Part.d))] (by kernel_rfl) h ?_; clear h; intro a w h
            refine block_n ?_
            refine then_n ?_
            refine rS tp_ok 12 [(0, .add .i64 (m := (j : Int)) (n := 1) (i64_id (by omega) (by omega)))] [(2, vp 6 0), (4, vp 7 0), (17, .t (.c (.own 0 t.parts.length))), (18, vi .i64 (t.parts.length : Int)), (19, vi .i64 ((j : Int) + 1))] [(6, .box [.d (.raw nilV), .d (.raw (.bool false)), .d (nsl [])]), (0, .row 47 3 ((ssV Part.v t.parts).map Part.d)), (7, .box ([.own 11 (out ++ [(Part.mk x4.v r8)]).length] ++ zi r3)), (11, .row 47 3 ((out ++ [(Part.mk x4.v r8)]).map Part.d))] (by kernel_rfl) h ?_; clear h; intro a w h
            refine then_n ?_
            have hst : (mrgZ ((ssV Part.v t.parts).take (j + 1))) = mrgStep out x4 := by rw [hI1, show ((ssV Part.v t.parts).take (j + 1) : List Part) = (ssV Part.v t.parts).take j ++ [x4] from by rw [List.take_add_one, hx4]; rfl, mrgZ_snoc]
            have hst2 := mrg_new hc3' hk1 hx6 (by simpa using hc5)
            replace h := renS 11 8 [(2, vp 6 0), (4, vp 7 0), (17, .t (.c (.own 0 t.parts.length))), (18, vi .i64 (t.parts.length : Int)), (19, vi .i64 ((j : Int) + 1))] [(6, .box [.d (.raw nilV), .d (.raw (.bool false)), .d (nsl [])]), (0, .row 47 3 ((ssV Part.v t.parts).map Part.d)), (7, .box ([.own 8 (out ++ [(Part.mk x4.v r8)]).length] ++ zi r3)), (8, .row 47 3 ((out ++ [(Part.mk x4.v r8)]).map Part.d))] h (by kernel_rfl) (by kernel_rfl) (by kernel_rfl)
            refine roundS (x := (j, out)) (y := ((j + 1), (out ++ [(Part.mk x4.v r8)]))) h ?_ ?_ (by kernel_rfl) (by kernel_rfl)
            · have hnew : (out ++ [(Part.mk x4.v r8)]) = mrgStep out x4 := by rw [hst2, er8]
              exact ⟨by rw [hst]; exact hnew, (by have := at_lt hx4; omega), by rw [List.length_append]; simp only [List.length_cons, List.length_nil]; omega, by rw [hnew]; exact hI4.step (ht.get_mem (ssV_mem (List.mem_of_getElem? hx4)))⟩
            · show (ssV Part.v t.parts).length - (j + 1) < (ssV Part.v t.parts).length - j
              have := at_lt hx4; omega
    · have hc6 := hc; clear hc
      have hc6' := of_decide_eq_false hc6
      refine wp_exit ?_
      refine then_x ?_
      refine then_x ?_
      refine inBlock_exit ?_
      refine then_n ?_
      replace h := atS (sl' := [(2, vp 6 0), (4, vp 7 0)]) (lc' := [(6, .box [.d (.raw nilV), .d (.raw (.bool false)), .d (nsl [])]), (7, .box ([.own 8 out.length] ++ zi r3)), (8, .row 47 3 (out.map Part.d))]) h (by kernel_rfl) (by kernel_rfl)
      replace h := renS 8 0 [(2, vp 6 0), (4, vp 7 0)] [(6, .box [.d (.raw nilV), .d (.raw (.bool false)), .d (nsl [])]), (7, .box ([.own 0 out.length] ++ zi r3)), (0, .row 47 3 (out.map Part.d))] h (by kernel_rfl) (by kernel_rfl) (by kernel_rfl)
      refine rSeq tp_ok 12 [(2, .call (SDeleteFZ isZ out (fun p hp => SPlain2 p (hI4.lb hp (by omega)).1 (by have := (hI4.lb hp (by omega)).2; omega)) (by omega)) tp_14)] [(2, vp 6 0), (4, vp 7 0)] [(6, .box [.d (.raw nilV), .d (.raw (.bool false)), .d (nsl [])]), (7, .box ([.own 0 (out.filter (fun p => !isZ p)).length] ++ zi r3)), (0, .row 47 3 ((out.filter (fun p => !isZ p)).map Part.d))] (by kernel_rfl) h ?_; clear h; intro a w h
      refine rSeq tp_ok 12 [] [(2, vp 6 0)] [(6, .box ([.own 0 (out.filter (fun p => !isZ p)).length] ++ zi r3)), (0, .row 47 3 ((out.filter (fun p => !isZ p)).map Part.d))] (by kernel_rfl) h ?_; clear h; intro a w h
      refine wp_ret ?_
      have hj : j = (ssV Part.v t.parts).length := by omega
      have hpl : (out.filter (fun p => !isZ p)) = (plainT t).parts := by rw [hI1, hj, List.take_length, plain_law]; first | done | rfl
      replace h := h.conv (f' := F.of [(2, vp 6 0)] [(6, .box ([.own 0 (plainT t).parts.length] ++ zi r3)), (0, .row 47 3 ((out.filter (fun p => !isZ p)).map Part.d))]) (by rw [hpl])
      replace h := h.conv (f' := F.of [(2, vp 6 0)] [(6, .box ([.own 0 (plainT t).parts.length] ++ zi r3)), (0, .row 47 3 ((plainT t).parts.map Part.d))]) (congrArg (fun (z_ : List Part) => F.of [(2, vp 6 0)] [(6, .box ([.own 0 (plainT t).parts.length] ++ zi r3)), (0, .row 47 3 (z_.map Part.d))]) (show ((out.filter (fun p => !isZ p)) : List Part) = (plainT t).parts from hpl))
      refine retS [.agg ([.own 0 (plainT t).parts.length] ++ zi r3)] h Exit.ret (.inl rfl)  rfl ⟨RV.agg _ 6 0 _ _ _ _ tp_15 rfl rfl rfl rfl, trivial⟩ ?_ (by kernel_rfl) (by kernel_rfl)
      rw [er3]; first | done | rfl
theorem SPlainO (t : Term) {n L : Nat} (h : TOk n L t) (hn : n ≤ 1000) (hL : L ≤ 40000) : Fn Try.prog 8 [] [vd t.d] (.t (.agg ([.own 0 (plainT t).parts.length] ++ zi (plainT t).k))) [(0, .row 47 3 ((plainT t).parts.map Part.d))] :=
  have h' := h.mono hn hL
  SPlainO0 t h'.psok h'.kb h'.kl
theorem clamp_ok (n : Int) : -2147483648 ≤ clampN n ∧ clampN n ≤ 2147483647 := by unfold clampN; omega
theorem mov_at {F : Part → Part} {xs : List Part} {j : Nat} {x : Part} (h : xs[j]? = some x) : ((xs.take j).map F ++ xs.drop j)[j]? = some x := by
  obtain ⟨hj, rfl⟩ := List.getElem?_eq_some_iff.1 h
  rw [List.getElem?_append_right (by rw [List.length_map, List.length_take]; omega), List.length_map, List.length_take, Nat.min_eq_left (by omega), Nat.sub_self, List.drop_eq_getElem_cons hj]; rfl
theorem mov_set {F : Part → Part} {xs : List Part} {j : Nat} {x : Part} (h : xs[j]? = some x) : ((xs.take j).map F ++ xs.drop j).set j (F x) = (xs.take (j + 1)).map F ++ xs.drop (j + 1) := by
  obtain ⟨hj, rfl⟩ := List.getElem?_eq_some_iff.1 h
  have hl : ((xs.take j).map F).length = j := by rw [List.length_map, List.length_take]; omega
  have e : xs.take (j + 1) = xs.take j ++ [xs[j]] := by rw [List.take_add_one, h]; rfl
  rw [List.set_append_right _ _ (by omega), hl, Nat.sub_self, List.drop_eq_getElem_cons hj, List.set_cons_zero, e, List.map_append, List.append_assoc]; rfl
theorem far_no {n : Int} {t : Term} {x : Part} (h : x ∈ (plainT t).parts.filter fun p => !isFar n p) : 0 ≤ x.v ∧ x.v ≤ 2147483647 - n := by
  obtain ⟨h1, h2⟩ := List.mem_filter.1 h
  refine ⟨((plainT_parts t).2.1 x h1).1, ?_⟩
  simp [isFar] at h2; omega
theorem mov_ok {n L : Nat} {t : Term} (h : TOk n L t) (hn : n ≤ 1000) (c : Int) (ps : List Part) (hs : ∀ p ∈ ps, p ∈ (plainT t).parts) (hl : ps.length ≤ (plainT t).parts.length) (k : ZI) (hk : Lb k.abs) (lk : k.abs.length ≤ L + 1) : TOk n (L + 1) ⟨ps.map (movP c), k⟩ := by
  have h2 := h.plain hn
  refine ⟨by simp only [List.length_map]; exact Nat.le_trans hl h2.len, fun p hp => ?_, hk, lk⟩
  obtain ⟨q, hq, rfl⟩ := List.mem_map.1 hp
  exact h2.ps q (hs q hq)
set_option maxRecDepth 100000 in
theorem SMove (t : Term) (n : Int) {m L : Nat} (ht : TOk m L t) (hm : m ≤ 1000) (hL : L ≤ 30000) : Fn Try.prog 24 [] [.t (.agg ([.d (.sl 3 (t.parts.map Part.d))] ++ zi t.k)), vi .i64 n] (vd (movZ t (clampN n)).d) [] := by
  have hcl := clamp_ok n
  have lnp := (ht.plain (by omega)).len
  have lnf : ((plainT t).parts.filter (fun p => !isFar (clampN n) p)).length ≤ (plainT t).parts.length := List.length_filter_le _ _
  refine Fn.body Try.func24 rfl 36 rfl fun w H B a h => ?_
  refine rSeq tp_ok 5 [] [(2, vp 5 0), (3, vp 6 0), (4, vp 7 0)] [(5, .box ([.d (.sl 3 (t.parts.map Part.d))] ++ zi t.k)), (6, .box [.d (.raw (.int .i64 n))]), (7, .box [.d (.raw nilV), .d (.raw (.bool false)), .d (nsl [])])] (by kernel_rfl) h ?_; clear h; intro a w h
  refine rSeq tp_ok 8 [(1, .gen _ _ _ fun _ _ _ _ => Op.max2 (d := 8) (tys := #[3, 3]) (k := .i64) (m := n) (n := (-2147483648)) (r := (max n (-2147483648))) (OV.tmp 7 _) (OV.const (.int .i64 (-2147483648)) rfl) rfl), (2, .gen _ _ _ fun _ _ _ _ => Op.min2 (d := 9) (tys := #[3, 3]) (k := .i64) (m := (max n (-2147483648))) (n := 2147483647) (r := (clampN n)) (OV.tmp 8 _) (OV.const (.int .i64 2147483647) rfl) rfl)] [(2, vp 5 0), (3, vp 6 0), (4, vp 7 0)] [(5, .box ([.d (.sl 3 (t.parts.map Part.d))] ++ zi t.k)), (6, .box [.d (.raw (.int .i64 (clampN n)))]), (7, .box [.d (.raw nilV), .d (.raw (.bool false)), .d (nsl [])])] (by kernel_rfl) h ?_; clear h; intro a w h
  refine rSeq tp_ok 8 [(1, .call (SPlainO t ht (by omega) (by omega)) tp_16)] [(3, vp 6 0), (4, vp 7 0), (5, vp 8 0)] [(6, .box [.d (.raw (.int .i64 (clampN n)))]), (7, .box [.d (.raw nilV), .d (.raw (.bool false)), .d (nsl [])]), (0, .row 47 3 ((plainT t).parts.map Part.d)), (8, .box ([.own 0 (plainT t).parts.length] ++ zi (plainT t).k))] (by kernel_rfl) h ?_; clear h; intro a w h
  replace h := renS 6 1 [(3, vp 1 0), (4, vp 7 0), (5, vp 8 0)] [(7, .box [.d (.raw nilV), .d (.raw (.bool false)), .d (nsl [])]), (0, .row 47 3 ((plainT t).parts.map Part.d)), (8, .box ([.own 0 (plainT t).parts.length] ++ zi (plainT t).k)), (1, .box [.d (.raw (.int .i64 (clampN n)))])] h (by kernel_rfl) (by kernel_rfl) (by kernel_rfl)
  refine rSeq tp_ok 9 [(2, .gen _ _ _ fun _ _ _ _ => Op.makeF1 (d := 14) (t := 3) (fn := .func 51) (x := .ptr 1 0)), (3, .call (SDeleteFM (isFar (clampN n)) (plainT t).parts (clampN n) (fun p _ => SMove1 p (clampN n) hcl) (by omega)) tp_14)] [(3, vp 1 0), (4, vp 7 0), (5, vp 8 0)] [(7, .box [.d (.raw nilV), .d (.raw (.bool false)), .d (nsl [])]), (0, .row 47 3 (((plainT t).parts.filter (fun p => !isFar (clampN n) p)).map Part.d)), (8, .box ([.own 0 ((plainT t).parts.filter (fun p => !isFar (clampN n) p)).length] ++ zi (plainT t).k)), (1, .box [.d (.raw (.int .i64 (clampN n)))])] (by kernel_rfl) h ?_; clear h; intro a w h
  refine wp_seq ?_
  refine rSeq tp_ok 9 [] [(3, vp 1 0), (4, vp 7 0), (5, vp 8 0), (19, vi .i64 (((plainT t).parts.filter (fun p => !isFar (clampN n) p)).length : Int)), (20, vi .i64 0)] [(7, .box [.d (.raw nilV), .d (.raw (.bool false)), .d (nsl [])]), (0, .row 47 3 (((plainT t).parts.filter (fun p => !isFar (clampN n) p)).map Part.d)), (8, .box ([.own 0 ((plainT t).parts.filter (fun p => !isFar (clampN n) p)).length] ++ zi (plainT t).k)), (1, .box [.d (.raw (.int .i64 (clampN n)))])] (by kernel_rfl) h ?_; clear h; intro a w h
  refine wp_block ?_
  replace h := h.conv (f' := F.of [(3, vp 1 0), (4, vp 7 0), (5, vp 8 0), (19, vi .i64 (((plainT t).parts.filter (fun p => !isFar (clampN n) p)).length : Int)), (20, vi .i64 0)] [(7, .box [.d (.raw nilV), .d (.raw (.bool false)), .d (nsl [])]), (0, .row 47 3 (((((plainT t).parts.filter (fun p => !isFar (clampN n) p)).take 0).map (movP (clampN n)) ++ ((plainT t).parts.filter (fun p => !isFar (clampN n) p)).drop 0).map Part.d)), (8, .box ([.own 0 ((plainT t).parts.filter (fun p => !isFar (clampN n) p)).length] ++ zi (plainT t).k)), (1, .box [.d (.raw (.int .i64 (clampN n)))])]) (congrArg (fun (z_ : List Part) => F.of [(3, vp 1 0), (4, vp 7 0), (5, vp 8 0), (19, vi .i64 (((plainT t).parts.filter (fun p => !isFar (clampN n) p)).length : Int)), (20, vi .i64 0)] [(7, .box [.d (.raw nilV), .d (.raw (.bool false)), .d (nsl [])]), (0, .row 47 3 (z_.map Part.d)), (8, .box ([.own 0 ((plainT t).parts.filter (fun p => !isFar (clampN n) p)).length] ++ zi (plainT t).k)), (1, .box [.d (.raw (.int .i64 (clampN n)))])]) (show (((plainT t).parts.filter (fun p => !isFar (clampN n) p)) : List Part) = ((((plainT t).parts.filter (fun p => !isFar (clampN n) p)).take 0).map (movP (clampN n)) ++ ((plainT t).parts.filter (fun p => !isFar (clampN n) p)).drop 0) from by simp))
  refine loopS (ι := (Nat)) (fun (z_ : (Nat)) => match z_ with | j => j ≤ ((plainT t).parts.filter (fun p => !isFar (clampN n) p)).length)
      (fun (z_ : (Nat)) => match z_ with | j => [(3, vp 1 0), (4, vp 7 0), (5, vp 8 0), (19, vi .i64 (((plainT t).parts.filter (fun p => !isFar (clampN n) p)).length : Int)), (20, vi .i64 (j : Int))])
      (fun (z_ : (Nat)) => match z_ with | j => [(7, .box [.d (.raw nilV), .d (.raw (.bool false)), .d (nsl [])]), (0, .row 47 3 (((((plainT t).parts.filter (fun p => !isFar (clampN n) p)).take j).map (movP (clampN n)) ++ ((plainT t).parts.filter (fun p => !isFar (clampN n) p)).drop j).map Part.d)), (8, .box ([.own 0 ((plainT t).parts.filter (fun p => !isFar (clampN n) p)).length] ++ zi (plainT t).k)), (1, .box [.d (.raw (.int .i64 (clampN n)))])])
      (fun (z_ : (Nat)) => match z_ with | j => ((plainT t).parts.filter (fun p => !isFar (clampN n) p)).length - j) 0 ?_ h (by kernel_rfl) (by kernel_rfl) ?_
  · exact Nat.zero_le _
  · clear h; rintro j a w hI h
    change St _ (F.of [(3, vp 1 0), (4, vp 7 0), (5, vp 8 0), (19, vi .i64 (((plainT t).parts.filter (fun p => !isFar (clampN n) p)).length : Int)), (20, vi .i64 (j : Int))] [(7, .box [.d (.raw nilV), .d (.raw (.bool false)), .d (nsl [])]), (0, .row 47 3 (((((plainT t).parts.filter (fun p => !isFar (clampN n) p)).take j).map (movP (clampN n)) ++ ((plainT t).parts.filter (fun p => !isFar (clampN n) p)).drop j).map Part.d)), (8, .box ([.own 0 ((plainT t).parts.filter (fun p => !isFar (clampN n) p)).length] ++ zi (plainT t).k)), (1, .box [.d (.raw (.int .i64 (clampN n)))])]) a w at h
    have hrl : ((((plainT t).parts.filter (fun p => !isFar (clampN n) p)).take j).map (movP (clampN n)) ++ ((plainT t).parts.filter (fun p => !isFar (clampN n) p)).drop j).length = ((plainT t).parts.filter (fun p => !isFar (clampN n) p)).length := by rw [List.length_append, List.length_map, List.length_take, List.length_drop]; omega
    refine rSeq tp_ok 9 [] [(3, vp 1 0), (4, vp 7 0), (5, vp 8 0), (19, vi .i64 (((plainT t).parts.filter (fun p => !isFar (clampN n) p)).length : Int)), (20, vi .i64 (j : Int)), (21, vb (decide ((j : Int) < (((plainT t).parts.filter (fun p => !isFar (clampN n) p)).length : Int))))] [(7, .box [.d (.raw nilV), .d (.raw (.bool false)), .d (nsl [])]), (0, .row 47 3 (((((plainT t).parts.filter (fun p => !isFar (clampN n) p)).take j).map (movP (clampN n)) ++ ((plainT t).parts.filter (fun p => !isFar (clampN n) p)).drop j).map Part.d)), (8, .box ([.own 0 ((plainT t).parts.filter (fun p => !isFar (clampN n) p)).length] ++ zi (plainT t).k)), (1, .box [.d (.raw (.int .i64 (clampN n)))])] (by kernel_rfl) h ?_; clear h; intro a w h
    refine wp_seq ?_
    refine condS (decide ((j : Int) < (((plainT t).parts.filter (fun p => !isFar (clampN n) p)).length : Int))) h rfl (fun hc => ?_) (fun hc => ?_)
    · have hc1 := hc; clear hc
      have hc1' := of_decide_eq_true hc1
      refine wp_skip ?_
      refine then_n ?_
      refine wp_seq ?_
      refine wp_block ?_
      refine rSeq tp_ok 9 [] [(3, vp 1 0), (4, vp 7 0), (5, vp 8 0), (6, vi .i64 (j : Int)), (19, vi .i64 (((plainT t).parts.filter (fun p => !isFar (clampN n) p)).length : Int)), (20, vi .i64 (j : Int))] [(7, .box [.d (.raw nilV), .d (.raw (.bool false)), .d (nsl [])]), (0, .row 47 3 (((((plainT t).parts.filter (fun p => !isFar (clampN n) p)).take j).map (movP (clampN n)) ++ ((plainT t).parts.filter (fun p => !isFar (clampN n) p)).drop j).map Part.d)), (8, .box ([.own 0 ((plainT t).parts.filter (fun p => !isFar (clampN n) p)).length] ++ zi (plainT t).k)), (1, .box [.d (.raw (.int .i64 (clampN n)))])] (by kernel_rfl) h ?_; clear h; intro a w h
      obtain ⟨x, hx⟩ : ∃ z_ : Part, ((plainT t).parts.filter (fun p => !isFar (clampN n) p))[j]? = some z_ := ⟨_, List.getElem?_eq_getElem (by omega)⟩
      have hxf := far_no (List.mem_of_getElem? hx)
      refine rS tp_ok 9 [(3, .gen _ _ _ fun _ _ _ _ => Op.idxO (d := 26) (t := 24) (k := .i64) (n := 0) (len := ((plainT t).parts.filter (fun p => !isFar (clampN n) p)).length) (i := j) tp_1 (by first | omega | (simp at *; omega)) (OV.tmp 25 _)), (5, .gen _ _ _ fun _ _ _ _ => Op.loadR_c (d := 28) (t := 27) (n := 0) (i := j) (fo := 0) (rty := 47) (es := 3) (x := (.raw (.int .i64 x.v))) tp_11 rfl (map_at (show (((((plainT t).parts.filter (fun p => !isFar (clampN n) p)).take j).map (movP (clampN n)) ++ ((plainT t).parts.filter (fun p => !isFar (clampN n) p)).drop j) : List Part)[j]? = some x from mov_at hx) (f := Part.d)) rfl), (7, .add .i64 (m := x.v) (n := (clampN n)) (i64_id (by omega) (by omega))), (8, .gen _ _ _ fun _ _ _ _ => Op.idxO (d := 31) (t := 24) (k := .i64) (n := 0) (len := ((plainT t).parts.filter (fun p => !isFar (clampN n) p)).length) (i := j) tp_1 (by first | omega | (simp at *; omega)) (OV.tmp 25 _)), (10, .gen _ _ _ fun _ _ _ _ => Op.storeR (t := 32) (n := 0) (i := j) (fo := 0) (rty := 47) (es := 3) (r := Part.d x) (ds := [.raw (.int .i64 (x.v + (clampN n)))]) (rs := [(30, vi .i64 (x.v + (clampN n)))]) (rows := ((((plainT t).parts.filter (fun p => !isFar (clampN n) p)).take j).map (movP (clampN n)) ++ ((plainT t).parts.filter (fun p => !isFar (clampN n) p)).drop j).map Part.d) (rows' := (((((plainT t).parts.filter (fun p => !isFar (clampN n) p)).take j).map (movP (clampN n)) ++ ((plainT t).parts.filter (fun p => !isFar (clampN n) p)).drop j).set j (Part.mk (x.v + (clampN n)) x.c)).map Part.d) tp_11 (OV.tmp 30 _) rfl rfl rfl (map_at (show (((((plainT t).parts.filter (fun p => !isFar (clampN n) p)).take j).map (movP (clampN n)) ++ ((plainT t).parts.filter (fun p => !isFar (clampN n) p)).drop j) : List Part)[j]? = some x from mov_at hx) (f := Part.d)) (by simp [Part.d]) (set_map (xs := ((((plainT t).parts.filter (fun p => !isFar (clampN n) p)).take j).map (movP (clampN n)) ++ ((plainT t).parts.filter (fun p => !isFar (clampN n) p)).drop j)) (F := Part.d) j _ _ rfl))] [(3, vp 1 0), (4, vp 7 0), (5, vp 8 0), (19, vi .i64 (((plainT t).parts.filter (fun p => !isFar (clampN n) p)).length : Int)), (20, vi .i64 (j : Int))] [(7, .box [.d (.raw nilV), .d (.raw (.bool false)), .d (nsl [])]), (0, .row 47 3 ((((((plainT t).parts.filter (fun p => !isFar (clampN n) p)).take j).map (movP (clampN n)) ++ ((plainT t).parts.filter (fun p => !isFar (clampN n) p)).drop j).set j (Part.mk (x.v + (clampN n)) x.c)).map Part.d)), (8, .box ([.own 0 ((plainT t).parts.filter (fun p => !isFar (clampN n) p)).length] ++ zi (plainT t).k)), (1, .box [.d (.raw (.int .i64 (clampN n)))])] (by kernel_rfl) h ?_; clear h; intro a w h
      refine block_n ?_
      refine then_n ?_
      refine rS tp_ok 9 [(0, .add .i64 (m := (j : Int)) (n := 1) (i64_id (by omega) (by omega)))] [(3, vp 1 0), (4, vp 7 0), (5, vp 8 0), (19, vi .i64 (((plainT t).parts.filter (fun p => !isFar (clampN n) p)).length : Int)), (20, vi .i64 ((j : Int) + 1))] [(7, .box [.d (.raw nilV), .d (.raw (.bool false)), .d (nsl [])]), (0, .row 47 3 ((((((plainT t).parts.filter (fun p => !isFar (clampN n) p)).take j).map (movP (clampN n)) ++ ((plainT t).parts.filter (fun p => !isFar (clampN n) p)).drop j).set j (Part.mk (x.v + (clampN n)) x.c)).map Part.d)), (8, .box ([.own 0 ((plainT t).parts.filter (fun p => !isFar (clampN n) p)).length] ++ zi (plainT t).k)), (1, .box [.d (.raw (.int .i64 (clampN n)))])] (by kernel_rfl) h ?_; clear h; intro a w h
      refine then_n ?_
      replace h := h.conv (f' := F.of [(3, vp 1 0), (4, vp 7 0), (5, vp 8 0), (19, vi .i64 (((plainT t).parts.filter (fun p => !isFar (clampN n) p)).length : Int)), (20, vi .i64 ((j : Int) + 1))] [(7, .box [.d (.raw nilV), .d (.raw (.bool false)), .d (nsl [])]), (0, .row 47 3 (((((plainT t).parts.filter (fun p => !isFar (clampN n) p)).take (j + 1)).map (movP (clampN n)) ++ ((plainT t).parts.filter (fun p => !isFar (clampN n) p)).drop (j + 1)).map Part.d)), (8, .box ([.own 0 ((plainT t).parts.filter (fun p => !isFar (clampN n) p)).length] ++ zi (plainT t).k)), (1, .box [.d (.raw (.int .i64 (clampN n)))])]) (congrArg (fun (z_ : List Part) => F.of [(3, vp 1 0), (4, vp 7 0), (5, vp 8 0), (19, vi .i64 (((plainT t).parts.filter (fun p => !isFar (clampN n) p)).length : Int)), (20, vi .i64 ((j : Int) + 1))] [(7, .box [.d (.raw nilV), .d (.raw (.bool false)), .d (nsl [])]), (0, .row 47 3 (z_.map Part.d)), (8, .box ([.own 0 ((plainT t).parts.filter (fun p => !isFar (clampN n) p)).length] ++ zi (plainT t).k)), (1, .box [.d (.raw (.int .i64 (clampN n)))])]) (show ((((((plainT t).parts.filter (fun p => !isFar (clampN n) p)).take j).map (movP (clampN n)) ++ ((plainT t).parts.filter (fun p => !isFar (clampN n) p)).drop j).set j (Part.mk (x.v + (clampN n)) x.c)) : List Part) = ((((plainT t).parts.filter (fun p => !isFar (clampN n) p)).take (j + 1)).map (movP (clampN n)) ++ ((plainT t).parts.filter (fun p => !isFar (clampN n) p)).drop (j + 1)) from mov_set hx))
      refine roundS (x := j) (y := (j + 1)) h ?_ ?_ (by kernel_rfl) (by kernel_rfl)
      · have := at_lt hx; omega
      · show ((plainT t).parts.filter (fun p => !isFar (clampN n) p)).length - (j + 1) < ((plainT t).parts.filter (fun p => !isFar (clampN n) p)).length - j
        have := at_lt hx; omega
    · have hc2 := hc; clear hc
      have hc2' := of_decide_eq_false hc2
      refine wp_exit ?_
      refine then_x ?_
      refine then_x ?_
      refine inBlock_exit ?_
      refine then_n ?_
      replace h := h.conv (f' := F.of [(3, vp 1 0), (4, vp 7 0), (5, vp 8 0), (19, vi .i64 (((plainT t).parts.filter (fun p => !isFar (clampN n) p)).length : Int)), (20, vi .i64 (j : Int)), (21, vb (decide ((j : Int) < (((plainT t).parts.filter (fun p => !isFar (clampN n) p)).length : Int))))] [(7, .box [.d (.raw nilV), .d (.raw (.bool false)), .d (nsl [])]), (0, .row 47 3 ((((plainT t).parts.filter (fun p => !isFar (clampN n) p)).map (movP (clampN n))).map Part.d)), (8, .box ([.own 0 ((plainT t).parts.filter (fun p => !isFar (clampN n) p)).length] ++ zi (plainT t).k)), (1, .box [.d (.raw (.int .i64 (clampN n)))])]) (congrArg (fun (z_ : List Part) => F.of [(3, vp 1 0), (4, vp 7 0), (5, vp 8 0), (19, vi .i64 (((plainT t).parts.filter (fun p => !isFar (clampN n) p)).length : Int)), (20, vi .i64 (j : Int)), (21, vb (decide ((j : Int) < (((plainT t).parts.filter (fun p => !isFar (clampN n) p)).length : Int))))] [(7, .box [.d (.raw nilV), .d (.raw (.bool false)), .d (nsl [])]), (0, .row 47 3 (z_.map Part.d)), (8, .box ([.own 0 ((plainT t).parts.filter (fun p => !isFar (clampN n) p)).length] ++ zi (plainT t).k)), (1, .box [.d (.raw (.int .i64 (clampN n)))])]) (show (((((plainT t).parts.filter (fun p => !isFar (clampN n) p)).take j).map (movP (clampN n)) ++ ((plainT t).parts.filter (fun p => !isFar (clampN n) p)).drop j) : List Part) = (((plainT t).parts.filter (fun p => !isFar (clampN n) p)).map (movP (clampN n))) from by rw [show j = ((plainT t).parts.filter (fun p => !isFar (clampN n) p)).length by omega, List.take_length, List.drop_length, List.append_nil]))
      replace h := h.conv (f' := F.of [(3, vp 1 0), (4, vp 7 0), (5, vp 8 0), (19, vi .i64 (((plainT t).parts.filter (fun p => !isFar (clampN n) p)).length : Int)), (20, vi .i64 (j : Int)), (21, vb (decide ((j : Int) < (((plainT t).parts.filter (fun p => !isFar (clampN n) p)).length : Int))))] [(7, .box [.d (.raw nilV), .d (.raw (.bool false)), .d (nsl [])]), (0, .row 47 3 ((((plainT t).parts.filter (fun p => !isFar (clampN n) p)).map (movP (clampN n))).map Part.d)), (8, .box ([.own 0 (((plainT t).parts.filter (fun p => !isFar (clampN n) p)).map (movP (clampN n))).length] ++ zi (plainT t).k)), (1, .box [.d (.raw (.int .i64 (clampN n)))])]) (by rw [show (((plainT t).parts.filter (fun p => !isFar (clampN n) p)).map (movP (clampN n))).length = ((plainT t).parts.filter (fun p => !isFar (clampN n) p)).length from List.length_map _])
      replace h := pubS 0 3 47 ((((plainT t).parts.filter (fun p => !isFar (clampN n) p)).map (movP (clampN n))).map Part.d) [(3, vp 1 0), (4, vp 7 0), (5, vp 8 0), (19, vi .i64 (((plainT t).parts.filter (fun p => !isFar (clampN n) p)).length : Int)), (20, vi .i64 (j : Int)), (21, vb (decide ((j : Int) < (((plainT t).parts.filter (fun p => !isFar (clampN n) p)).length : Int))))] [(7, .box [.d (.raw nilV), .d (.raw (.bool false)), .d (nsl [])]), (8, .box ([.d (.sl 3 ((((plainT t).parts.filter (fun p => !isFar (clampN n) p)).map (movP (clampN n))).map Part.d))] ++ zi (plainT t).k)), (1, .box [.d (.raw (.int .i64 (clampN n)))])] h rfl trivial (show AllEq _ [(((plainT t).parts.filter (fun p => !isFar (clampN n) p)).map (movP (clampN n))).length] from ⟨by first | exact (List.length_map _).symm | simp, trivial⟩) (by kernel_rfl) (by kernel_rfl)
      refine rSeq tp_ok 9 [(1, .call (SPlain (Term.mk (((plainT t).parts.filter (fun p => !isFar (clampN n) p)).map (movP (clampN n))) (plainT t).k) (mov_ok ht (by omega) (clampN n) ((plainT t).parts.filter (fun p => !isFar (clampN n) p)) (fun p hp => (List.mem_filter.1 hp).1) (List.length_filter_le _ _) _ (ht.plain (by omega)).kb (ht.plain (by omega)).kl) (by omega) (by omega)) tp_16)] [(4, vp 7 0)] [(7, .box ([.d (.sl 3 ((movZ t (clampN n)).parts.map Part.d))] ++ zi (movZ t (clampN n)).k))] (by kernel_rfl) h ?_; clear h; intro a w h
      refine wp_ret ?_
      refine retS [.agg ([.d (.sl 3 ((movZ t (clampN n)).parts.map Part.d))] ++ zi (movZ t (clampN n)).k)] h Exit.ret (.inl rfl)  rfl ⟨RV.agg _ 7 0 _ _ _ _ tp_15 rfl rfl rfl rfl, trivial⟩ ?_ (by kernel_rfl) (by kernel_rfl)
      rfl
set_option maxRecDepth 100000 in
theorem SRMove (t : Term) (n : Int) {m L : Nat} (ht : TOk m L t) (hm : m ≤ 1000) (hL : L ≤ 30000) : Fn Try.prog 25 [] [.t (.agg ([.d (.sl 3 (t.parts.map Part.d))] ++ zi t.k)), vi .i64 n] (vd (movZ t (clampN n)).d) [] := by
  have hcl := clamp_ok n
  have lt := ht.len
  refine Fn.body Try.func25 rfl 59 rfl fun w H B a h => ?_
  refine rSeq tp_ok 5 [] [(1, vi .i64 n), (2, vp 5 0), (4, vp 6 0)] [(5, .box ([.d (.sl 3 (t.parts.map Part.d))] ++ zi t.k)), (6, .box [.d (.raw nilV), .d (.raw (.bool false)), .d (nsl [])])] (by kernel_rfl) h ?_; clear h; intro a w h
  refine midH h [(1, vi .i64 (max n (-2147483648))), (2, vp 5 0), (4, vp 6 0)] [(5, .box ([.d (.sl 3 (t.parts.map Part.d))] ++ zi t.k)), (6, .box [.d (.raw nilV), .d (.raw (.bool false)), .d (nsl [])])] ?_ (fun a w h => ?_)
  · refine rSeq tp_ok 7 [] [(1, vi .i64 n), (2, vp 5 0), (4, vp 6 0), (9, vb (decide (n < (-2147483648))))] [(5, .box ([.d (.sl 3 (t.parts.map Part.d))] ++ zi t.k)), (6, .box [.d (.raw nilV), .d (.raw (.bool false)), .d (nsl [])])] (by kernel_rfl) h ?_; clear h; intro a w h
    refine condS (decide (n < (-2147483648))) h rfl (fun hc => ?_) (fun hc => ?_)
    · have hc1 := hc; clear hc
      have hc1' := of_decide_eq_true hc1
      refine rS tp_ok 7 [] [(1, vi .i64 (-2147483648)), (2, vp 5 0), (4, vp 6 0)] [(5, .box ([.d (.sl 3 (t.parts.map Part.d))] ++ zi t.k)), (6, .box [.d (.raw nilV), .d (.raw (.bool false)), .d (nsl [])])] (by kernel_rfl) h ?_; clear h; intro a w h
      refine then_n ?_
      have hcn : (max n (-2147483648)) = (-2147483648) := by omega
      replace h := h.conv (f' := F.of [(1, vi .i64 (max n (-2147483648))), (2, vp 5 0), (4, vp 6 0)] [(5, .box ([.d (.sl 3 (t.parts.map Part.d))] ++ zi t.k)), (6, .box [.d (.raw nilV), .d (.raw (.bool false)), .d (nsl [])])]) (by rw [hcn])
      exact atS h (by kernel_rfl) (by kernel_rfl)
    · have hc2 := hc; clear hc
      have hc2' := of_decide_eq_false hc2
      refine wp_skip ?_
      refine then_n ?_
      have hcn : (max n (-2147483648)) = n := by omega
      replace h := h.conv (f' := F.of [(1, vi .i64 (max n (-2147483648))), (2, vp 5 0), (4, vp 6 0), (9, vb (decide (n < (-2147483648))))] [(5, .box ([.d (.sl 3 (t.parts.map Part.d))] ++ zi t.k)), (6, .box [.d (.raw nilV), .d (.raw (.bool false)), .d (nsl [])])]) (by rw [hcn])
      exact atS h (by kernel_rfl) (by kernel_rfl)
  · refine midH h [(1, vi .i64 (clampN n)), (2, vp 5 0), (4, vp 6 0)] [(5, .box ([.d (.sl 3 (t.parts.map Part.d))] ++ zi t.k)), (6, .box [.d (.raw nilV), .d (.raw (.bool false)), .d (nsl [])])] ?_ (fun a w h => ?_)
    · refine rSeq tp_ok 7 [] [(1, vi .i64 (max n (-2147483648))), (2, vp 5 0), (4, vp 6 0), (11, vb (decide ((max n (-2147483648)) > 2147483647)))] [(5, .box ([.d (.sl 3 (t.parts.map Part.d))] ++ zi t.k)), (6, .box [.d (.raw nilV), .d (.raw (.bool false)), .d (nsl [])])] (by kernel_rfl) h ?_; clear h; intro a w h
      refine condS (decide ((max n (-2147483648)) > 2147483647)) h rfl (fun hc => ?_) (fun hc => ?_)
      · have hc3 := hc; clear hc
        have hc3' := of_decide_eq_true hc3
        refine rS tp_ok 7 [] [(1, vi .i64 2147483647), (2, vp 5 0), (4, vp 6 0)] [(5, .box ([.d (.sl 3 (t.parts.map Part.d))] ++ zi t.k)), (6, .box [.d (.raw nilV), .d (.raw (.bool false)), .d (nsl [])])] (by kernel_rfl) h ?_; clear h; intro a w h
        refine then_n ?_
        have hcn : (clampN n) = 2147483647 := by simp only [clampN]; omega
        replace h := h.conv (f' := F.of [(1, vi .i64 (clampN n)), (2, vp 5 0), (4, vp 6 0)] [(5, .box ([.d (.sl 3 (t.parts.map Part.d))] ++ zi t.k)), (6, .box [.d (.raw nilV), .d (.raw (.bool false)), .d (nsl [])])]) (by rw [hcn])
        exact atS h (by kernel_rfl) (by kernel_rfl)
      · have hc4 := hc; clear hc
        have hc4' := of_decide_eq_false hc4
        refine wp_skip ?_
        refine then_n ?_
        have hcn : (clampN n) = (max n (-2147483648)) := by simp only [clampN]; omega
        replace h := h.conv (f' := F.of [(1, vi .i64 (clampN n)), (2, vp 5 0), (4, vp 6 0), (11, vb (decide ((max n (-2147483648)) > 2147483647)))] [(5, .box ([.d (.sl 3 (t.parts.map Part.d))] ++ zi t.k)), (6, .box [.d (.raw nilV), .d (.raw (.bool false)), .d (nsl [])])]) (by rw [hcn])
        exact atS h (by kernel_rfl) (by kernel_rfl)
    · refine rSeq tp_ok 7 [] [(1, vi .i64 (clampN n)), (2, vp 5 0), (4, vp 6 0), (5, vp 7 0)] [(5, .box ([.d (.sl 3 (t.parts.map Part.d))] ++ zi t.k)), (6, .box [.d (.raw nilV), .d (.raw (.bool false)), .d (nsl [])]), (7, .box ([.d (.raw nilV)] ++ zi t.k))] (by kernel_rfl) h ?_; clear h; intro a w h
      replace h := nilOLs 7 0 8 3 47 ([.d (.raw nilV)] ++ zi t.k) [(1, vi .i64 (clampN n)), (2, vp 5 0), (4, vp 6 0), (5, vp 7 0)] [(5, .box ([.d (.sl 3 (t.parts.map Part.d))] ++ zi t.k)), (6, .box [.d (.raw nilV), .d (.raw (.bool false)), .d (nsl [])]), (7, .box ([.own 8 0] ++ zi t.k)), (8, .row 47 3 ([].map Part.d))] h (by kernel_rfl) rfl rfl (by kernel_rfl) (by kernel_rfl)
      refine rSeq tp_ok 9 [(1, .call (SVars t (ht.mono (by omega) (by omega)).psok) tp_17)] [(1, vi .i64 (clampN n)), (2, vp 5 0), (4, vp 6 0), (5, vp 7 0), (6, .t (.c (.d (.sl 1 ((varsZ t.parts).map intD)))))] [(5, .box ([.d (.sl 3 (t.parts.map Part.d))] ++ zi t.k)), (6, .box [.d (.raw nilV), .d (.raw (.bool false)), .d (nsl [])]), (7, .box ([.own 8 0] ++ zi t.k)), (8, .row 47 3 ([].map Part.d))] (by kernel_rfl) h ?_; clear h; intro a w h
      refine wp_seq ?_
      refine rSeq tp_ok 9 [] [(1, vi .i64 (clampN n)), (2, vp 5 0), (4, vp 6 0), (5, vp 7 0), (6, .t (.c (.d (.sl 1 ((varsZ t.parts).map intD))))), (7, vi .i64 0)] [(5, .box ([.d (.sl 3 (t.parts.map Part.d))] ++ zi t.k)), (6, .box [.d (.raw nilV), .d (.raw (.bool false)), .d (nsl [])]), (7, .box ([.own 8 0] ++ zi t.k)), (8, .row 47 3 ([].map Part.d))] (by kernel_rfl) h ?_; clear h; intro a w h
      refine wp_block ?_
      refine loopS (ι := (Nat) × (List Part)) (fun (z_ : (Nat) × (List Part)) => match z_ with | (j, out) => out = (((((varsZ t.parts).take j).map (partOf t.parts)).filter (keepR (clampN n))).map (movP (clampN n))) ∧ j ≤ (varsZ t.parts).length ∧ out.length ≤ j)
          (fun (z_ : (Nat) × (List Part)) => match z_ with | (j, out) => [(1, vi .i64 (clampN n)), (2, vp 5 0), (4, vp 6 0), (5, vp 7 0), (6, .t (.c (.d (.sl 1 ((varsZ t.parts).map intD))))), (7, vi .i64 (j : Int))])
          (fun (z_ : (Nat) × (List Part)) => match z_ with | (j, out) => [(5, .box ([.d (.sl 3 (t.parts.map Part.d))] ++ zi t.k)), (6, .box [.d (.raw nilV), .d (.raw (.bool false)), .d (nsl [])]), (7, .box ([.own 8 out.length] ++ zi t.k)), (8, .row 47 3 (out.map Part.d))])
          (fun (z_ : (Nat) × (List Part)) => match z_ with | (j, out) => (varsZ t.parts).length - j) (0, []) ?_ h (by kernel_rfl) (by kernel_rfl) ?_
      · exact ⟨by simp, Nat.zero_le _, Nat.zero_le _⟩
      · clear h; rintro ⟨j, out⟩ a w hI h
        change St _ (F.of [(1, vi .i64 (clampN n)), (2, vp 5 0), (4, vp 6 0), (5, vp 7 0), (6, .t (.c (.d (.sl 1 ((varsZ t.parts).map intD))))), (7, vi .i64 (j : Int))] [(5, .box ([.d (.sl 3 (t.parts.map Part.d))] ++ zi t.k)), (6, .box [.d (.raw nilV), .d (.raw (.bool false)), .d (nsl [])]), (7, .box ([.own 8 out.length] ++ zi t.k)), (8, .row 47 3 (out.map Part.d))]) a w at h
        obtain ⟨hI1, hI2, hI3⟩ := hI
        have lv := varsZ_len t.parts
        refine wp_seq ?_
        refine rSeq tp_ok 9 [(2, .len (c := (.d (.sl 1 ((varsZ t.parts).map intD)))) (n := (varsZ t.parts).length) (lenC_map _ _ _))] [(1, vi .i64 (clampN n)), (2, vp 5 0), (4, vp 6 0), (5, vp 7 0), (6, .t (.c (.d (.sl 1 ((varsZ t.parts).map intD))))), (7, vi .i64 (j : Int)), (20, vb (decide ((j : Int) < ((varsZ t.parts).length : Int))))] [(5, .box ([.d (.sl 3 (t.parts.map Part.d))] ++ zi t.k)), (6, .box [.d (.raw nilV), .d (.raw (.bool false)), .d (nsl [])]), (7, .box ([.own 8 out.length] ++ zi t.k)), (8, .row 47 3 (out.map Part.d))] (by kernel_rfl) h ?_; clear h; intro a w h
        refine condS (decide ((j : Int) < ((varsZ t.parts).length : Int))) h rfl (fun hc => ?_) (fun hc => ?_)
        · have hc5 := hc; clear hc
          have hc5' := of_decide_eq_true hc5
          refine wp_skip ?_
          refine then_n ?_
          refine wp_seq ?_
          refine wp_block ?_
          obtain ⟨x2, hx2⟩ : ∃ z_ : Int, (varsZ t.parts)[j]? = some z_ := ⟨_, List.getElem?_eq_getElem (by first | omega | (simp at *; omega))⟩
          rcases Bool.eq_false_or_eq_true (decide (x2 ≤ (2147483647 - (clampN n)))) with hc | hc
          · have hc6 := hc; clear hc
            have hc6' := of_decide_eq_true hc6
            refine rSeq tp_ok 9 [(2, .gen _ _ _ fun _ _ _ _ => Op.idxD (d := 25) (t := 23) (k := .i64) tp_0 (map_at hx2 (f := intD)) (OV.tmp 24 _)), (5, .sub .i64 (m := 2147483647) (n := (clampN n)) (i64_id (by omega) (by omega))), (6, .cmp (op := .leq) (m := x2) (n := (2147483647 - (clampN n))) (b := true) .i64 hc6), (10, .gen _ _ _ fun _ _ _ _ => Op.idxD (d := 33) (t := 31) (k := .i64) tp_0 (map_at hx2 (f := intD)) (OV.tmp 32 _)), (13, .sub .i64 (m := 0) (n := (clampN n)) (i64_id (by omega) (by omega)))] [(1, vi .i64 (clampN n)), (2, vp 5 0), (4, vp 6 0), (5, vp 7 0), (6, .t (.c (.d (.sl 1 ((varsZ t.parts).map intD))))), (7, vi .i64 (j : Int)), (38, vb (decide (x2 ≥ (0 - (clampN n)))))] [(5, .box ([.d (.sl 3 (t.parts.map Part.d))] ++ zi t.k)), (6, .box [.d (.raw nilV), .d (.raw (.bool false)), .d (nsl [])]), (7, .box ([.own 8 out.length] ++ zi t.k)), (8, .row 47 3 (out.map Part.d))] (by kernel_rfl) h ?_; clear h; intro a w h
            refine condS (decide (x2 ≥ (0 - (clampN n)))) h rfl (fun hc => ?_) (fun hc => ?_)
            · have hc7 := hc; clear hc
              have hc7' := of_decide_eq_true hc7
              obtain ⟨r3, er3, vr3, or3, lr3⟩ := mkZ (v := coefZ t.parts x2) (m := L + 1) (coef_len (ht.mono (by omega) (Nat.le_refl _)).psok x2)
              refine rS tp_ok 9 [(4, .gen _ _ _ fun _ _ _ _ => Op.idxD (d := 43) (t := 41) (k := .i64) tp_0 (map_at hx2 (f := intD)) (OV.tmp 42 _)), (7, .add .i64 (m := x2) (n := (clampN n)) (i64_id (by omega) (by omega))), (11, .gen _ _ _ fun _ _ _ _ => Op.idxD (d := 50) (t := 48) (k := .i64) tp_0 (map_at hx2 (f := intD)) (OV.tmp 49 _)), (13, .call (Fn.cast (SCoef t x2 (ht.mono (by omega) (by omega)).psok) (congrArg vz er3.symm)) tp_18), (15, .gen _ _ _ fun _ _ _ _ => Op.buildD (d := 54) (len := 1) (rows := [(Part.mk (x2 + (clampN n)) r3)].map Part.d) (rs := [(53, .t (.agg ([.d (.raw (.int .i64 (x2 + (clampN n))))] ++ zi r3)))]) tp_9 (.cons (i := 0) (OV.tmp 53 _) (.nil)) (by kernel_rfl) rfl (by simp [Part.d]) (by decide) (by decide)), (16, .gen _ _ _ fun _ _ _ _ => Op.appOD (d := 55) (t := 40) (u := 54) (n := 8) (n' := 9) (len := out.length) (len' := (out ++ [(Part.mk (x2 + (clampN n)) r3)]).length) (rows := out.map Part.d) (rows2 := [(Part.mk (x2 + (clampN n)) r3)].map Part.d) (rows' := (out ++ [(Part.mk (x2 + (clampN n)) r3)]).map Part.d) tp_10 (by first | exact (List.length_map _).symm | simp) (by first | (rw [List.length_append, List.length_map]; done) | simp) (by simp) (by simp [Part.d]) (by first | omega | (simp at *; done) | (simp at *; omega)))] [(1, vi .i64 (clampN n)), (2, vp 5 0), (4, vp 6 0), (5, vp 7 0), (6, .t (.c (.d (.sl 1 ((varsZ t.parts).map intD))))), (7, vi .i64 (j : Int))] [(5, .box ([.d (.sl 3 (t.parts.map Part.d))] ++ zi t.k)), (6, .box [.d (.raw nilV), .d (.raw (.bool false)), .d (nsl [])]), (7, .box ([.own 9 (out ++ [(Part.mk (x2 + (clampN n)) r3)]).length] ++ zi t.k)), (9, .row 47 3 ((out ++ [(Part.mk (x2 + (clampN n)) r3)]).map Part.d))] (by kernel_rfl) h ?_; clear h; intro a w h
              refine block_n ?_
              refine then_n ?_
              refine rS tp_ok 10 [(1, .add .i64 (m := (j : Int)) (n := 1) (i64_id (by omega) (by omega)))] [(1, vi .i64 (clampN n)), (2, vp 5 0), (4, vp 6 0), (5, vp 7 0), (6, .t (.c (.d (.sl 1 ((varsZ t.parts).map intD))))), (7, vi .i64 ((j : Int) + 1))] [(5, .box ([.d (.sl 3 (t.parts.map Part.d))] ++ zi t.k)), (6, .box [.d (.raw nilV), .d (.raw (.bool false)), .d (nsl [])]), (7, .box ([.own 9 (out ++ [(Part.mk (x2 + (clampN n)) r3)]).length] ++ zi t.k)), (9, .row 47 3 ((out ++ [(Part.mk (x2 + (clampN n)) r3)]).map Part.d))] (by kernel_rfl) h ?_; clear h; intro a w h
              refine then_n ?_
              have hkp : keepR (clampN n) (partOf t.parts x2) = true := by
                have hv : (partOf t.parts x2).v = x2 := rfl
                simp only [keepR, hv, Bool.and_eq_true, decide_eq_true_eq]; omega
              have htk : (((((varsZ t.parts).take (j + 1)).map (partOf t.parts)).filter (keepR (clampN n))).map (movP (clampN n))) = (out ++ [(Part.mk (x2 + (clampN n)) r3)]) := by
                have e : (varsZ t.parts).take (j + 1) = (varsZ t.parts).take j ++ [x2] := by rw [List.take_add_one, hx2]; rfl
                rw [e, List.map_append, List.filter_append, List.map_append, ← hI1]
                simp only [List.map_cons, List.map_nil, List.filter_cons, hkp, if_true, Bool.false_eq_true, if_false, List.filter_nil, List.append_nil]
                rw [er3]; first | done | rfl
              replace h := renS 9 8 [(1, vi .i64 (clampN n)), (2, vp 5 0), (4, vp 6 0), (5, vp 7 0), (6, .t (.c (.d (.sl 1 ((varsZ t.parts).map intD))))), (7, vi .i64 ((j : Int) + 1))] [(5, .box ([.d (.sl 3 (t.parts.map Part.d))] ++ zi t.k)), (6, .box [.d (.raw nilV), .d (.raw (.bool false)), .d (nsl [])]), (7, .box ([.own 8 (out ++ [(Part.mk (x2 + (clampN n)) r3)]).length] ++ zi t.k)), (8, .row 47 3 ((out ++ [(Part.mk (x2 + (clampN n)) r3)]).map Part.d))] h (by kernel_rfl) (by kernel_rfl) (by kernel_rfl)
              refine roundS (x := (j, out)) (y := ((j + 1), (out ++ [(Part.mk (x2 + (clampN n)) r3)]))) h ?_ ?_ (by kernel_rfl) (by kernel_rfl)
              · exact ⟨htk.symm, by have := at_lt hx2; omega, by rw [List.length_append]; simp only [List.length_cons, List.length_nil]; omega⟩
              · show (varsZ t.parts).length - (j + 1) < (varsZ t.parts).length - j
                have := at_lt hx2; omega
            · have hc8 := hc; clear hc
              have hc8' := of_decide_eq_false hc8
              refine wp_skip ?_
              refine block_n ?_
              refine then_n ?_
              refine rS tp_ok 10 [(1, .add .i64 (m := (j : Int)) (n := 1) (i64_id (by omega) (by omega)))] [(1, vi .i64 (clampN n)), (2, vp 5 0), (4, vp 6 0), (5, vp 7 0), (6, .t (.c (.d (.sl 1 ((varsZ t.parts).map intD))))), (7, vi .i64 ((j : Int) + 1))] [(5, .box ([.d (.sl 3 (t.parts.map Part.d))] ++ zi t.k)), (6, .box [.d (.raw nilV), .d (.raw (.bool false)), .d (nsl [])]), (7, .box ([.own 8 out.length] ++ zi t.k)), (8, .row 47 3 (out.map Part.d))] (by kernel_rfl) h ?_; clear h; intro a w h
              refine then_n ?_
              have hkp : keepR (clampN n) (partOf t.parts x2) = false := by
                have hv : (partOf t.parts x2).v = x2 := rfl
                simp only [keepR, hv, Bool.and_eq_false_iff, decide_eq_false_iff_not]; omega
              have htk : (((((varsZ t.parts).take (j + 1)).map (partOf t.parts)).filter (keepR (clampN n))).map (movP (clampN n))) = out := by
                have e : (varsZ t.parts).take (j + 1) = (varsZ t.parts).take j ++ [x2] := by rw [List.take_add_one, hx2]; rfl
                rw [e, List.map_append, List.filter_append, List.map_append, ← hI1]
                simp only [List.map_cons, List.map_nil, List.filter_cons, hkp, if_true, Bool.false_eq_true, if_false, List.filter_nil, List.append_nil]
              refine roundS (x := (j, out)) (y := ((j + 1), out)) h ?_ ?_ (by kernel_rfl) (by kernel_rfl)
              · exact ⟨htk.symm, by have := at_lt hx2; omega, by omega⟩
              · show (varsZ t.parts).length - (j + 1) < (varsZ t.parts).length - j
                have := at_lt hx2; omega
          · have hc9 := hc; clear hc
            have hc9' := of_decide_eq_false hc9
            refine rSeq tp_ok 10 [(2, .gen _ _ _ fun _ _ _ _ => Op.idxD (d := 25) (t := 23) (k := .i64) tp_0 (map_at hx2 (f := intD)) (OV.tmp 24 _)), (5, .sub .i64 (m := 2147483647) (n := (clampN n)) (i64_id (by omega) (by omega))), (6, .cmp (op := .leq) (m := x2) (n := (2147483647 - (clampN n))) (b := false) .i64 hc9)] [(1, vi .i64 (clampN n)), (2, vp 5 0), (4, vp 6 0), (5, vp 7 0), (6, .t (.c (.d (.sl 1 ((varsZ t.parts).map intD))))), (7, vi .i64 (j : Int)), (38, vb false)] [(5, .box ([.d (.sl 3 (t.parts.map Part.d))] ++ zi t.k)), (6, .box [.d (.raw nilV), .d (.raw (.bool false)), .d (nsl [])]), (7, .box ([.own 8 out.length] ++ zi t.k)), (8, .row 47 3 (out.map Part.d))] (by kernel_rfl) h ?_; clear h; intro a w h
            refine condS false h rfl (fun hc => ?_) (fun hc => ?_)
            · cases hc
            · clear hc
              refine wp_skip ?_
              refine block_n ?_
              refine then_n ?_
              refine rS tp_ok 10 [(1, .add .i64 (m := (j : Int)) (n := 1) (i64_id (by omega) (by omega)))] [(1, vi .i64 (clampN n)), (2, vp 5 0), (4, vp 6 0), (5, vp 7 0), (6, .t (.c (.d (.sl 1 ((varsZ t.parts).map intD))))), (7, vi .i64 ((j : Int) + 1))] [(5, .box ([.d (.sl 3 (t.parts.map Part.d))] ++ zi t.k)), (6, .box [.d (.raw nilV), .d (.raw (.bool false)), .d (nsl [])]), (7, .box ([.own 8 out.length] ++ zi t.k)), (8, .row 47 3 (out.map Part.d))] (by kernel_rfl) h ?_; clear h; intro a w h
              refine then_n ?_
              have hkp : keepR (clampN n) (partOf t.parts x2) = false := by
                have hv : (partOf t.parts x2).v = x2 := rfl
                simp only [keepR, hv, Bool.and_eq_false_iff, decide_eq_false_iff_not]; omega
              have htk : (((((varsZ t.parts).take (j + 1)).map (partOf t.parts)).filter (keepR (clampN n))).map (movP (clampN n))) = out := by
                have e : (varsZ t.parts).take (j + 1) = (varsZ t.parts).take j ++ [x2] := by rw [List.take_add_one, hx2]; rfl
                rw [e, List.map_append, List.filter_append, List.map_append, ← hI1]
                simp only [List.map_cons, List.map_nil, List.filter_cons, hkp, if_true, Bool.false_eq_true, if_false, List.filter_nil, List.append_nil]
              refine roundS (x := (j, out)) (y := ((j + 1), out)) h ?_ ?_ (by kernel_rfl) (by kernel_rfl)
              · exact ⟨htk.symm, by have := at_lt hx2; omega, by omega⟩
              · show (varsZ t.parts).length - (j + 1) < (varsZ t.parts).length - j
                have := at_lt hx2; omega
        · have hc10 := hc; clear hc
          have hc10' := of_decide_eq_false hc10
          refine wp_exit ?_
          refine then_x ?_
          refine then_x ?_
          refine inBlock_exit ?_
          refine then_n ?_
          have hj : j = (varsZ t.parts).length := by omega
          have hq3 : Term.mk out t.k = Term.mk (((plainT t).parts.filter (keepR (clampN n))).map (movP (clampN n))) t.k := by rw [hI1, hj, List.take_length]; first | done | rfl
          replace h := pubS 8 3 47 (out.map Part.d) [(1, vi .i64 (clampN n)), (2, vp 5 0), (4, vp 6 0), (5, vp 7 0), (6, .t (.c (.d (.sl 1 ((varsZ t.parts).map intD))))), (7, vi .i64 (j : Int)), (20, vb (decide ((j : Int) < ((varsZ t.parts).length : Int))))] [(5, .box ([.d (.sl 3 (t.parts.map Part.d))] ++ zi t.k)), (6, .box [.d (.raw nilV), .d (.raw (.bool false)), .d (nsl [])]), (7, .box ([.d (.sl 3 (out.map Part.d))] ++ zi t.k))] h rfl trivial (show AllEq _ [out.length] from ⟨by first | exact (List.length_map _).symm | simp, trivial⟩) (by kernel_rfl) (by kernel_rfl)
          refine rSeq tp_ok 10 [(1, .call ((show Fn _ _ _ [vd (Term.mk out t.k).d] _ _ from by rw [hq3]; exact SRPlain' _ (mov_ok ht (by omega) (clampN n) _ (fun p hp => (List.mem_filter.1 hp).1) (List.length_filter_le _ _) t.k ht.kb (Nat.le_succ_of_le ht.kl)) (by omega) (by omega))) tp_19)] [(4, vp 6 0)] [(6, .box ([.d (.sl 3 ((plainT (Term.mk (((plainT t).parts.filter (keepR (clampN n))).map (movP (clampN n))) t.k)).parts.map Part.d))] ++ zi (plainT (Term.mk (((plainT t).parts.filter (keepR (clampN n))).map (movP (clampN n))) t.k)).k))] (by kernel_rfl) h ?_; clear h; intro a w h
          refine wp_ret ?_
          refine retS [.agg ([.d (.sl 3 ((plainT (Term.mk (((plainT t).parts.filter (keepR (clampN n))).map (movP (clampN n))) t.k)).parts.map Part.d))] ++ zi (plainT (Term.mk (((plainT t).parts.filter (keepR (clampN n))).map (movP (clampN n))) t.k)).k)] h Exit.ret (.inl rfl)  rfl ⟨RV.agg _ 6 0 _ _ _ _ tp_15 rfl rfl rfl rfl, trivial⟩ ?_ (by kernel_rfl) (by kernel_rfl)
          rw [mov_law t (clampN n) t.k rfl]; first | done | rfl
end Go.Proofs.Ytekhnajfdaknnaa.S
