/-
  The plain one of a term.
-/
import Derived.Test.YtekhnajfdaknnaaTk
import Derived.Test.YtekhnajfdaknnaaStp
namespace Go.Proofs.Ytekhnajfdaknnaa.S
open Go.RowKit

theorem tl_0 : SlT Try.prog 22 47 3 := SlT.mk' Try.underlying22 (by kernel_rfl)
theorem tl_1 : ElZ Try.prog 22 47 3 := ElZ.mk' Try.underlying22 _ _ rfl rfl (by kernel_rfl) (by kernel_rfl) (by kernel_rfl) (by decide)
theorem tl_2 : ElT Try.prog 22 47 3 40 := ElT.mk' Try.underlying22 _ _ rfl rfl (by kernel_rfl) (by kernel_rfl) (by kernel_rfl) (by decide) (by decide)
theorem tl_3 : Bodied Try.prog 29 := Bodied.mk' (by kernel_rfl)
theorem tl_4 : Bodied Try.prog 30 := Bodied.mk' (by kernel_rfl)
theorem tl_5 : Bodied Try.prog 33 := Bodied.mk' (by kernel_rfl)
theorem tl_6 : Sz Try.prog 47 3 true := Sz.mk' (by kernel_rfl) Try.underlying47 _ rfl
theorem tl_7 : Sz Try.prog 3 1 false := Sz.mk' (by kernel_rfl) Try.underlying3 _ rfl
theorem tl_8 : Sz Try.prog 26 2 true := Sz.mk' (by kernel_rfl) Try.underlying26 _ rfl
theorem tl_9 : Bodied Try.prog 34 := Bodied.mk' (by kernel_rfl)
theorem tl_10 : Bodied Try.prog 35 := Bodied.mk' (by kernel_rfl)
theorem tl_11 : Sz Try.prog 28 3 true := Sz.mk' (by kernel_rfl) Try.underlying28 _ rfl
def tl_tb : Tb := [(22, ⟨1, false, [], [.d (.raw nilV)], 1⟩), (4, ⟨1, false, [], [.d (.raw (.bool false))], 3⟩), (24, ⟨1, false, [], [.d (nsl [])], 1⟩), (26, ⟨2, true, [(0, 1, false), (1, 1, false)], [.d (.raw (.bool false)), .d (nsl [])], 0⟩), (28, ⟨3, true, [(0, 1, false), (1, 2, true)], [.d (.raw nilV), .d (.raw (.bool false)), .d (nsl [])], 0⟩), (3, ⟨1, false, [], [.d (.raw (.int .i64 0))], 13⟩), (47, ⟨3, true, [(0, 1, false), (1, 2, true)], [.d (.raw (.int .i64 0)), .d (.raw (.bool false)), .d (nsl [])], 0⟩)]
theorem tl_ok : TbOk Try.prog tl_tb := ⟨TyOk.slc Try.underlying22 (by kernel_rfl) ⟨(.slice none 0 0 : Value), [.slice none 0 0], by kernel_rfl, rfl, (fun _ _ => ⟨DR.raw _ rfl, trivial⟩)⟩,
  TyOk.bl Try.underlying4 (by kernel_rfl) ⟨(.bool false : Value), [.bool false], by kernel_rfl, rfl, (fun _ _ => ⟨DR.raw _ rfl, trivial⟩)⟩,
  TyOk.slc Try.underlying24 (by kernel_rfl) ⟨(.slice none 0 0 : Value), [.slice none 0 0], by kernel_rfl, rfl, (fun _ _ => ⟨DR.nil _ _ _ (fun _ => rfl) (Nat.zero_le _), trivial⟩)⟩,
  TyOk.st Try.underlying26 (by kernel_rfl) ⟨⟨by decide, Fd.mk' _ _ Try.underlying26 rfl rfl (Sz.mk' (by kernel_rfl) Try.underlying4 _ rfl)⟩, ⟨by decide, Fd.mk' _ _ Try.underlying26 rfl rfl (Sz.mk' (by kernel_rfl) Try.underlying24 _ rfl)⟩, trivial⟩ ⟨(Value.agg #[.bool false, .slice none 0 0]), [.bool false, .slice none 0 0], by kernel_rfl, rfl, (fun _ _ => ⟨DR.raw _ rfl, DR.nil _ _ _ (fun _ => rfl) (Nat.zero_le _), trivial⟩)⟩ ⟨_, Try.underlying26, ⟨⟨rfl, by kernel_rfl⟩, ⟨rfl, by kernel_rfl⟩, trivial⟩⟩,
  TyOk.st Try.underlying28 (by kernel_rfl) ⟨⟨by decide, Fd.mk' _ _ Try.underlying28 rfl rfl (Sz.mk' (by kernel_rfl) Try.underlying22 _ rfl)⟩, ⟨by decide, Fd.mk' _ _ Try.underlying28 rfl rfl (Sz.mk' (by kernel_rfl) Try.underlying26 _ rfl)⟩, trivial⟩ ⟨(Value.agg #[.slice none 0 0, .bool false, .slice none 0 0]), [.slice none 0 0, .bool false, .slice none 0 0], by kernel_rfl, rfl, (fun _ _ => ⟨DR.raw _ rfl, DR.raw _ rfl, DR.nil _ _ _ (fun _ => rfl) (Nat.zero_le _), trivial⟩)⟩ ⟨_, Try.underlying28, ⟨⟨rfl, by kernel_rfl⟩, ⟨rfl, by kernel_rfl⟩, trivial⟩⟩,
  TyOk.int Try.underlying3 rfl (by kernel_rfl) ⟨(.int .i64 0 : Value), [.int .i64 0], by kernel_rfl, rfl, (fun _ _ => ⟨DR.raw _ rfl, trivial⟩)⟩,
  TyOk.st Try.underlying47 (by kernel_rfl) ⟨⟨by decide, Fd.mk' _ _ Try.underlying47 rfl rfl (Sz.mk' (by kernel_rfl) Try.underlying3 _ rfl)⟩, ⟨by decide, Fd.mk' _ _ Try.underlying47 rfl rfl (Sz.mk' (by kernel_rfl) Try.underlying26 _ rfl)⟩, trivial⟩ ⟨(Value.agg #[.int .i64 0, .bool false, .slice none 0 0]), [.int .i64 0, .bool false, .slice none 0 0], by kernel_rfl, rfl, (fun _ _ => ⟨DR.raw _ rfl, DR.raw _ rfl, DR.nil _ _ _ (fun _ => rfl) (Nat.zero_le _), trivial⟩)⟩ ⟨_, Try.underlying47, ⟨⟨rfl, by kernel_rfl⟩, ⟨rfl, by kernel_rfl⟩, trivial⟩⟩,
  trivial⟩
set_option maxRecDepth 100000 in
theorem SClone1 (xs : List Part) (hn : 0 < xs.length) (hl : xs.length ≤ 1000000) : Fn Try.prog 29 [] [.t (.c (.d (.sl 3 (xs.map Part.d))))] (.t (.c (.own 0 xs.length))) [(0, .row 47 3 (xs.map Part.d))] := by
  refine Fn.body Try.func29 rfl 8 rfl fun w H B a h => ?_
  refine rSeq tl_ok 1 [] [(0, .t (.c (.d (.sl 3 (xs.map Part.d))))), (2, .t (.c (.d (.raw nilV))))] [] (by kernel_rfl) h ?_; clear h; intro a w h
  refine wp_seq ?_
  refine rSeq tl_ok 1 [(1, .gen _ _ _ fun _ _ _ _ => Op.eqNilD (d := 4) (t := 3) (es := 3) (xt := 22) (yt := 22) (rows := xs.map Part.d) tl_0.hu ((by rw [List.length_map]; exact hn)) (OV.const nilV rfl))] [(0, .t (.c (.d (.sl 3 (xs.map Part.d))))), (2, .t (.c (.d (.raw nilV)))), (4, vb false)] [] (by kernel_rfl) h ?_; clear h; intro a w h
  refine condS false h rfl (fun hc => ?_) (fun hc => ?_)
  · cases hc
  · clear hc
    refine wp_skip ?_
    refine then_n ?_
    refine rSeq tl_ok 1 [(0, .gen _ _ _ fun _ _ _ _ => Op.buildE (d := 5) (n := 1) tl_1), (2, .gen _ _ _ fun _ _ _ _ => Op.appOD (d := 7) (t := 5) (u := 6) (n := 1) (n' := 2) (len := 0) (len' := xs.length) (rows := [].map Part.d) (rows2 := xs.map Part.d) (rows' := xs.map Part.d) tl_2 (by simp) (by simp) (by simp) (by simp [Part.d]) (by first | omega | (simp at *; done) | (simp at *; omega)))] [(2, .t (.c (.own 2 xs.length)))] [(2, .row 47 3 (xs.map Part.d))] (by kernel_rfl) h ?_; clear h; intro a w h
    refine wp_ret ?_
    replace h := renS 2 0 [(2, .t (.c (.own 0 xs.length)))] [(0, .row 47 3 (xs.map Part.d))] h (by kernel_rfl) (by kernel_rfl) (by kernel_rfl)
    refine retS [.c (.own 0 xs.length)] h Exit.ret (.inl rfl)  rfl ⟨RV.tmp _ _ rfl, trivial⟩ ?_ (by kernel_rfl) (by kernel_rfl)
    rfl
set_option maxRecDepth 100000 in
theorem SClone2  : Fn Try.prog 29 [] [.t (.c (.d (.raw nilV)))] (.t (.c (.own 0 0))) [(0, .row 47 3 ([].map Part.d))] := by
  refine Fn.body Try.func29 rfl 8 rfl fun w H B a h => ?_
  refine rSeq tl_ok 1 [] [(0, .t (.c (.d (.raw nilV)))), (2, .t (.c (.d (.raw nilV))))] [] (by kernel_rfl) h ?_; clear h; intro a w h
  refine wp_seq ?_
  refine rSeq tl_ok 1 [(1, .gen _ _ _ fun _ _ _ _ => Op.eqNilR (d := 4) (xt := 22) (yt := 22) (ao := none) (n := 0) (c := 0) tl_0.hu (OV.tmp 3 _) (OV.const nilV rfl))] [(0, .t (.c (.d (.raw nilV)))), (2, .t (.c (.d (.raw nilV)))), (4, vb true)] [] (by kernel_rfl) h ?_; clear h; intro a w h
  refine condS true h rfl (fun hc => ?_) (fun hc => ?_)
  · clear hc
    refine rSeq tl_ok 1 [] [(0, .t (.c (.d (.raw nilV)))), (2, .t (.c (.d (.raw nilV))))] [] (by kernel_rfl) h ?_; clear h; intro a w h
    refine wp_ret ?_
    refine then_r ?_
    replace h := nilOSs 2 0 1 3 47 (.t (.c (.d (.raw nilV)))) [(0, .t (.c (.d (.raw nilV)))), (2, .t (.c (.own 1 0)))] [(1, .row 47 3 ([].map Part.d))] h (by kernel_rfl) rfl rfl (by kernel_rfl) (by kernel_rfl)
    replace h := renS 1 0 [(0, .t (.c (.d (.raw nilV)))), (2, .t (.c (.own 0 0)))] [(0, .row 47 3 ([].map Part.d))] h (by kernel_rfl) (by kernel_rfl) (by kernel_rfl)
    refine retS [.c (.own 0 0)] h Exit.ret (.inl rfl)  rfl ⟨RV.tmp _ _ rfl, trivial⟩ ?_ (by kernel_rfl) (by kernel_rfl)
    rfl
  · cases hc
set_option maxRecDepth 100000 in
theorem SClone3 (ao : Addr) (c : Nat) (hc : c ≤ maxLen) : Fn Try.prog 29 [] [.t (.c (.d (.raw (.slice (some ao) 0 c))))] (.t (.c (.own 0 0))) [(0, .row 47 3 ([].map Part.d))] := by
  refine Fn.body Try.func29 rfl 8 rfl fun w H B a h => ?_
  refine rSeq tl_ok 1 [] [(0, .t (.c (.d (.raw (.slice (some ao) 0 c))))), (2, .t (.c (.d (.raw nilV))))] [] (by kernel_rfl) h ?_; clear h; intro a w h
  refine wp_seq ?_
  refine rSeq tl_ok 1 [(1, .gen _ _ _ fun _ _ _ _ => Op.eqNilR (d := 4) (xt := 22) (yt := 22) (ao := some ao) (n := 0) (c := c) tl_0.hu (OV.tmp 3 _) (OV.const nilV rfl))] [(0, .t (.c (.d (.raw (.slice (some ao) 0 c))))), (2, .t (.c (.d (.raw nilV)))), (4, vb false)] [] (by kernel_rfl) h ?_; clear h; intro a w h
  refine condS false h rfl (fun hc => ?_) (fun hc => ?_)
  · cases hc
  · clear hc
    refine wp_skip ?_
    refine then_n ?_
    replace h := nilDSr 0 0 3 (.t (.c (.d (.raw (.slice (some ao) 0 c))))) (some ao) c (fun e => by cases e) hc [(0, .t (.c (.d (.sl 3 ([].map Part.d))))), (2, .t (.c (.d (.raw nilV)))), (4, vb false)] [] h rfl rfl (by kernel_rfl) (by kernel_rfl)
    refine rSeq tl_ok 1 [(0, .gen _ _ _ fun _ _ _ _ => Op.buildE (d := 5) (n := 1) tl_1), (2, .gen _ _ _ fun _ _ _ _ => Op.appOD (d := 7) (t := 5) (u := 6) (n := 1) (n' := 2) (len := 0) (len' := 0) (rows := [].map Part.d) (rows2 := [].map Part.d) (rows' := [].map Part.d) tl_2 (by simp) (by simp) (by simp) (by simp [Part.d]) (by first | omega | (simp at *; done) | (simp at *; omega)))] [(2, .t (.c (.own 2 0)))] [(2, .row 47 3 ([].map Part.d))] (by kernel_rfl) h ?_; clear h; intro a w h
    refine wp_ret ?_
    replace h := renS 2 0 [(2, .t (.c (.own 0 0)))] [(0, .row 47 3 ([].map Part.d))] h (by kernel_rfl) (by kernel_rfl) (by kernel_rfl)
    refine retS [.c (.own 0 0)] h Exit.ret (.inl rfl)  rfl ⟨RV.tmp _ _ rfl, trivial⟩ ?_ (by kernel_rfl) (by kernel_rfl)
    rfl
theorem SClone (xs : List Part) (hl : xs.length ≤ 1000000) : Fn Try.prog 29 [] [.t (.c (.d (.sl 3 (xs.map Part.d))))] (.t (.c (.own 0 xs.length))) [(0, .row 47 3 (xs.map Part.d))] := by
  cases xs with
  | nil =>
    refine Fn.rawE fun ao c h1 h2 => ?_
    cases ao with
    | none => obtain rfl := h1 rfl; exact SClone2
    | some ao => exact SClone3 ao c h2
  | cons x xs => exact SClone1 (x :: xs) (by simp) hl
theorem ssV_mem {xs : List Part} {p : Part} (h : p ∈ ssV Part.v xs) : p ∈ xs := (ssV_stb xs).mem h
theorem PsOk.get_mem {L : Nat} {ps : List Part} (h : PsOk L ps) {p : Part} (hp : p ∈ ps) : Lb p.c.abs ∧ p.c.abs.length ≤ L := h.2 p hp
set_option maxRecDepth 100000 in
theorem SPlain0 (t : Term) (ht : PsOk 40000 t.parts) (hk : Lb t.k.abs) (lk : t.k.abs.length ≤ 40000) : Fn Try.prog 8 [] [.t (.agg ([.d (.sl 3 (t.parts.map Part.d))] ++ zi t.k))] (vd (plainT t).d) [] := by
  have ln := ht.1
  refine Fn.body Try.func8 rfl 74 rfl fun w H B a h => ?_
  refine rSeq tl_ok 5 [] [(1, vp 5 0), (2, vp 6 0)] [(5, .box ([.d (.sl 3 (t.parts.map Part.d))] ++ zi t.k)), (6, .box [.d (.raw nilV), .d (.raw (.bool false)), .d (nsl [])])] (by kernel_rfl) h ?_; clear h; intro a w h
  refine rSeq tl_ok 7 [(2, .call (SClone t.parts (by omega)) tl_3)] [(1, vp 5 0), (2, vp 6 0), (3, .t (.c (.own 0 t.parts.length)))] [(5, .box ([.d (.sl 3 (t.parts.map Part.d))] ++ zi t.k)), (6, .box [.d (.raw nilV), .d (.raw (.bool false)), .d (nsl [])]), (0, .row 47 3 (t.parts.map Part.d))] (by kernel_rfl) h ?_; clear h; intro a w h
  refine rSeq tl_ok 7 [(1, .call (SSortStable t.parts (by omega)) tl_4)] [(1, vp 5 0), (2, vp 6 0), (3, .t (.c (.own 0 t.parts.length)))] [(5, .box ([.d (.sl 3 (t.parts.map Part.d))] ++ zi t.k)), (6, .box [.d (.raw nilV), .d (.raw (.bool false)), .d (nsl [])]), (0, .row 47 3 ((ssV Part.v t.parts).map Part.d))] (by kernel_rfl) h ?_; clear h; intro a w h
  obtain ⟨r3, er3, vr3, or3, lr3⟩ := mkZ (v := t.k.val) (m := t.k.abs.length) (len_id hk)
  refine rSeq tl_ok 7 [(2, .call (Fn.cast (Scopied t.k hk (by omega)) (congrArg vz er3.symm)) tl_5)] [(2, vp 6 0), (3, .t (.c (.own 0 t.parts.length))), (4, vp 7 0)] [(6, .box [.d (.raw nilV), .d (.raw (.bool false)), .d (nsl [])]), (0, .row 47 3 ((ssV Part.v t.parts).map Part.d)), (7, .box ([.d (.raw nilV)] ++ zi r3))] (by kernel_rfl) h ?_; clear h; intro a w h
  refine wp_seq ?_
  replace h := nilOLs 7 0 8 3 47 ([.d (.raw nilV)] ++ zi r3) [(2, vp 6 0), (3, .t (.c (.own 0 t.parts.length))), (4, vp 7 0)] [(6, .box [.d (.raw nilV), .d (.raw (.bool false)), .d (nsl [])]), (0, .row 47 3 ((ssV Part.v t.parts).map Part.d)), (7, .box ([.own 8 0] ++ zi r3)), (8, .row 47 3 ([].map Part.d))] h (by kernel_rfl) rfl rfl (by kernel_rfl) (by kernel_rfl)
  refine rSeq tl_ok 9 [] [(2, vp 6 0), (4, vp 7 0), (17, .t (.c (.own 0 t.parts.length))), (18, vi .i64 (t.parts.length : Int)), (19, vi .i64 0)] [(6, .box [.d (.raw nilV), .d (.raw (.bool false)), .d (nsl [])]), (0, .row 47 3 ((ssV Part.v t.parts).map Part.d)), (7, .box ([.own 8 0] ++ zi r3)), (8, .row 47 3 ([].map Part.d))] (by kernel_rfl) h ?_; clear h; intro a w h
  refine wp_block ?_
  refine loopS (ι := (Nat) × (List Part)) (fun (z_ : (Nat) × (List Part)) => match z_ with | (j, out) => out = (mrgZ ((ssV Part.v t.parts).take j)) ∧ j ≤ (ssV Part.v t.parts).length ∧ out.length ≤ j ∧ MOk 40000 j out)
      (fun (z_ : (Nat) × (List Part)) => match z_ with | (j, out) => [(2, vp 6 0), (4, vp 7 0), (17, .t (.c (.own 0 t.parts.length))), (18, vi .i64 (t.parts.length : Int)), (19, vi .i64 (j : Int))])
      (fun (z_ : (Nat) × (List Part)) => match z_ with | (j, out) => [(6, .box [.d (.raw nilV), .d (.raw (.bool false)), .d (nsl [])]), (0, .row 47 3 ((ssV Part.v t.parts).map Part.d)), (7, .box ([.own 8 out.length] ++ zi r3)), (8, .row 47 3 (out.map Part.d))])
      (fun (z_ : (Nat) × (List Part)) => match z_ with | (j, out) => (ssV Part.v t.parts).length - j) (0, []) ?_ h (by kernel_rfl) (by kernel_rfl) ?_
  · exact ⟨by simp [mrgZ], Nat.zero_le _, Nat.zero_le _, fun q hq => (by cases hq)⟩
  · clear h; rintro ⟨j, out⟩ a w hI h
    change St _ (F.of [(2, vp 6 0), (4, vp 7 0), (17, .t (.c (.own 0 t.parts.length))), (18, vi .i64 (t.parts.length : Int)), (19, vi .i64 (j : Int))] [(6, .box [.d (.raw nilV), .d (.raw (.bool false)), .d (nsl [])]), (0, .row 47 3 ((ssV Part.v t.parts).map Part.d)), (7, .box ([.own 8 out.length] ++ zi r3)), (8, .row 47 3 (out.map Part.d))]) a w at h
    obtain ⟨hI1, hI2, hI3, hI4⟩ := hI
    have ln := ht.1
    have ls : (ssV Part.v t.parts).length = t.parts.length := ssV_len _
    refine rSeq tl_ok 9 [] [(2, vp 6 0), (4, vp 7 0), (17, .t (.c (.own 0 t.parts.length))), (18, vi .i64 (t.parts.length : Int)), (19, vi .i64 (j : Int)), (20, vb (decide ((j : Int) < (t.parts.length : Int))))] [(6, .box [.d (.raw nilV), .d (.raw (.bool false)), .d (nsl [])]), (0, .row 47 3 ((ssV Part.v t.parts).map Part.d)), (7, .box ([.own 8 out.length] ++ zi r3)), (8, .row 47 3 (out.map Part.d))] (by kernel_rfl) h ?_; clear h; intro a w h
    refine wp_seq ?_
    refine condS (decide ((j : Int) < (t.parts.length : Int))) h rfl (fun hc => ?_) (fun hc => ?_)
    · have hc1 := hc; clear hc
      have hc1' := of_decide_eq_true hc1
      refine wp_skip ?_
      refine then_n ?_
      refine wp_seq ?_
      refine wp_block ?_
      obtain ⟨x4, hx4⟩ : ∃ z_ : Part, (ssV Part.v t.parts)[j]? = some z_ := ⟨_, List.getElem?_eq_getElem (by first | omega | (simp at *; omega))⟩
      obtain ⟨ox4, lx4⟩ := ht.get_mem (ssV_mem (List.mem_of_getElem? hx4))
      refine rSeq tl_ok 9 [(0, .gen _ _ _ fun _ _ _ _ => Op.idxO (d := 21) (t := 17) (k := .i64) (n := 0) (len := t.parts.length) (i := j) tl_0 (by first | omega | (simp at *; omega)) (OV.tmp 19 _)), (1, .gen _ _ _ fun _ _ _ _ => Op.loadR_agg (d := 22) (t := 21) (n := 0) (i := j) (fo := 0) (rty := 47) (es := 3) (xs := [.raw (.int .i64 x4.v), .raw (.bool x4.c.neg), nsl x4.c.abs]) tl_6 rfl (map_at hx4 (f := Part.d)) rfl rfl)] [(2, vp 6 0), (4, vp 7 0), (6, vp 9 0), (17, .t (.c (.own 0 t.parts.length))), (18, vi .i64 (t.parts.length : Int)), (19, vi .i64 (j : Int))] [(6, .box [.d (.raw nilV), .d (.raw (.bool false)), .d (nsl [])]), (0, .row 47 3 ((ssV Part.v t.parts).map Part.d)), (7, .box ([.own 8 out.length] ++ zi r3)), (8, .row 47 3 (out.map Part.d)), (9, .box ([.d (.raw (.int .i64 x4.v))] ++ zi x4.c))] (by kernel_rfl) h ?_; clear h; intro a w h
      refine wp_seq ?_
      refine rSeq tl_ok 10 [] [(2, vp 6 0), (4, vp 7 0), (6, vp 9 0), (17, .t (.c (.own 0 t.parts.length))), (18, vi .i64 (t.parts.length : Int)), (19, vi .i64 (j : Int)), (25, vb (decide (x4.v < 0)))] [(6, .box [.d (.raw nilV), .d (.raw (.bool false)), .d (nsl [])]), (0, .row 47 3 ((ssV Part.v t.parts).map Part.d)), (7, .box ([.own 8 out.length] ++ zi r3)), (8, .row 47 3 (out.map Part.d)), (9, .box ([.d (.raw (.int .i64 x4.v))] ++ zi x4.c))] (by kernel_rfl) h ?_; clear h; intro a w h
      refine condS (decide (x4.v < 0)) h rfl (fun hc => ?_) (fun hc => ?_)
      · have hc2 := hc; clear hc
        have hc2' := of_decide_eq_true hc2
        refine wp_exit ?_
        refine then_x ?_
        refine inBlock_exit ?_
        refine then_n ?_
        refine rS tl_ok 10 [(0, .add .i64 (m := (j : Int)) (n := 1) (i64_id (by omega) (by omega)))] [(2, vp 6 0), (4, vp 7 0), (17, .t (.c (.own 0 t.parts.length))), (18, vi .i64 (t.parts.length : Int)), (19, vi .i64 ((j : Int) + 1))] [(6, .box [.d (.raw nilV), .d (.raw (.bool false)), .d (nsl [])]), (0, .row 47 3 ((ssV Part.v t.parts).map Part.d)), (7, .box ([.own 8 out.length] ++ zi r3)), (8, .row 47 3 (out.map Part.d))] (by kernel_rfl) h ?_; clear h; intro a w h
        refine then_n ?_
        have hst : (mrgZ ((ssV Part.v t.parts).take (j + 1))) = mrgStep out x4 := by rw [hI1, show ((ssV Part.v t.parts).take (j + 1) : List Part) = (ssV Part.v t.parts).take j ++ [x4] from by rw [List.take_add_one, hx4]; rfl, mrgZ_snoc]
        have hst2 := mrg_neg (out := out) hc2'
        refine roundS (x := (j, out)) (y := ((j + 1), out)) h ?_ ?_ (by kernel_rfl) (by kernel_rfl)
        · exact ⟨by rw [hst, hst2], (by have := at_lt hx4; omega), by omega, by have hh := hI4.step (ht.get_mem (ssV_mem (List.mem_of_getElem? hx4))); rw [hst2] at hh; exact hh⟩
        · show (ssV Part.v t.parts).length - (j + 1) < (ssV Part.v t.parts).length - j
          have := at_lt hx4; omega
      · have hc3 := hc; clear hc
        have hc3' := of_decide_eq_false hc3
        refine wp_skip ?_
        refine then_n ?_
        rcases Nat.eq_zero_or_pos out.length with hz | hz
        · refine rSeq tl_ok 10 [(3, .gen _ _ _ fun _ _ _ _ => Op.arith (op := .sub) (d := 29) (xt := 3) (yt := 3) (k := .i64) (m := (out.length : Int)) (n := 1) (r := (-1)) (OV.tmp 28 _) (OV.const (.int .i64 1) rfl) (.inr (.inl ⟨rfl, (by omega)⟩)) (i64_id (by omega) (by omega)))] [(2, vp 6 0), (4, vp 7 0), (6, vp 9 0), (7, vi .i64 (-1)), (17, .t (.c (.own 0 t.parts.length))), (18, vi .i64 (t.parts.length : Int)), (19, vi .i64 (j : Int))] [(6, .box [.d (.raw nilV), .d (.raw (.bool false)), .d (nsl [])]), (0, .row 47 3 ((ssV Part.v t.parts).map Part.d)), (7, .box ([.own 8 out.length] ++ zi r3)), (8, .row 47 3 (out.map Part.d)), (9, .box ([.d (.raw (.int .i64 x4.v))] ++ zi x4.c))] (by kernel_rfl) h ?_; clear h; intro a w h
          refine rSeq tl_ok 10 [(1, .cmp (op := .geq) (m := (-1)) (n := 0) (b := false) .i64 rfl)] [(2, vp 6 0), (4, vp 7 0), (6, vp 9 0), (7, vi .i64 (-1)), (17, .t (.c (.own 0 t.parts.length))), (18, vi .i64 (t.parts.length : Int)), (19, vi .i64 (j : Int)), (42, vb false)] [(6, .box [.d (.raw nilV), .d (.raw (.bool false)), .d (nsl [])]), (0, .row 47 3 ((ssV Part.v t.parts).map Part.d)), (7, .box ([.own 8 out.length] ++ zi r3)), (8, .row 47 3 (out.map Part.d)), (9, .box ([.d (.raw (.int .i64 x4.v))] ++ zi x4.c))] (by kernel_rfl) h ?_; clear h; intro a w h
          refine condS false h rfl (fun hc => ?_) (fun hc => ?_)
          · cases hc
          · clear hc
            obtain ⟨r5, er5, vr5, or5, lr5⟩ := mkZ (v := x4.c.val) (m := x4.c.abs.length) (len_id ox4)
            refine rS tl_ok 10 [(6, .call (Fn.cast (Scopied x4.c ox4 (by omega)) (congrArg vz er5.symm)) tl_5), (8, .gen _ _ _ fun _ _ _ _ => Op.buildD (d := 65) (len := 1) (rows := [(Part.mk x4.v r5)].map Part.d) (rs := [(64, .t (.agg ([.d (.raw (.int .i64 x4.v))] ++ zi r5)))]) tl_1 (.cons (i := 0) (OV.tmp 64 _) (.nil)) (by kernel_rfl) rfl (by simp [Part.d]) (by decide) (by decide)), (9, .gen _ _ _ fun _ _ _ _ => Op.appOD (d := 66) (t := 58) (u := 65) (n := 8) (n' := 10) (len := out.length) (len' := (out ++ [(Part.mk x4.v r5)]).length) (rows := out.map Part.d) (rows2 := [(Part.mk x4.v r5)].map Part.d) (rows' := (out ++ [(Part.mk x4.v r5)]).map Part.d) tl_2 (by simp) (by simp) (by simp) (by simp [Part.d]) (by first | omega | (simp at *; done) | (simp at *; omega)))] [(2, vp 6 0), (4, vp 7 0), (17, .t (.c (.own 0 t.parts.length))), (18, vi .i64 (t.parts.length : Int)), (19, vi .i64 (j : Int))] [(6, .box [.d (.raw nilV), .d (.raw (.bool false)), .d (nsl [])]), (0, .row 47 3 ((ssV Part.v t.parts).map Part.d)), (7, .box ([.own 10 (out ++ [(Part.mk x4.v r5)]).length] ++ zi r3)), (10, .row 47 3 ((out ++ [(Part.mk x4.v r5)]).map Part.d))] (by kernel_rfl) h ?_; clear h; intro a w h
            refine block_n ?_
            refine then_n ?_
            refine rS tl_ok 11 [(0, .add .i64 (m := (j : Int)) (n := 1) (i64_id (by omega) (by omega)))] [(2, vp 6 0), (4, vp 7 0), (17, .t (.c (.own 0 t.parts.length))), (18, vi .i64 (t.parts.length : Int)), (19, vi .i64 ((j : Int) + 1))] [(6, .box [.d (.raw nilV), .d (.raw (.bool false)), .d (nsl [])]), (0, .row 47 3 ((ssV Part.v t.parts).map Part.d)), (7, .box ([.own 10 (out ++ [(Part.mk x4.v r5)]).length] ++ zi r3)), (10, .row 47 3 ((out ++ [(Part.mk x4.v r5)]).map Part.d))] (by kernel_rfl) h ?_; clear h; intro a w h
            refine then_n ?_
            have hst : (mrgZ ((ssV Part.v t.parts).take (j + 1))) = mrgStep out x4 := by rw [hI1, show ((ssV Part.v t.parts).take (j + 1) : List Part) = (ssV Part.v t.parts).take j ++ [x4] from by rw [List.take_add_one, hx4]; rfl, mrgZ_snoc]
            have hst2 := mrg_nil hc3' hz
            replace h := renS 10 8 [(2, vp 6 0), (4, vp 7 0), (17, .t (.c (.own 0 t.parts.length))), (18, vi .i64 (t.parts.length : Int)), (19, vi .i64 ((j : Int) + 1))] [(6, .box [.d (.raw nilV), .d (.raw (.bool false)), .d (nsl [])]), (0, .row 47 3 ((ssV Part.v t.parts).map Part.d)), (7, .box ([.own 8 (out ++ [(Part.mk x4.v r5)]).length] ++ zi r3)), (8, .row 47 3 ((out ++ [(Part.mk x4.v r5)]).map Part.d))] h (by kernel_rfl) (by kernel_rfl) (by kernel_rfl)
            refine roundS (x := (j, out)) (y := ((j + 1), (out ++ [(Part.mk x4.v r5)]))) h ?_ ?_ (by kernel_rfl) (by kernel_rfl)
            · have hnew : (out ++ [(Part.mk x4.v r5)]) = mrgStep out x4 := by rw [hst2, er5]
              exact ⟨by rw [hst]; exact hnew, (by have := at_lt hx4; omega), by rw [List.length_append]; simp only [List.length_cons, List.length_nil]; omega, by rw [hnew]; exact hI4.step (ht.get_mem (ssV_mem (List.mem_of_getElem? hx4)))⟩
            · show (ssV Part.v t.parts).length - (j + 1) < (ssV Part.v t.parts).length - j
              have := at_lt hx4; omega
        · obtain ⟨k, hk1⟩ : ∃ k, out.length = k + 1 := ⟨out.length - 1, by omega⟩
          refine rSeq tl_ok 11 [(3, .gen _ _ _ fun _ _ _ _ => Op.arith (op := .sub) (d := 29) (xt := 3) (yt := 3) (k := .i64) (m := (out.length : Int)) (n := 1) (r := (k : Int)) (OV.tmp 28 _) (OV.const (.int .i64 1) rfl) (.inr (.inl ⟨rfl, (by omega)⟩)) (i64_id (by omega) (by omega)))] [(2, vp 6 0), (4, vp 7 0), (6, vp 9 0), (7, vi .i64 (k : Int)), (17, .t (.c (.own 0 t.parts.length))), (18, vi .i64 (t.parts.length : Int)), (19, vi .i64 (j : Int))] [(6, .box [.d (.raw nilV), .d (.raw (.bool false)), .d (nsl [])]), (0, .row 47 3 ((ssV Part.v t.parts).map Part.d)), (7, .box ([.own 8 out.length] ++ zi r3)), (8, .row 47 3 (out.map Part.d)), (9, .box ([.d (.raw (.int .i64 x4.v))] ++ zi x4.c))] (by kernel_rfl) h ?_; clear h; intro a w h
          obtain ⟨x6, hx6⟩ : ∃ z_ : Part, out[k]? = some z_ := ⟨_, List.getElem?_eq_getElem (by first | omega | (simp at *; omega))⟩
          obtain ⟨ox6, lx6⟩ := hI4.lb (List.mem_of_getElem? hx6) (by omega)
          refine rSeq tl_ok 11 [(1, .cmp (op := .geq) (m := (k : Int)) (n := 0) (b := true) .i64 (show decide ((k : Int) ≥ 0) = true from decide_eq_true (by omega))), (6, .gen _ _ _ fun _ _ _ _ => Op.idxO (d := 36) (t := 34) (k := .i64) (n := 8) (len := out.length) (i := k) tl_0 (by first | omega | (simp at *; omega)) (OV.tmp 35 _)), (8, .gen _ _ _ fun _ _ _ _ => Op.loadR_c (d := 38) (t := 37) (n := 8) (i := k) (fo := 0) (rty := 47) (es := 3) (x := (.raw (.int .i64 x6.v))) tl_7 rfl (map_at hx6 (f := Part.d)) rfl)] [(2, vp 6 0), (4, vp 7 0), (6, vp 9 0), (7, vi .i64 (k : Int)), (17, .t (.c (.own 0 t.parts.length))), (18, vi .i64 (t.parts.length : Int)), (19, vi .i64 (j : Int)), (42, vb (x6.v == x4.v))] [(6, .box [.d (.raw nilV), .d (.raw (.bool false)), .d (nsl [])]), (0, .row 47 3 ((ssV Part.v t.parts).map Part.d)), (7, .box ([.own 8 out.length] ++ zi r3)), (8, .row 47 3 (out.map Part.d)), (9, .box ([.d (.raw (.int .i64 x4.v))] ++ zi x4.c))] (by kernel_rfl) h ?_; clear h; intro a w h
          refine condS (x6.v == x4.v) h rfl (fun hc => ?_) (fun hc => ?_)
          · have hc4 := hc; clear hc
            have hc4' := hc4; (try simp at hc4')
            obtain ⟨r7, er7, vr7, or7, lr7⟩ := mkZ (v := x6.c.val + x4.c.val) (m := x6.c.abs.length + x4.c.abs.length + 1) (len_add ox6 ox4)
            refine rS tl_ok 11 [(6, .gen _ _ _ fun _ _ _ _ => Op.idxO (d := 49) (t := 47) (k := .i64) (n := 8) (len := out.length) (i := k) tl_0 (by first | omega | (simp at *; omega)) (OV.tmp 48 _)), (8, .gen _ _ _ fun _ _ _ _ => Op.loadR_agg (d := 51) (t := 50) (n := 8) (i := k) (fo := 1) (rty := 47) (es := 3) (xs := [.raw (.bool x6.c.neg), nsl x6.c.abs]) tl_8 rfl (map_at hx6 (f := Part.d)) rfl rfl), (11, .call (Fn.cast (SAdd x6.c x4.c ox6 ox4 (by omega) (by omega)) (congrArg vz er7.symm)) tl_9), (12, .gen _ _ _ fun _ _ _ _ => Op.idxO (d := 55) (t := 44) (k := .i64) (n := 8) (len := out.length) (i := k) tl_0 (by first | omega | (simp at *; omega)) (OV.tmp 45 _)), (14, .gen _ _ _ fun _ _ _ _ => Op.storeR (t := 56) (n := 8) (i := k) (fo := 1) (rty := 47) (es := 3) (r := Part.d x6) (ds := [.raw (.bool r7.neg), nsl r7.abs]) (rs := [(54, vz r7)]) (rows := out.map Part.d) (rows' := (out.set k (Part.mk x6.v r7)).map Part.d) tl_8 (OV.tmp 54 _) rfl rfl rfl (map_at hx6 (f := Part.d)) (by simp [Part.d]) (set_map (xs := out) (F := Part.d) k _ _ rfl))] [(2, vp 6 0), (4, vp 7 0), (17, .t (.c (.own 0 t.parts.length))), (18, vi .i64 (t.parts.length : Int)), (19, vi .i64 (j : Int))] [(6, .box [.d (.raw nilV), .d (.raw (.bool false)), .d (nsl [])]), (0, .row 47 3 ((ssV Part.v t.parts).map Part.d)), (7, .box ([.own 8 out.length] ++ zi r3)), (8, .row 47 3 ((out.set k (Part.mk x6.v r7)).map Part.d))] (by kernel_rfl) h ?_; clear h; intro a w h
            refine block_n ?_
            refine then_n ?_
            refine rS tl_ok 11 [(0, .add .i64 (m := (j : Int)) (n := 1) (i64_id (by omega) (by omega)))] [(2, vp 6 0), (4, vp 7 0), (17, .t (.c (.own 0 t.parts.length))), (18, vi .i64 (t.parts.length : Int)), (19, vi .i64 ((j : Int) + 1))] [(6, .box [.d (.raw nilV), .d (.raw (.bool false)), .d (nsl [])]), (0, .row 47 3 ((ssV Part.v t.parts).map Part.d)), (7, .box ([.own 8 out.length] ++ zi r3)), (8, .row 47 3 ((out.set k (Part.mk x6.v r7)).map Part.d))] (by kernel_rfl) h ?_; clear h; intro a w h
            refine then_n ?_
            have hst : (mrgZ ((ssV Part.v t.parts).take (j + 1))) = mrgStep out x4 := by rw [hI1, show ((ssV Part.v t.parts).take (j + 1) : List Part) = (ssV Part.v t.parts).take j ++ [x4] from by rw [List.take_add_one, hx4]; rfl, mrgZ_snoc]
            replace h := h.conv (f' := F.of [(2, vp 6 0), (4, vp 7 0), (17, .t (.c (.own 0 t.parts.length))), (18, vi .i64 (t.parts.length : Int)), (19, vi .i64 ((j : Int) + 1))] [(6, .box [.d (.raw nilV), .d (.raw (.bool false)), .d (nsl [])]), (0, .row 47 3 ((ssV Part.v t.parts).map Part.d)), (7, .box ([.own 8 (out.set k (Part.mk x6.v r7)).length] ++ zi r3)), (8, .row 47 3 ((out.set k (Part.mk x6.v r7)).map Part.d))]) (by rw [List.length_set])
            have hst2 := mrg_same hc3' hk1 hx6 (by simpa using hc4)
            refine roundS (x := (j, out)) (y := ((j + 1), (out.set k (Part.mk x6.v r7)))) h ?_ ?_ (by kernel_rfl) (by kernel_rfl)
            · have hnew : (out.set k (Part.mk x6.v r7)) = mrgStep out x4 := by rw [hst2, er7]
              exact ⟨by rw [hst]; exact hnew, (by have := at_lt hx4; omega), by rw [List.length_set]; omega, by rw [hnew]; exact hI4.step (ht.get_mem (ssV_mem (List.mem_of_getElem? hx4)))⟩
            · show (ssV Part.v t.parts).length - (j + 1) < (ssV Part.v t.parts).length - j
              have := at_lt hx4; omega
          · have hc5 := hc; clear hc
            have hc5' := hc5; (try simp at hc5')
            obtain ⟨r8, er8, vr8, or8, lr8⟩ := mkZ (v := x4.c.val) (m := x4.c.abs.length) (len_id ox4)
            refine rS tl_ok 11 [(6, .call (Fn.cast (Scopied x4.c ox4 (by omega)) (congrArg vz er8.symm)) tl_5), (8, .gen _ _ _ fun _ _ _ _ => Op.buildD (d := 65) (len := 1) (rows := [(Part.mk x4.v r8)].map Part.d) (rs := [(64, .t (.agg ([.d (.raw (.int .i64 x4.v))] ++ zi r8)))]) tl_1 (.cons (i := 0) (OV.tmp 64 _) (.nil)) (by kernel_rfl) rfl (by simp [Part.d]) (by decide) (by decide)), (9, .gen _ _ _ fun _ _ _ _ => Op.appOD (d := 66) (t := 58) (u := 65) (n := 8) (n' := 11) (len := out.length) (len' := (out ++ [(Part.mk x4.v r8)]).length) (rows := out.map Part.d) (rows2 := [(Part.mk x4.v r8)].map Part.d) (rows' := (out ++ [(Part.mk x4.v r8)]).map Part.d) tl_2 (by simp) (by simp) (by simp) (by simp [Part.d]) (by first | omega | (simp at *; done) | (simp at *; omega)))] [(2, vp 6 0), (4, vp 7 0), (17, .t (.c (.own 0 t.parts.length))), (18, vi .i64 (t.parts.length : Int)), (19, vi .i64 (j : Int))] [(6, .box [.d (.raw nilV), .d (.raw (.bool false)), .d (nsl [])]), (0, .row 47 3 ((ssV Part.v t.parts).map Part.d)), (7, .box ([.own 11 (out ++ [(Part.mk x4.v r8)]).length] ++ zi r3)), (11, .row 47 3 ((out ++ [(Part.mk x4.v r8)]).map Part.d))] (by kernel_rfl) h ?_; clear h; intro a w h
            refine block_n ?_
            refine then_n ?_
            refine rS tl_ok 12 [(0, .add .i64 (m := (j : Int)) (n := 1) (i64_id (by omega) (by omega)))] [(2, vp 6 0), (4, vp 7 0), (17, .t (.c (.own 0 t.parts.length))), (18, vi .i64 (t.parts.length : Int)), (19, vi .i64 ((j : Int) + 1))] [(6, .box [.d (.raw nilV), .d (.raw (.bool false)), .d (nsl [])]), (0, .row 47 3 ((ssV Part.v t.parts).map Part.d)), (7, .box ([.own 11 (out ++ [(Part.mk x4.v r8)]).length] ++ zi r3)), (11, .row 47 3 ((out ++ [(Part.mk x4.v r8)]).map Part.d))] (by kernel_rfl) h ?_; clear h; intro a w h
            refine then_n ?_
            have hst : (mrgZ ((ssV Part.v t.parts).take (j + 1))) = mrgStep out x4 := by rw [hI1, show ((ssV Part.v t.parts).take (j + 1) : List Part) = (ssV Part.v t.parts).take j ++ [x4] from by rw [List.take_add_one, hx4]; rfl, mrgZ_snoc]
            have hst2 := mrg_new hc3' hk1 hx6 (by simpa using hc5)
            replace h := renS 11 8 [(2, vp 6 0), (4, vp 7 0), (17, .t (.c (.own 0 t.parts.length))), (18, vi .i64 (t.parts.length : Int)), (19, vi .i64 ((j : Int) + 1))] [(6, .box [.d (.raw nilV), .d (.raw (.bool false)), .d (nsl [])]), (0, .row 47 3 ((ssV Part.v t.parts).map Part.d)), (7, .box ([.own 8 (out ++ [(Part.mk x4.v r8)]).length] ++ zi r3)), (8, .row 47 3 ((out ++ [(Part.mk x4.v r8)]).map Part.d))] h (by kernel_rfl) (by kernel_rfl) (by kernel_rfl)
            refine roundS (x := (j, out)) (y := ((j + 1), (out ++ [(Part.mk x4.v r8)]))) h ?_ ?_ (by kernel_rfl) (by kernel_rfl)
            · have hnew : (out ++ [(Part.mk x4.v r8)]) = mrgStep out x4 := by rw [hst2, er8]
              exact ⟨by rw [hst]; exact hnew, (by have := at_lt hx4; omega), by rw [List.length_append]; simp only [List.length_cons, List.length_nil]; omega, by rw [hnew]; exact hI4.step (ht.get_mem (ssV_mem (List.mem_of_getElem? hx4)))⟩
            · show (ssV Part.v t.parts).length - (j + 1) < (ssV Part.v t.parts).length - j
              have := at_lt hx4; omega
    · have hc6 := hc; clear hc
      have hc6' := of_decide_eq_false hc6
      refine wp_exit ?_
      refine then_x ?_
      refine then_x ?_
      refine inBlock_exit ?_
      refine then_n ?_
      replace h := atS (sl' := [(2, vp 6 0), (4, vp 7 0)]) (lc' := [(6, .box [.d (.raw nilV), .d (.raw (.bool false)), .d (nsl [])]), (7, .box ([.own 8 out.length] ++ zi r3)), (8, .row 47 3 (out.map Part.d))]) h (by kernel_rfl) (by kernel_rfl)
      replace h := renS 8 0 [(2, vp 6 0), (4, vp 7 0)] [(6, .box [.d (.raw nilV), .d (.raw (.bool false)), .d (nsl [])]), (7, .box ([.own 0 out.length] ++ zi r3)), (0, .row 47 3 (out.map Part.d))] h (by kernel_rfl) (by kernel_rfl) (by kernel_rfl)
      refine rSeq tl_ok 12 [(2, .call (SDeleteFZ isZ out (fun p hp => SPlain2 p (hI4.lb hp (by omega)).1 (by have := (hI4.lb hp (by omega)).2; omega)) (by omega)) tl_10)] [(2, vp 6 0), (4, vp 7 0)] [(6, .box [.d (.raw nilV), .d (.raw (.bool false)), .d (nsl [])]), (7, .box ([.own 0 (out.filter (fun p => !isZ p)).length] ++ zi r3)), (0, .row 47 3 ((out.filter (fun p => !isZ p)).map Part.d))] (by kernel_rfl) h ?_; clear h; intro a w h
      refine rSeq tl_ok 12 [] [(2, vp 6 0)] [(6, .box ([.own 0 (out.filter (fun p => !isZ p)).length] ++ zi r3)), (0, .row 47 3 ((out.filter (fun p => !isZ p)).map Part.d))] (by kernel_rfl) h ?_; clear h; intro a w h
      refine wp_ret ?_
      replace h := pubS 0 3 47 ((out.filter (fun p => !isZ p)).map Part.d) [(2, vp 6 0)] [(6, .box ([.d (.sl 3 ((out.filter (fun p => !isZ p)).map Part.d))] ++ zi r3))] h rfl trivial (show AllEq _ [(out.filter (fun p => !isZ p)).length] from ⟨by simp, trivial⟩) (by kernel_rfl) (by kernel_rfl)
      refine retS [.agg ([.d (.sl 3 ((out.filter (fun p => !isZ p)).map Part.d))] ++ zi r3)] h Exit.ret (.inl rfl)  rfl ⟨RV.agg _ 6 0 _ _ _ _ tl_11 rfl rfl rfl rfl, trivial⟩ ?_ (by kernel_rfl) (by kernel_rfl)
      have hj : j = (ssV Part.v t.parts).length := by omega
      subst hj
      rw [hI1, List.take_length, plain_law, er3]; first | done | rfl
theorem SPlain (t : Term) {n L : Nat} (h : TOk n L t) (hn : n ≤ 1000) (hL : L ≤ 40000) : Fn Try.prog 8 [] [vd t.d] (vd (plainT t).d) [] :=
  have h' := h.mono hn hL
  SPlain0 t h'.psok h'.kb h'.kl
end Go.Proofs.Ytekhnajfdaknnaa.S
