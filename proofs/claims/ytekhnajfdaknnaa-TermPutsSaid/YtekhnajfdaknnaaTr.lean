/-
  Terms put into terms.
-/
import Derived.Test.YtekhnajfdaknnaaTp
namespace Go.Proofs.Ytekhnajfdaknnaa.S
open Go.RowKit

theorem tq_0 : Bodied Try.prog 42 := Bodied.mk' (by kernel_rfl)
theorem tq_1 : Bodied Try.prog 43 := Bodied.mk' (by kernel_rfl)
theorem tq_2 : Bodied Try.prog 9 := Bodied.mk' (by kernel_rfl)
theorem tq_3 : Sz Try.prog 28 3 true := Sz.mk' (by kernel_rfl) Try.underlying28 _ rfl
theorem tq_4 : ElZ Try.prog 73 22 1 := ElZ.mk' Try.underlying73 _ _ rfl rfl (by kernel_rfl) (by kernel_rfl) (by kernel_rfl) (by decide)
theorem tq_5 : Bodied Try.prog 41 := Bodied.mk' (by kernel_rfl)
theorem tq_6 : Bodied Try.prog 34 := Bodied.mk' (by kernel_rfl)
theorem tq_7 : Bodied Try.prog 8 := Bodied.mk' (by kernel_rfl)
theorem tq_8 : Bodied Try.prog 18 := Bodied.mk' (by kernel_rfl)
theorem tq_9 : SlT Try.prog 22 47 3 := SlT.mk' Try.underlying22 (by kernel_rfl)
theorem tq_10 : Bodied Try.prog 50 := Bodied.mk' (by kernel_rfl)
theorem tq_11 : Bodied Try.prog 26 := Bodied.mk' (by kernel_rfl)
theorem tq_12 : Bodied Try.prog 14 := Bodied.mk' (by kernel_rfl)
theorem tq_13 : Bodied Try.prog 10 := Bodied.mk' (by kernel_rfl)
theorem tq_14 : SlT Try.prog 39 28 3 := SlT.mk' Try.underlying39 (by kernel_rfl)
theorem tq_15 : ElZ Try.prog 38 3 1 := ElZ.mk' Try.underlying38 _ _ rfl rfl (by kernel_rfl) (by kernel_rfl) (by kernel_rfl) (by decide)
theorem tq_16 : ElZ Try.prog 39 28 3 := ElZ.mk' Try.underlying39 _ _ rfl rfl (by kernel_rfl) (by kernel_rfl) (by kernel_rfl) (by decide)
theorem tq_17 : Bodied Try.prog 23 := Bodied.mk' (by kernel_rfl)
theorem tq_18 : Bodied Try.prog 19 := Bodied.mk' (by kernel_rfl)
theorem tq_19 : Bodied Try.prog 39 := Bodied.mk' (by kernel_rfl)
theorem tq_20 : SlT Try.prog 38 3 1 := SlT.mk' Try.underlying38 (by kernel_rfl)
theorem tq_21 : Bodied Try.prog 49 := Bodied.mk' (by kernel_rfl)
theorem tq_22 : Bodied Try.prog 40 := Bodied.mk' (by kernel_rfl)
theorem tq_23 : Bodied Try.prog 15 := Bodied.mk' (by kernel_rfl)
theorem tq_24 : Bodied Try.prog 11 := Bodied.mk' (by kernel_rfl)
def tq_tb : Tb := [(22, ⟨1, false, [], [.d (.raw nilV)], 1⟩), (4, ⟨1, false, [], [.d (.raw (.bool false))], 3⟩), (24, ⟨1, false, [], [.d (nsl [])], 1⟩), (26, ⟨2, true, [(0, 1, false), (1, 1, false)], [.d (.raw (.bool false)), .d (nsl [])], 0⟩), (28, ⟨3, true, [(0, 1, false), (1, 2, true)], [.d (.raw nilV), .d (.raw (.bool false)), .d (nsl [])], 0⟩), (3, ⟨1, false, [], [.d (.raw (.int .i64 0))], 13⟩), (47, ⟨3, true, [(0, 1, false), (1, 2, true)], [.d (.raw (.int .i64 0)), .d (.raw (.bool false)), .d (nsl [])], 0⟩), (39, ⟨1, false, [], [.d (.raw nilV)], 1⟩), (38, ⟨1, false, [], [.d (.raw nilV)], 1⟩)]
theorem tq_ok : TbOk Try.prog tq_tb := ⟨TyOk.slc Try.underlying22 (by kernel_rfl) ⟨(.slice none 0 0 : Value), [.slice none 0 0], by kernel_rfl, rfl, (fun _ _ => ⟨DR.raw _ rfl, trivial⟩)⟩,
  TyOk.bl Try.underlying4 (by kernel_rfl) ⟨(.bool false : Value), [.bool false], by kernel_rfl, rfl, (fun _ _ => ⟨DR.raw _ rfl, trivial⟩)⟩,
  TyOk.slc Try.underlying24 (by kernel_rfl) ⟨(.slice none 0 0 : Value), [.slice none 0 0], by kernel_rfl, rfl, (fun _ _ => ⟨DR.nil _ _ _ (fun _ => rfl) (Nat.zero_le _), trivial⟩)⟩,
  TyOk.st Try.underlying26 (by kernel_rfl) ⟨⟨by decide, Fd.mk' _ _ Try.underlying26 rfl rfl (Sz.mk' (by kernel_rfl) Try.underlying4 _ rfl)⟩, ⟨by decide, Fd.mk' _ _ Try.underlying26 rfl rfl (Sz.mk' (by kernel_rfl) Try.underlying24 _ rfl)⟩, trivial⟩ ⟨(Value.agg #[.bool false, .slice none 0 0]), [.bool false, .slice none 0 0], by kernel_rfl, rfl, (fun _ _ => ⟨DR.raw _ rfl, DR.nil _ _ _ (fun _ => rfl) (Nat.zero_le _), trivial⟩)⟩ ⟨_, Try.underlying26, ⟨⟨rfl, by kernel_rfl⟩, ⟨rfl, by kernel_rfl⟩, trivial⟩⟩,
  TyOk.st Try.underlying28 (by kernel_rfl) ⟨⟨by decide, Fd.mk' _ _ Try.underlying28 rfl rfl (Sz.mk' (by kernel_rfl) Try.underlying22 _ rfl)⟩, ⟨by decide, Fd.mk' _ _ Try.underlying28 rfl rfl (Sz.mk' (by kernel_rfl) Try.underlying26 _ rfl)⟩, trivial⟩ ⟨(Value.agg #[.slice none 0 0, .bool false, .slice none 0 0]), [.slice none 0 0, .bool false, .slice none 0 0], by kernel_rfl, rfl, (fun _ _ => ⟨DR.raw _ rfl, DR.raw _ rfl, DR.nil _ _ _ (fun _ => rfl) (Nat.zero_le _), trivial⟩)⟩ ⟨_, Try.underlying28, ⟨⟨rfl, by kernel_rfl⟩, ⟨rfl, by kernel_rfl⟩, trivial⟩⟩,
  TyOk.int Try.underlying3 rfl (by kernel_rfl) ⟨(.int .i64 0 : Value), [.int .i64 0], by kernel_rfl, rfl, (fun _ _ => ⟨DR.raw _ rfl, trivial⟩)⟩,
  TyOk.st Try.underlying47 (by kernel_rfl) ⟨⟨by decide, Fd.mk' _ _ Try.underlying47 rfl rfl (Sz.mk' (by kernel_rfl) Try.underlying3 _ rfl)⟩, ⟨by decide, Fd.mk' _ _ Try.underlying47 rfl rfl (Sz.mk' (by kernel_rfl) Try.underlying26 _ rfl)⟩, trivial⟩ ⟨(Value.agg #[.int .i64 0, .bool false, .slice none 0 0]), [.int .i64 0, .bool false, .slice none 0 0], by kernel_rfl, rfl, (fun _ _ => ⟨DR.raw _ rfl, DR.raw _ rfl, DR.nil _ _ _ (fun _ => rfl) (Nat.zero_le _), trivial⟩)⟩ ⟨_, Try.underlying47, ⟨⟨rfl, by kernel_rfl⟩, ⟨rfl, by kernel_rfl⟩, trivial⟩⟩,
  TyOk.slc Try.underlying39 (by kernel_rfl) ⟨(.slice none 0 0 : Value), [.slice none 0 0], by kernel_rfl, rfl, (fun _ _ => ⟨DR.raw _ rfl, trivial⟩)⟩,
  TyOk.slc Try.underlying38 (by kernel_rfl) ⟨(.slice none 0 0 : Value), [.slice none 0 0], by kernel_rfl, rfl, (fun _ _ => ⟨DR.raw _ rfl, trivial⟩)⟩,
  trivial⟩
theorem plain_c {t : Term} (ht : PkOk t) {x : Part} (hx : x ∈ (plainT t).parts) : x.c.val.natAbs ≤ 30 * pw 20 ∧ Lb x.c.abs ∧ x.c.abs.length ≤ 21 := by
  obtain ⟨p1, p2, p3⟩ := plainT_parts t
  obtain ⟨h0, h1, _⟩ := p2 x hx
  have h2 := coefZ_head p1 x hx h0
  have h3 := ht.cf x.v
  rw [← p3 x.v, h2] at h3
  have e : pw 21 = pw 20 * 4294967296 := by rw [pw_succ]; omega
  have := pw_pos 20
  have h4 : x.c.val.natAbs < pw 21 := by omega
  exact ⟨h3, by rw [h1]; exact ZI.lb_of _, by rw [h1]; exact ZI.len_of h4⟩
theorem numT_bd {k : ZI} (h : k.val.natAbs ≤ 30 * pw 20) : Bd 0 (1 * pw 43) (numT k) := by
  have e : 30 * pw 20 ≤ 1 * pw 43 := by decide
  exact ⟨plain_num k, Nat.le_refl _, fun v => by simp [numT, coefZ], by simp only [numT, ZI.val_of]; omega⟩
theorem bd_tok {n j : Nat} {t : Term} (h : Bd n (j * pw 43) t) (hj : j ≤ 1000) : TOk n 44 t := h.tok (by
  have h1 : j * pw 43 ≤ 1000 * pw 43 := Nat.mul_le_mul_right _ hj
  have e : pw 44 = pw 43 * 4294967296 := by rw [pw_succ]; omega
  have := pw_pos 43
  omega)
theorem scale_tok {x : Term} {c : ZI} (hx : PkOk x) (hc : c.val.natAbs ≤ 30 * pw 20) : TOk 30 44 (scaleT x c) :=
  (Bd.scale hx.len hx.cf hx.kf hc).tok (by decide)
set_option maxRecDepth 100000 in
theorem SRTAddG (s t : Term) {n m L : Nat} (hs : TOk n L s) (ht : TOk m L t) (hnm : n + m ≤ 1000) (hL : L ≤ 15000) : Fn Try.prog 11 [] [.t (.agg ([.d (.sl 3 (s.parts.map Part.d))] ++ zi s.k)), .t (.agg ([.d (.sl 3 (t.parts.map Part.d))] ++ zi t.k))] (vd (addT s t).d) [] := by
  have ks := hs.kl
  have kt := ht.kl
  have ls := hs.len
  have lt := ht.len
  refine Fn.body Try.func11 rfl 17 rfl fun w H B a h => ?_
  refine rSeq tq_ok 0 [] [(2, vp 0 0), (3, vp 1 0), (4, vp 2 0)] [(0, .box ([.d (.sl 3 (s.parts.map Part.d))] ++ zi s.k)), (1, .box ([.d (.sl 3 (t.parts.map Part.d))] ++ zi t.k)), (2, .box [.d (.raw nilV), .d (.raw (.bool false)), .d (nsl [])])] (by kernel_rfl) h ?_; clear h; intro a w h
  obtain ⟨r2, er2, vr2, or2, lr2⟩ := mkZ (v := s.k.val + t.k.val) (m := s.k.abs.length + t.k.abs.length + 1) (len_add hs.kb ht.kb)
  refine rSeq tq_ok 3 [(4, .call (SRboth s.parts t.parts (by have := hs.len; omega) (by have := ht.len; omega)) tq_0), (9, .call (Fn.cast (SRAdd s.k t.k hs.kb ht.kb (by omega) (by omega)) (congrArg vz er2.symm)) tq_1), (11, .call (SRPlain' (Term.mk (s.parts ++ t.parts) r2) (TOk.add hs ht r2 or2 (by have := hs.kl; have := ht.kl; omega)) (by omega) (by omega)) tq_2)] [(4, vp 2 0)] [(2, .box ([.d (.sl 3 ((plainT (Term.mk (s.parts ++ t.parts) r2)).parts.map Part.d))] ++ zi (plainT (Term.mk (s.parts ++ t.parts) r2)).k))] (by kernel_rfl) h ?_; clear h; intro a w h
  refine wp_ret ?_
  refine retS [.agg ([.d (.sl 3 ((plainT (Term.mk (s.parts ++ t.parts) r2)).parts.map Part.d))] ++ zi (plainT (Term.mk (s.parts ++ t.parts) r2)).k)] h Exit.ret (.inl rfl)  rfl ⟨RV.agg _ 2 0 _ _ _ _ tq_3 rfl rfl rfl rfl, trivial⟩ ?_ (by kernel_rfl) (by kernel_rfl)
  rw [er2]; first | done | rfl
set_option maxRecDepth 100000 in
theorem STAddG (s t : Term) {n m L : Nat} (hs : TOk n L s) (ht : TOk m L t) (hnm : n + m ≤ 1000) (hL : L ≤ 15000) : Fn Try.prog 10 [] [.t (.agg ([.d (.sl 3 (s.parts.map Part.d))] ++ zi s.k)), .t (.agg ([.d (.sl 3 (t.parts.map Part.d))] ++ zi t.k))] (vd (addT s t).d) [] := by
  have ks := hs.kl
  have kt := ht.kl
  have ls := hs.len
  have lt := ht.len
  refine Fn.body Try.func10 rfl 18 rfl fun w H B a h => ?_
  refine rSeq tq_ok 0 [] [(2, vp 0 0), (3, vp 1 0), (4, vp 2 0)] [(0, .box ([.d (.sl 3 (s.parts.map Part.d))] ++ zi s.k)), (1, .box ([.d (.sl 3 (t.parts.map Part.d))] ++ zi t.k)), (2, .box [.d (.raw nilV), .d (.raw (.bool false)), .d (nsl [])])] (by kernel_rfl) h ?_; clear h; intro a w h
  obtain ⟨r2, er2, vr2, or2, lr2⟩ := mkZ (v := s.k.val + t.k.val) (m := s.k.abs.length + t.k.abs.length + 1) (len_add hs.kb ht.kb)
  refine rSeq tq_ok 3 [(4, .gen _ _ _ fun _ _ _ _ => Op.buildD (d := 9) (len := 2) (rows := [s.parts, t.parts].map (slD 3 Part.d)) (rs := [(6, .t (.c (.d (.sl 3 (s.parts.map Part.d))))), (8, .t (.c (.d (.sl 3 (t.parts.map Part.d)))))]) tq_4 (.cons (i := 0) (OV.tmp 6 _) (.cons (i := 1) (OV.tmp 8 _) (.nil))) (by kernel_rfl) rfl (by simp [slD]) (by decide) (by decide)), (5, .call (Fn.cast (SConcat [s.parts, t.parts] (by simp only [List.map_cons, List.map_nil, List.sum_cons, List.sum_nil]; omega) (by simp)) (show _ = (.t (.c (.d (.sl 3 ((s.parts ++ t.parts).map Part.d)))) : V) by simp)) tq_5), (10, .call (Fn.cast (SAdd s.k t.k hs.kb ht.kb (by omega) (by omega)) (congrArg vz er2.symm)) tq_6), (12, .call (SPlain (Term.mk (s.parts ++ t.parts) r2) (TOk.add hs ht r2 or2 (by have := hs.kl; have := ht.kl; omega)) (by omega) (by omega)) tq_7)] [(4, vp 2 0)] [(2, .box ([.d (.sl 3 ((plainT (Term.mk (s.parts ++ t.parts) r2)).parts.map Part.d))] ++ zi (plainT (Term.mk (s.parts ++ t.parts) r2)).k))] (by kernel_rfl) h ?_; clear h; intro a w h
  refine wp_ret ?_
  refine retS [.agg ([.d (.sl 3 ((plainT (Term.mk (s.parts ++ t.parts) r2)).parts.map Part.d))] ++ zi (plainT (Term.mk (s.parts ++ t.parts) r2)).k)] h Exit.ret (.inl rfl)  rfl ⟨RV.agg _ 2 0 _ _ _ _ tq_3 rfl rfl rfl rfl, trivial⟩ ?_ (by kernel_rfl) (by kernel_rfl)
  rw [er2]; first | done | rfl
set_option maxRecDepth 100000 in
theorem SPutAll (t : Term) (vs : List Int) (bys : List Term) (ht : PkOk t) (hb : ∀ b ∈ bys, PkOk b) (hlv : vs.length ≤ 1000000) (hlb : bys.length ≤ 1000000) : Fn Try.prog 23 [] [.t (.agg ([.d (.sl 3 (t.parts.map Part.d))] ++ zi t.k)), .t (.c (.d (.sl 1 (vs.map intD)))), .t (.c (.d (.sl 3 (bys.map Term.d))))] (vd (putZ t vs bys).d) [] := by
  refine Fn.body Try.func23 rfl 53 rfl fun w H B a h => ?_
  refine rSeq tq_ok 5 [] [(1, .t (.c (.d (.sl 1 (vs.map intD))))), (2, .t (.c (.d (.sl 3 (bys.map Term.d))))), (3, vp 5 0), (6, vp 6 0)] [(5, .box ([.d (.sl 3 (t.parts.map Part.d))] ++ zi t.k)), (6, .box [.d (.raw nilV), .d (.raw (.bool false)), .d (nsl [])])] (by kernel_rfl) h ?_; clear h; intro a w h
  refine rSeq tq_ok 7 [(2, .call (SNumber t.k ht.kb (by have := ht.kl; omega)) tq_8)] [(1, .t (.c (.d (.sl 1 (vs.map intD))))), (2, .t (.c (.d (.sl 3 (bys.map Term.d))))), (3, vp 5 0), (6, vp 6 0), (7, vp 7 0)] [(5, .box ([.d (.sl 3 (t.parts.map Part.d))] ++ zi t.k)), (6, .box [.d (.raw nilV), .d (.raw (.bool false)), .d (nsl [])]), (7, .box ([.d (.sl 3 ((numT t.k).parts.map Part.d))] ++ zi (numT t.k).k))] (by kernel_rfl) h ?_; clear h; intro a w h
  refine wp_seq ?_
  refine rSeq tq_ok 8 [(1, .call (SPlain t ht (by decide) (by decide)) tq_7), (3, .len (c := (.d (.sl 3 ((plainT t).parts.map Part.d)))) (n := (plainT t).parts.length) (lenC_map _ _ _))] [(1, .t (.c (.d (.sl 1 (vs.map intD))))), (2, .t (.c (.d (.sl 3 (bys.map Term.d))))), (6, vp 6 0), (7, vp 7 0), (16, .t (.c (.d (.sl 3 ((plainT t).parts.map Part.d))))), (17, vi .i64 ((plainT t).parts.length : Int)), (18, vi .i64 0)] [(6, .box [.d (.raw nilV), .d (.raw (.bool false)), .d (nsl [])]), (7, .box ([.d (.sl 3 ((numT t.k).parts.map Part.d))] ++ zi (numT t.k).k))] (by kernel_rfl) h ?_; clear h; intro a w h
  refine wp_block ?_
  refine loopS (ι := (Nat) × (Term)) (fun (z_ : (Nat) × (Term)) => match z_ with | (j, out) => out = ((plainT t).parts.take j).foldl (putStep vs bys) (numT t.k) ∧ j ≤ (plainT t).parts.length ∧ Bd (30 * j) ((j + 1) * pw 43) out)
      (fun (z_ : (Nat) × (Term)) => match z_ with | (j, out) => [(1, .t (.c (.d (.sl 1 (vs.map intD))))), (2, .t (.c (.d (.sl 3 (bys.map Term.d))))), (6, vp 6 0), (7, vp 7 0), (16, .t (.c (.d (.sl 3 ((plainT t).parts.map Part.d))))), (17, vi .i64 ((plainT t).parts.length : Int)), (18, vi .i64 (j : Int))])
      (fun (z_ : (Nat) × (Term)) => match z_ with | (j, out) => [(6, .box [.d (.raw nilV), .d (.raw (.bool false)), .d (nsl [])]), (7, .box ([.d (.sl 3 (out.parts.map Part.d))] ++ zi out.k))])
      (fun (z_ : (Nat) × (Term)) => match z_ with | (j, out) => (plainT t).parts.length - j) (0, (numT t.k)) ?_ h (by kernel_rfl) (by kernel_rfl) ?_
  · exact ⟨rfl, Nat.zero_le _, numT_bd ht.kf⟩
  · clear h; rintro ⟨j, out⟩ a w hI h
    change St _ (F.of [(1, .t (.c (.d (.sl 1 (vs.map intD))))), (2, .t (.c (.d (.sl 3 (bys.map Term.d))))), (6, vp 6 0), (7, vp 7 0), (16, .t (.c (.d (.sl 3 ((plainT t).parts.map Part.d))))), (17, vi .i64 ((plainT t).parts.length : Int)), (18, vi .i64 (j : Int))] [(6, .box [.d (.raw nilV), .d (.raw (.bool false)), .d (nsl [])]), (7, .box ([.d (.sl 3 (out.parts.map Part.d))] ++ zi out.k))]) a w at h
    obtain ⟨hI1, hI2, hI3⟩ := hI
    have lpp : (plainT t).parts.length ≤ 30 := (ht.plain (by decide)).len
    refine rSeq tq_ok 8 [] [(1, .t (.c (.d (.sl 1 (vs.map intD))))), (2, .t (.c (.d (.sl 3 (bys.map Term.d))))), (6, vp 6 0), (7, vp 7 0), (16, .t (.c (.d (.sl 3 ((plainT t).parts.map Part.d))))), (17, vi .i64 ((plainT t).parts.length : Int)), (18, vi .i64 (j : Int)), (19, vb (decide ((j : Int) < ((plainT t).parts.length : Int))))] [(6, .box [.d (.raw nilV), .d (.raw (.bool false)), .d (nsl [])]), (7, .box ([.d (.sl 3 (out.parts.map Part.d))] ++ zi out.k))] (by kernel_rfl) h ?_; clear h; intro a w h
    refine wp_seq ?_
    refine condS (decide ((j : Int) < ((plainT t).parts.length : Int))) h rfl (fun hc => ?_) (fun hc => ?_)
    · have hc1 := hc; clear hc
      have hc1' := of_decide_eq_true hc1
      refine wp_skip ?_
      refine then_n ?_
      refine wp_seq ?_
      refine wp_block ?_
      obtain ⟨x3, hx3⟩ : ∃ z_ : Part, (plainT t).parts[j]? = some z_ := ⟨_, List.getElem?_eq_getElem (by first | omega | (simp at *; omega))⟩
      obtain ⟨c1, c2, c3⟩ := plain_c ht (List.mem_of_getElem? hx3)
      refine rSeq tq_ok 8 [(0, .gen _ _ _ fun _ _ _ _ => Op.idxD (d := 20) (t := 16) (k := .i64) tq_9 (map_at hx3 (f := Part.d)) (OV.tmp 18 _))] [(1, .t (.c (.d (.sl 1 (vs.map intD))))), (2, .t (.c (.d (.sl 3 (bys.map Term.d))))), (6, vp 6 0), (7, vp 7 0), (9, vp 8 0), (16, .t (.c (.d (.sl 3 ((plainT t).parts.map Part.d))))), (17, vi .i64 ((plainT t).parts.length : Int)), (18, vi .i64 (j : Int))] [(6, .box [.d (.raw nilV), .d (.raw (.bool false)), .d (nsl [])]), (7, .box ([.d (.sl 3 (out.parts.map Part.d))] ++ zi out.k)), (8, .box ([.d (.raw (.int .i64 x3.v))] ++ zi x3.c))] (by kernel_rfl) h ?_; clear h; intro a w h
      refine rSeq tq_ok 9 [(3, .call (SIndex vs x3.v hlv) tq_10)] [(1, .t (.c (.d (.sl 1 (vs.map intD))))), (2, .t (.c (.d (.sl 3 (bys.map Term.d))))), (6, vp 6 0), (7, vp 7 0), (9, vp 8 0), (10, vi .i64 (idxI x3.v vs 0)), (16, .t (.c (.d (.sl 3 ((plainT t).parts.map Part.d))))), (17, vi .i64 ((plainT t).parts.length : Int)), (18, vi .i64 (j : Int))] [(6, .box [.d (.raw nilV), .d (.raw (.bool false)), .d (nsl [])]), (7, .box ([.d (.sl 3 (out.parts.map Part.d))] ++ zi out.k)), (8, .box ([.d (.raw (.int .i64 x3.v))] ++ zi x3.c))] (by kernel_rfl) h ?_; clear h; intro a w h
      rcases Bool.eq_false_or_eq_true (decide ((idxI x3.v vs 0) < 0)) with hc | hc
      · have hc2 := hc; clear hc
        have hc2' := of_decide_eq_true hc2
        refine rSeq tq_ok 9 [(1, .cmp (op := .lss) (m := (idxI x3.v vs 0)) (n := 0) (b := true) .i64 hc2)] [(1, .t (.c (.d (.sl 1 (vs.map intD))))), (2, .t (.c (.d (.sl 3 (bys.map Term.d))))), (6, vp 6 0), (7, vp 7 0), (9, vp 8 0), (10, vi .i64 (idxI x3.v vs 0)), (16, .t (.c (.d (.sl 3 ((plainT t).parts.map Part.d))))), (17, vi .i64 ((plainT t).parts.length : Int)), (18, vi .i64 (j : Int)), (33, vb true)] [(6, .box [.d (.raw nilV), .d (.raw (.bool false)), .d (nsl [])]), (7, .box ([.d (.sl 3 (out.parts.map Part.d))] ++ zi out.k)), (8, .box ([.d (.raw (.int .i64 x3.v))] ++ zi x3.c))] (by kernel_rfl) h ?_; clear h; intro a w h
        refine condS true h rfl (fun hc => ?_) (fun hc => ?_)
        · clear hc
          refine rS tq_ok 9 [(3, .call (SVar x3.v) tq_11), (6, .call (SScale (varT x3.v) x3.c (PkOk.var x3.v) (by decide) c2 c3 (by decide)) tq_12), (7, .call (STAddG out (scaleT (varT x3.v) x3.c) (bd_tok hI3 (by omega)) (scale_tok (PkOk.var x3.v) c1) (by omega) (by decide)) tq_13)] [(1, .t (.c (.d (.sl 1 (vs.map intD))))), (2, .t (.c (.d (.sl 3 (bys.map Term.d))))), (6, vp 6 0), (7, vp 7 0), (16, .t (.c (.d (.sl 3 ((plainT t).parts.map Part.d))))), (17, vi .i64 ((plainT t).parts.length : Int)), (18, vi .i64 (j : Int))] [(6, .box [.d (.raw nilV), .d (.raw (.bool false)), .d (nsl [])]), (7, .box ([.d (.sl 3 ((addT out (scaleT (varT x3.v) x3.c)).parts.map Part.d))] ++ zi (addT out (scaleT (varT x3.v) x3.c)).k))] (by kernel_rfl) h ?_; clear h; intro a w h
          refine block_n ?_
          refine then_n ?_
          refine rS tq_ok 9 [(0, .add .i64 (m := (j : Int)) (n := 1) (i64_id (by omega) (by omega)))] [(1, .t (.c (.d (.sl 1 (vs.map intD))))), (2, .t (.c (.d (.sl 3 (bys.map Term.d))))), (6, vp 6 0), (7, vp 7 0), (16, .t (.c (.d (.sl 3 ((plainT t).parts.map Part.d))))), (17, vi .i64 ((plainT t).parts.length : Int)), (18, vi .i64 ((j : Int) + 1))] [(6, .box [.d (.raw nilV), .d (.raw (.bool false)), .d (nsl [])]), (7, .box ([.d (.sl 3 ((addT out (scaleT (varT x3.v) x3.c)).parts.map Part.d))] ++ zi (addT out (scaleT (varT x3.v) x3.c)).k))] (by kernel_rfl) h ?_; clear h; intro a w h
          refine then_n ?_
          have hpk : pickT vs bys x3.v = (varT x3.v) := pick_no (by omega)
          have hst : ((plainT t).parts.take (j + 1)).foldl (putStep vs bys) (numT t.k) = putStep vs bys out x3 := by rw [hI1, foldl_take hx3]
          refine roundS (x := (j, out)) (y := ((j + 1), (addT out (scaleT (varT x3.v) x3.c)))) h ?_ ?_ (by kernel_rfl) (by kernel_rfl)
          · have hnew : (addT out (scaleT (varT x3.v) x3.c)) = putStep vs bys out x3 := by unfold putStep; rw [hpk]
            exact ⟨by rw [hst]; exact hnew, by have := at_lt hx3; omega, by rw [hnew]; exact putStep_bd (n := 30 * j) hI3 hb c1⟩
          · show (plainT t).parts.length - (j + 1) < (plainT t).parts.length - j
            have := at_lt hx3; omega
        · cases hc
      · have hc3 := hc; clear hc
        have hc3' := of_decide_eq_false hc3
        refine rSeq tq_ok 9 [(1, .cmp (op := .lss) (m := (idxI x3.v vs 0)) (n := 0) (b := false) .i64 hc3), (5, .len (c := (.d (.sl 3 (bys.map Term.d)))) (n := bys.length) (lenC_map _ _ _))] [(1, .t (.c (.d (.sl 1 (vs.map intD))))), (2, .t (.c (.d (.sl 3 (bys.map Term.d))))), (6, vp 6 0), (7, vp 7 0), (9, vp 8 0), (10, vi .i64 (idxI x3.v vs 0)), (16, .t (.c (.d (.sl 3 ((plainT t).parts.map Part.d))))), (17, vi .i64 ((plainT t).parts.length : Int)), (18, vi .i64 (j : Int)), (33, vb (decide ((idxI x3.v vs 0) ≥ (bys.length : Int))))] [(6, .box [.d (.raw nilV), .d (.raw (.bool false)), .d (nsl [])]), (7, .box ([.d (.sl 3 (out.parts.map Part.d))] ++ zi out.k)), (8, .box ([.d (.raw (.int .i64 x3.v))] ++ zi x3.c))] (by kernel_rfl) h ?_; clear h; intro a w h
        refine condS (decide ((idxI x3.v vs 0) ≥ (bys.length : Int))) h rfl (fun hc => ?_) (fun hc => ?_)
        · have hc4 := hc; clear hc
          have hc4' := of_decide_eq_true hc4
          refine rS tq_ok 9 [(3, .call (SVar x3.v) tq_11), (6, .call (SScale (varT x3.v) x3.c (PkOk.var x3.v) (by decide) c2 c3 (by decide)) tq_12), (7, .call (STAddG out (scaleT (varT x3.v) x3.c) (bd_tok hI3 (by omega)) (scale_tok (PkOk.var x3.v) c1) (by omega) (by decide)) tq_13)] [(1, .t (.c (.d (.sl 1 (vs.map intD))))), (2, .t (.c (.d (.sl 3 (bys.map Term.d))))), (6, vp 6 0), (7, vp 7 0), (16, .t (.c (.d (.sl 3 ((plainT t).parts.map Part.d))))), (17, vi .i64 ((plainT t).parts.length : Int)), (18, vi .i64 (j : Int))] [(6, .box [.d (.raw nilV), .d (.raw (.bool false)), .d (nsl [])]), (7, .box ([.d (.sl 3 ((addT out (scaleT (varT x3.v) x3.c)).parts.map Part.d))] ++ zi (addT out (scaleT (varT x3.v) x3.c)).k))] (by kernel_rfl) h ?_; clear h; intro a w h
          refine block_n ?_
          refine then_n ?_
          refine rS tq_ok 9 [(0, .add .i64 (m := (j : Int)) (n := 1) (i64_id (by omega) (by omega)))] [(1, .t (.c (.d (.sl 1 (vs.map intD))))), (2, .t (.c (.d (.sl 3 (bys.map Term.d))))), (6, vp 6 0), (7, vp 7 0), (16, .t (.c (.d (.sl 3 ((plainT t).parts.map Part.d))))), (17, vi .i64 ((plainT t).parts.length : Int)), (18, vi .i64 ((j : Int) + 1))] [(6, .box [.d (.raw nilV), .d (.raw (.bool false)), .d (nsl [])]), (7, .box ([.d (.sl 3 ((addT out (scaleT (varT x3.v) x3.c)).parts.map Part.d))] ++ zi (addT out (scaleT (varT x3.v) x3.c)).k))] (by kernel_rfl) h ?_; clear h; intro a w h
          refine then_n ?_
          have hpk : pickT vs bys x3.v = (varT x3.v) := pick_no (by omega)
          have hst : ((plainT t).parts.take (j + 1)).foldl (putStep vs bys) (numT t.k) = putStep vs bys out x3 := by rw [hI1, foldl_take hx3]
          refine roundS (x := (j, out)) (y := ((j + 1), (addT out (scaleT (varT x3.v) x3.c)))) h ?_ ?_ (by kernel_rfl) (by kernel_rfl)
          · have hnew : (addT out (scaleT (varT x3.v) x3.c)) = putStep vs bys out x3 := by unfold putStep; rw [hpk]
            exact ⟨by rw [hst]; exact hnew, by have := at_lt hx3; omega, by rw [hnew]; exact putStep_bd (n := 30 * j) hI3 hb c1⟩
          · show (plainT t).parts.length - (j + 1) < (plainT t).parts.length - j
            have := at_lt hx3; omega
        · have hc5 := hc; clear hc
          have hc5' := of_decide_eq_false hc5
          obtain ⟨k, hk⟩ : ∃ k : Nat, (idxI x3.v vs 0) = (k : Int) := ⟨_, (Int.toNat_of_nonneg (by omega)).symm⟩
          rw [hk] at h
          obtain ⟨x11, hx11⟩ : ∃ z_ : Term, bys[k]? = some z_ := ⟨_, List.getElem?_eq_getElem (by first | omega | (simp at *; omega))⟩
          refine rS tq_ok 9 [(3, .gen _ _ _ fun _ _ _ _ => Op.idxD (d := 45) (t := 43) (k := .i64) tq_14 (map_at hx11 (f := Term.d)) (OV.tmp 44 _)), (7, .call (SScale x11 x3.c (hb x11 (List.mem_of_getElem? hx11)) (by decide) c2 c3 (by decide)) tq_12), (8, .call (STAddG out (scaleT x11 x3.c) (bd_tok hI3 (by omega)) (scale_tok (hb x11 (List.mem_of_getElem? hx11)) c1) (by omega) (by decide)) tq_13)] [(1, .t (.c (.d (.sl 1 (vs.map intD))))), (2, .t (.c (.d (.sl 3 (bys.map Term.d))))), (6, vp 6 0), (7, vp 7 0), (16, .t (.c (.d (.sl 3 ((plainT t).parts.map Part.d))))), (17, vi .i64 ((plainT t).parts.length : Int)), (18, vi .i64 (j : Int))] [(6, .box [.d (.raw nilV), .d (.raw (.bool false)), .d (nsl [])]), (7, .box ([.d (.sl 3 ((addT out (scaleT x11 x3.c)).parts.map Part.d))] ++ zi (addT out (scaleT x11 x3.c)).k))] (by kernel_rfl) h ?_; clear h; intro a w h
          refine block_n ?_
          refine then_n ?_
          refine rS tq_ok 9 [(0, .add .i64 (m := (j : Int)) (n := 1) (i64_id (by omega) (by omega)))] [(1, .t (.c (.d (.sl 1 (vs.map intD))))), (2, .t (.c (.d (.sl 3 (bys.map Term.d))))), (6, vp 6 0), (7, vp 7 0), (16, .t (.c (.d (.sl 3 ((plainT t).parts.map Part.d))))), (17, vi .i64 ((plainT t).parts.length : Int)), (18, vi .i64 ((j : Int) + 1))] [(6, .box [.d (.raw nilV), .d (.raw (.bool false)), .d (nsl [])]), (7, .box ([.d (.sl 3 ((addT out (scaleT x11 x3.c)).parts.map Part.d))] ++ zi (addT out (scaleT x11 x3.c)).k))] (by kernel_rfl) h ?_; clear h; intro a w h
          refine then_n ?_
          have hpk : pickT vs bys x3.v = x11 := pick_yes hk hx11
          have hst : ((plainT t).parts.take (j + 1)).foldl (putStep vs bys) (numT t.k) = putStep vs bys out x3 := by rw [hI1, foldl_take hx3]
          refine roundS (x := (j, out)) (y := ((j + 1), (addT out (scaleT x11 x3.c)))) h ?_ ?_ (by kernel_rfl) (by kernel_rfl)
          · have hnew : (addT out (scaleT x11 x3.c)) = putStep vs bys out x3 := by unfold putStep; rw [hpk]
            exact ⟨by rw [hst]; exact hnew, by have := at_lt hx3; omega, by rw [hnew]; exact putStep_bd (n := 30 * j) hI3 hb c1⟩
          · show (plainT t).parts.length - (j + 1) < (plainT t).parts.length - j
            have := at_lt hx3; omega
    · have hc6 := hc; clear hc
      have hc6' := of_decide_eq_false hc6
      refine wp_exit ?_
      refine then_x ?_
      refine then_x ?_
      refine inBlock_exit ?_
      refine then_n ?_
      refine rSeq tq_ok 9 [] [(6, vp 6 0)] [(6, .box ([.d (.sl 3 (out.parts.map Part.d))] ++ zi out.k))] (by kernel_rfl) h ?_; clear h; intro a w h
      refine wp_ret ?_
      refine retS [.agg ([.d (.sl 3 (out.parts.map Part.d))] ++ zi out.k)] h Exit.ret (.inl rfl)  rfl ⟨RV.agg _ 6 0 _ _ _ _ tq_3 rfl rfl rfl rfl, trivial⟩ ?_ (by kernel_rfl) (by kernel_rfl)
      have hj : j = (plainT t).parts.length := by omega
      have ho : out = putZ t vs bys := by rw [hI1, hj, List.take_length]; rfl
      rw [ho]; first | done | rfl
set_option maxRecDepth 100000 in
theorem SPut (t : Term) (v : Int) (b : Term) (ht : PkOk t) (hb : PkOk b) : Fn Try.prog 21 [] [.t (.agg ([.d (.sl 3 (t.parts.map Part.d))] ++ zi t.k)), vi .i64 v, .t (.agg ([.d (.sl 3 (b.parts.map Part.d))] ++ zi b.k))] (vd (putZ t [v] [b]).d) [] := by
  refine Fn.body Try.func21 rfl 13 rfl fun w H B a h => ?_
  refine rSeq tq_ok 5 [] [(1, vi .i64 v), (3, vp 5 0), (5, vp 6 0), (6, vp 7 0)] [(5, .box ([.d (.sl 3 (t.parts.map Part.d))] ++ zi t.k)), (6, .box ([.d (.sl 3 (b.parts.map Part.d))] ++ zi b.k)), (7, .box [.d (.raw nilV), .d (.raw (.bool false)), .d (nsl [])])] (by kernel_rfl) h ?_; clear h; intro a w h
  refine rSeq tq_ok 8 [(2, .gen _ _ _ fun _ _ _ _ => Op.buildD (d := 9) (len := 1) (rows := [v].map intD) (rs := [(8, vi .i64 v)]) tq_15 (.cons (i := 0) (OV.tmp 8 _) (.nil)) (by kernel_rfl) rfl (by simp [intD]) (by decide) (by decide)), (4, .gen _ _ _ fun _ _ _ _ => Op.buildD (d := 11) (len := 1) (rows := [b].map Term.d) (rs := [(10, .t (.agg ([.d (.sl 3 (b.parts.map Part.d))] ++ zi b.k)))]) tq_16 (.cons (i := 0) (OV.tmp 10 _) (.nil)) (by kernel_rfl) rfl (by simp [Term.d]) (by decide) (by decide)), (5, .call (SPutAll t [v] [b] ht (fun x hx => by rw [List.mem_singleton.1 hx]; exact hb) (by simp) (by simp)) tq_17)] [(6, vp 7 0)] [(7, .box ([.d (.sl 3 ((putZ t [v] [b]).parts.map Part.d))] ++ zi (putZ t [v] [b]).k))] (by kernel_rfl) h ?_; clear h; intro a w h
  refine wp_ret ?_
  refine retS [.agg ([.d (.sl 3 ((putZ t [v] [b]).parts.map Part.d))] ++ zi (putZ t [v] [b]).k)] h Exit.ret (.inl rfl)  rfl ⟨RV.agg _ 7 0 _ _ _ _ tq_3 rfl rfl rfl rfl, trivial⟩ ?_ (by kernel_rfl) (by kernel_rfl)
  rfl
set_option maxRecDepth 100000 in
theorem SRPutAll (t : Term) (vs : List Int) (bys : List Term) (ht : PkOk t) (hb : ∀ b ∈ bys, PkOk b) (hlv : vs.length ≤ 1000000) (hlb : bys.length ≤ 1000000) : Fn Try.prog 22 [] [.t (.agg ([.d (.sl 3 (t.parts.map Part.d))] ++ zi t.k)), .t (.c (.d (.sl 1 (vs.map intD)))), .t (.c (.d (.sl 3 (bys.map Term.d))))] (vd (putZ t vs bys).d) [] := by
  refine Fn.body Try.func22 rfl 85 rfl fun w H B a h => ?_
  refine rSeq tq_ok 5 [] [(1, .t (.c (.d (.sl 1 (vs.map intD))))), (2, .t (.c (.d (.sl 3 (bys.map Term.d))))), (3, vp 5 0), (6, vp 6 0)] [(5, .box ([.d (.sl 3 (t.parts.map Part.d))] ++ zi t.k)), (6, .box [.d (.raw nilV), .d (.raw (.bool false)), .d (nsl [])])] (by kernel_rfl) h ?_; clear h; intro a w h
  refine rSeq tq_ok 7 [(2, .call (SRNumber t.k ht.kb (by have := ht.kl; omega)) tq_18)] [(1, .t (.c (.d (.sl 1 (vs.map intD))))), (2, .t (.c (.d (.sl 3 (bys.map Term.d))))), (3, vp 5 0), (6, vp 6 0), (7, vp 7 0)] [(5, .box ([.d (.sl 3 (t.parts.map Part.d))] ++ zi t.k)), (6, .box [.d (.raw nilV), .d (.raw (.bool false)), .d (nsl [])]), (7, .box ([.d (.sl 3 ((numT t.k).parts.map Part.d))] ++ zi (numT t.k).k))] (by kernel_rfl) h ?_; clear h; intro a w h
  refine rSeq tq_ok 8 [(1, .call (SVars t (ht.mono (by decide) (by decide)).psok) tq_19)] [(1, .t (.c (.d (.sl 1 (vs.map intD))))), (2, .t (.c (.d (.sl 3 (bys.map Term.d))))), (3, vp 5 0), (6, vp 6 0), (7, vp 7 0), (8, .t (.c (.d (.sl 1 ((varsZ t.parts).map intD)))))] [(5, .box ([.d (.sl 3 (t.parts.map Part.d))] ++ zi t.k)), (6, .box [.d (.raw nilV), .d (.raw (.bool false)), .d (nsl [])]), (7, .box ([.d (.sl 3 ((numT t.k).parts.map Part.d))] ++ zi (numT t.k).k))] (by kernel_rfl) h ?_; clear h; intro a w h
  refine wp_seq ?_
  refine rSeq tq_ok 8 [] [(1, .t (.c (.d (.sl 1 (vs.map intD))))), (2, .t (.c (.d (.sl 3 (bys.map Term.d))))), (3, vp 5 0), (6, vp 6 0), (7, vp 7 0), (8, .t (.c (.d (.sl 1 ((varsZ t.parts).map intD))))), (9, vi .i64 0)] [(5, .box ([.d (.sl 3 (t.parts.map Part.d))] ++ zi t.k)), (6, .box [.d (.raw nilV), .d (.raw (.bool false)), .d (nsl [])]), (7, .box ([.d (.sl 3 ((numT t.k).parts.map Part.d))] ++ zi (numT t.k).k))] (by kernel_rfl) h ?_; clear h; intro a w h
  refine wp_block ?_
  refine loopS (ι := (Nat) × (Term)) (fun (z_ : (Nat) × (Term)) => match z_ with | (j, out) => out = ((plainT t).parts.take j).foldl (putStep vs bys) (numT t.k) ∧ j ≤ (varsZ t.parts).length ∧ Bd (30 * j) ((j + 1) * pw 43) out)
      (fun (z_ : (Nat) × (Term)) => match z_ with | (j, out) => [(1, .t (.c (.d (.sl 1 (vs.map intD))))), (2, .t (.c (.d (.sl 3 (bys.map Term.d))))), (3, vp 5 0), (6, vp 6 0), (7, vp 7 0), (8, .t (.c (.d (.sl 1 ((varsZ t.parts).map intD))))), (9, vi .i64 (j : Int))])
      (fun (z_ : (Nat) × (Term)) => match z_ with | (j, out) => [(5, .box ([.d (.sl 3 (t.parts.map Part.d))] ++ zi t.k)), (6, .box [.d (.raw nilV), .d (.raw (.bool false)), .d (nsl [])]), (7, .box ([.d (.sl 3 (out.parts.map Part.d))] ++ zi out.k))])
      (fun (z_ : (Nat) × (Term)) => match z_ with | (j, out) => (varsZ t.parts).length - j) (0, (numT t.k)) ?_ h (by kernel_rfl) (by kernel_rfl) ?_
  · exact ⟨rfl, Nat.zero_le _, numT_bd ht.kf⟩
  · clear h; rintro ⟨j, out⟩ a w hI h
    change St _ (F.of [(1, .t (.c (.d (.sl 1 (vs.map intD))))), (2, .t (.c (.d (.sl 3 (bys.map Term.d))))), (3, vp 5 0), (6, vp 6 0), (7, vp 7 0), (8, .t (.c (.d (.sl 1 ((varsZ t.parts).map intD))))), (9, vi .i64 (j : Int))] [(5, .box ([.d (.sl 3 (t.parts.map Part.d))] ++ zi t.k)), (6, .box [.d (.raw nilV), .d (.raw (.bool false)), .d (nsl [])]), (7, .box ([.d (.sl 3 (out.parts.map Part.d))] ++ zi out.k))]) a w at h
    obtain ⟨hI1, hI2, hI3⟩ := hI
    have lpp : (plainT t).parts.length ≤ 30 := (ht.plain (by decide)).len
    have lvv : (varsZ t.parts).length = (plainT t).parts.length := (List.length_map _).symm
    refine wp_seq ?_
    refine rSeq tq_ok 8 [(2, .len (c := (.d (.sl 1 ((varsZ t.parts).map intD)))) (n := (varsZ t.parts).length) (lenC_map _ _ _))] [(1, .t (.c (.d (.sl 1 (vs.map intD))))), (2, .t (.c (.d (.sl 3 (bys.map Term.d))))), (3, vp 5 0), (6, vp 6 0), (7, vp 7 0), (8, .t (.c (.d (.sl 1 ((varsZ t.parts).map intD))))), (9, vi .i64 (j : Int)), (20, vb (decide ((j : Int) < ((varsZ t.parts).length : Int))))] [(5, .box ([.d (.sl 3 (t.parts.map Part.d))] ++ zi t.k)), (6, .box [.d (.raw nilV), .d (.raw (.bool false)), .d (nsl [])]), (7, .box ([.d (.sl 3 (out.parts.map Part.d))] ++ zi out.k))] (by kernel_rfl) h ?_; clear h; intro a w h
    refine condS (decide ((j : Int) < ((varsZ t.parts).length : Int))) h rfl (fun hc => ?_) (fun hc => ?_)
    · have hc1 := hc; clear hc
      have hc1' := of_decide_eq_true hc1
      refine wp_skip ?_
      refine then_n ?_
      refine wp_seq ?_
      refine wp_block ?_
      obtain ⟨x3, hx3⟩ : ∃ z_ : Int, (varsZ t.parts)[j]? = some z_ := ⟨_, List.getElem?_eq_getElem (by first | omega | (simp at *; omega))⟩
      refine rSeq tq_ok 8 [(2, .gen _ _ _ fun _ _ _ _ => Op.idxD (d := 25) (t := 23) (k := .i64) tq_20 (map_at hx3 (f := intD)) (OV.tmp 24 _)), (4, .call (SRVar x3) tq_21)] [(1, .t (.c (.d (.sl 1 (vs.map intD))))), (2, .t (.c (.d (.sl 3 (bys.map Term.d))))), (3, vp 5 0), (6, vp 6 0), (7, vp 7 0), (8, .t (.c (.d (.sl 1 ((varsZ t.parts).map intD))))), (9, vi .i64 (j : Int)), (10, vp 8 0)] [(5, .box ([.d (.sl 3 (t.parts.map Part.d))] ++ zi t.k)), (6, .box [.d (.raw nilV), .d (.raw (.bool false)), .d (nsl [])]), (7, .box ([.d (.sl 3 (out.parts.map Part.d))] ++ zi out.k)), (8, .box ([.d (.sl 3 ((varT x3).parts.map Part.d))] ++ zi (varT x3).k))] (by kernel_rfl) h ?_; clear h; intro a w h
      refine wp_seq ?_
      refine rSeq tq_ok 9 [(1, .len (c := (.d (.sl 1 (vs.map intD)))) (n := vs.length) (lenC_map _ _ _)), (2, .sub .i64 (m := (vs.length : Int)) (n := 1) (i64_id (by omega) (by omega)))] [(1, .t (.c (.d (.sl 1 (vs.map intD))))), (2, .t (.c (.d (.sl 3 (bys.map Term.d))))), (3, vp 5 0), (6, vp 6 0), (7, vp 7 0), (8, .t (.c (.d (.sl 1 ((varsZ t.parts).map intD))))), (9, vi .i64 (j : Int)), (10, vp 8 0), (11, vi .i64 ((vs.length : Int) - 1))] [(5, .box ([.d (.sl 3 (t.parts.map Part.d))] ++ zi t.k)), (6, .box [.d (.raw nilV), .d (.raw (.bool false)), .d (nsl [])]), (7, .box ([.d (.sl 3 (out.parts.map Part.d))] ++ zi out.k)), (8, .box ([.d (.sl 3 ((varT x3).parts.map Part.d))] ++ zi (varT x3).k))] (by kernel_rfl) h ?_; clear h; intro a w h
      refine wp_block ?_
      refine loopS (ι := (Nat) × (Term)) (fun (z_ : (Nat) × (Term)) => match z_ with | (i, put) => put = downT vs bys x3 i ∧ i ≤ vs.length)
          (fun (z_ : (Nat) × (Term)) => match z_ with | (i, put) => [(1, .t (.c (.d (.sl 1 (vs.map intD))))), (2, .t (.c (.d (.sl 3 (bys.map Term.d))))), (3, vp 5 0), (6, vp 6 0), (7, vp 7 0), (8, .t (.c (.d (.sl 1 ((varsZ t.parts).map intD))))), (9, vi .i64 (j : Int)), (10, vp 8 0), (11, vi .i64 ((i : Int) - 1))])
          (fun (z_ : (Nat) × (Term)) => match z_ with | (i, put) => [(5, .box ([.d (.sl 3 (t.parts.map Part.d))] ++ zi t.k)), (6, .box [.d (.raw nilV), .d (.raw (.bool false)), .d (nsl [])]), (7, .box ([.d (.sl 3 (out.parts.map Part.d))] ++ zi out.k)), (8, .box ([.d (.sl 3 (put.parts.map Part.d))] ++ zi put.k))])
          (fun (z_ : (Nat) × (Term)) => match z_ with | (i, put) => i) (vs.length, (varT x3)) ?_ h (by kernel_rfl) (by kernel_rfl) ?_
      · exact ⟨(down_end vs bys x3).symm, Nat.le_refl _⟩
      · clear h; rintro ⟨i, put⟩ a w hI h
        change St _ (F.of [(1, .t (.c (.d (.sl 1 (vs.map intD))))), (2, .t (.c (.d (.sl 3 (bys.map Term.d))))), (3, vp 5 0), (6, vp 6 0), (7, vp 7 0), (8, .t (.c (.d (.sl 1 ((varsZ t.parts).map intD))))), (9, vi .i64 (j : Int)), (10, vp 8 0), (11, vi .i64 ((i : Int) - 1))] [(5, .box ([.d (.sl 3 (t.parts.map Part.d))] ++ zi t.k)), (6, .box [.d (.raw nilV), .d (.raw (.bool false)), .d (nsl [])]), (7, .box ([.d (.sl 3 (out.parts.map Part.d))] ++ zi out.k)), (8, .box ([.d (.sl 3 (put.parts.map Part.d))] ++ zi put.k))]) a w at h
        obtain ⟨hK1, hK2⟩ := hI
        have hpk : PkOk put := by rw [hK1]; exact PkOk.down hb _ _
        refine wp_seq ?_
        refine rSeq tq_ok 9 [] [(1, .t (.c (.d (.sl 1 (vs.map intD))))), (2, .t (.c (.d (.sl 3 (bys.map Term.d))))), (3, vp 5 0), (6, vp 6 0), (7, vp 7 0), (8, .t (.c (.d (.sl 1 ((varsZ t.parts).map intD))))), (9, vi .i64 (j : Int)), (10, vp 8 0), (11, vi .i64 ((i : Int) - 1)), (32, vb (decide (((i : Int) - 1) ≥ 0)))] [(5, .box ([.d (.sl 3 (t.parts.map Part.d))] ++ zi t.k)), (6, .box [.d (.raw nilV), .d (.raw (.bool false)), .d (nsl [])]), (7, .box ([.d (.sl 3 (out.parts.map Part.d))] ++ zi out.k)), (8, .box ([.d (.sl 3 (put.parts.map Part.d))] ++ zi put.k))] (by kernel_rfl) h ?_; clear h; intro a w h
        refine condS (decide (((i : Int) - 1) ≥ 0)) h rfl (fun hc => ?_) (fun hc => ?_)
        · have hc2 := hc; clear hc
          have hc2' := of_decide_eq_true hc2
          refine wp_skip ?_
          refine then_n ?_
          refine wp_seq ?_
          refine wp_block ?_
          refine wp_seq ?_
          obtain ⟨k, hki⟩ : ∃ k : Nat, i = k + 1 := ⟨i - 1, by omega⟩
          replace h := h.conv (f' := F.of [(1, .t (.c (.d (.sl 1 (vs.map intD))))), (2, .t (.c (.d (.sl 3 (bys.map Term.d))))), (3, vp 5 0), (6, vp 6 0), (7, vp 7 0), (8, .t (.c (.d (.sl 1 ((varsZ t.parts).map intD))))), (9, vi .i64 (j : Int)), (10, vp 8 0), (11, vi .i64 (k : Int)), (32, vb (decide (((i : Int) - 1) ≥ 0)))] [(5, .box ([.d (.sl 3 (t.parts.map Part.d))] ++ zi t.k)), (6, .box [.d (.raw nilV), .d (.raw (.bool false)), .d (nsl [])]), (7, .box ([.d (.sl 3 (out.parts.map Part.d))] ++ zi out.k)), (8, .box ([.d (.sl 3 (put.parts.map Part.d))] ++ zi put.k))]) (by rw [show (i : Int) - 1 = (k : Int) by omega])
          obtain ⟨x5, hx5⟩ : ∃ z_ : Int, vs[k]? = some z_ := ⟨_, List.getElem?_eq_getElem (by first | omega | (simp at *; omega))⟩
          rcases Bool.eq_false_or_eq_true (x5 == x3) with hc | hc
          · have hc3 := hc; clear hc
            have hc3' := hc3; (try simp at hc3')
            refine rSeq tq_ok 9 [(2, .gen _ _ _ fun _ _ _ _ => Op.idxD (d := 37) (t := 35) (k := .i64) tq_20 (map_at hx5 (f := intD)) (OV.tmp 36 _)), (6, .gen _ _ _ fun _ _ _ _ => Op.idxD (d := 41) (t := 39) (k := .i64) tq_20 (map_at hx3 (f := intD)) (OV.tmp 40 _)), (8, .cmp (op := .eql) (m := x5) (n := x3) (b := true) .i64 hc3), (12, .len (c := (.d (.sl 3 (bys.map Term.d)))) (n := bys.length) (lenC_map _ _ _))] [(1, .t (.c (.d (.sl 1 (vs.map intD))))), (2, .t (.c (.d (.sl 3 (bys.map Term.d))))), (3, vp 5 0), (6, vp 6 0), (7, vp 7 0), (8, .t (.c (.d (.sl 1 ((varsZ t.parts).map intD))))), (9, vi .i64 (j : Int)), (10, vp 8 0), (11, vi .i64 (k : Int)), (49, vb (decide ((k : Int) < (bys.length : Int))))] [(5, .box ([.d (.sl 3 (t.parts.map Part.d))] ++ zi t.k)), (6, .box [.d (.raw nilV), .d (.raw (.bool false)), .d (nsl [])]), (7, .box ([.d (.sl 3 (out.parts.map Part.d))] ++ zi out.k)), (8, .box ([.d (.sl 3 (put.parts.map Part.d))] ++ zi put.k))] (by kernel_rfl) h ?_; clear h; intro a w h
            refine condS (decide ((k : Int) < (bys.length : Int))) h rfl (fun hc => ?_) (fun hc => ?_)
            · have hc4 := hc; clear hc
              have hc4' := of_decide_eq_true hc4
              obtain ⟨x6, hx6⟩ : ∃ z_ : Term, bys[k]? = some z_ := ⟨_, List.getElem?_eq_getElem (by first | omega | (simp at *; omega))⟩
              refine rS tq_ok 9 [(2, .gen _ _ _ fun _ _ _ _ => Op.idxD (d := 52) (t := 50) (k := .i64) tq_14 (map_at hx6 (f := Term.d)) (OV.tmp 51 _))] [(1, .t (.c (.d (.sl 1 (vs.map intD))))), (2, .t (.c (.d (.sl 3 (bys.map Term.d))))), (3, vp 5 0), (6, vp 6 0), (7, vp 7 0), (8, .t (.c (.d (.sl 1 ((varsZ t.parts).map intD))))), (9, vi .i64 (j : Int)), (10, vp 8 0), (11, vi .i64 (k : Int))] [(5, .box ([.d (.sl 3 (t.parts.map Part.d))] ++ zi t.k)), (6, .box [.d (.raw nilV), .d (.raw (.bool false)), .d (nsl [])]), (7, .box ([.d (.sl 3 (out.parts.map Part.d))] ++ zi out.k)), (8, .box ([.d (.sl 3 (x6.parts.map Part.d))] ++ zi x6.k))] (by kernel_rfl) h ?_; clear h; intro a w h
              refine then_n ?_
              refine rSeq tq_ok 9 [(2, .gen _ _ _ fun _ _ _ _ => Op.idxD (d := 56) (t := 54) (k := .i64) tq_20 (map_at hx5 (f := intD)) (OV.tmp 55 _)), (6, .gen _ _ _ fun _ _ _ _ => Op.idxD (d := 60) (t := 58) (k := .i64) tq_20 (map_at hx3 (f := intD)) (OV.tmp 59 _)), (8, .cmp (op := .eql) (m := x5) (n := x3) (b := true) .i64 hc3), (12, .len (c := (.d (.sl 3 (bys.map Term.d)))) (n := bys.length) (lenC_map _ _ _))] [(1, .t (.c (.d (.sl 1 (vs.map intD))))), (2, .t (.c (.d (.sl 3 (bys.map Term.d))))), (3, vp 5 0), (6, vp 6 0), (7, vp 7 0), (8, .t (.c (.d (.sl 1 ((varsZ t.parts).map intD))))), (9, vi .i64 (j : Int)), (10, vp 8 0), (11, vi .i64 (k : Int)), (68, vb (decide ((k : Int) ≥ (bys.length : Int))))] [(5, .box ([.d (.sl 3 (t.parts.map Part.d))] ++ zi t.k)), (6, .box [.d (.raw nilV), .d (.raw (.bool false)), .d (nsl [])]), (7, .box ([.d (.sl 3 (out.parts.map Part.d))] ++ zi out.k)), (8, .box ([.d (.sl 3 (x6.parts.map Part.d))] ++ zi x6.k))] (by kernel_rfl) h ?_; clear h; intro a w h
              refine condS (decide ((k : Int) ≥ (bys.length : Int))) h rfl (fun hc => ?_) (fun hc => ?_)
              · have hc5 := hc; clear hc
                have hc5' := of_decide_eq_true hc5
                refine rS tq_ok 9 [(2, .gen _ _ _ fun _ _ _ _ => Op.idxD (d := 71) (t := 69) (k := .i64) tq_20 (map_at hx3 (f := intD)) (OV.tmp 70 _)), (4, .call (SRVar x3) tq_21)] [(1, .t (.c (.d (.sl 1 (vs.map intD))))), (2, .t (.c (.d (.sl 3 (bys.map Term.d))))), (3, vp 5 0), (6, vp 6 0), (7, vp 7 0), (8, .t (.c (.d (.sl 1 ((varsZ t.parts).map intD))))), (9, vi .i64 (j : Int)), (10, vp 8 0), (11, vi .i64 (k : Int))] [(5, .box ([.d (.sl 3 (t.parts.map Part.d))] ++ zi t.k)), (6, .box [.d (.raw nilV), .d (.raw (.bool false)), .d (nsl [])]), (7, .box ([.d (.sl 3 (out.parts.map Part.d))] ++ zi out.k)), (8, .box ([.d (.sl 3 ((varT x3).parts.map Part.d))] ++ zi (varT x3).k))] (by kernel_rfl) h ?_; clear h; intro a w h
                refine block_n ?_
                refine then_n ?_
                refine rS tq_ok 9 [(1, .sub .i64 (m := (k : Int)) (n := 1) (i64_id (by omega) (by omega)))] [(1, .t (.c (.d (.sl 1 (vs.map intD))))), (2, .t (.c (.d (.sl 3 (bys.map Term.d))))), (3, vp 5 0), (6, vp 6 0), (7, vp 7 0), (8, .t (.c (.d (.sl 1 ((varsZ t.parts).map intD))))), (9, vi .i64 (j : Int)), (10, vp 8 0), (11, vi .i64 ((k : Int) - 1))] [(5, .box ([.d (.sl 3 (t.parts.map Part.d))] ++ zi t.k)), (6, .box [.d (.raw nilV), .d (.raw (.bool false)), .d (nsl [])]), (7, .box ([.d (.sl 3 (out.parts.map Part.d))] ++ zi out.k)), (8, .box ([.d (.sl 3 ((varT x3).parts.map Part.d))] ++ zi (varT x3).k))] (by kernel_rfl) h ?_; clear h; intro a w h
                refine then_n ?_
                refine roundS (x := (i, put)) (y := (k, (varT x3))) h ?_ ?_ (by kernel_rfl) (by kernel_rfl)
                · exact ⟨by exact (down_var hx5 (by simpa using hc3) (by omega)).symm, by omega⟩
                · show k < i
                  omega
              · have hc6 := hc; clear hc
                have hc6' := of_decide_eq_false hc6
                refine wp_skip ?_
                refine block_n ?_
                refine then_n ?_
                refine rS tq_ok 9 [(1, .sub .i64 (m := (k : Int)) (n := 1) (i64_id (by omega) (by omega)))] [(1, .t (.c (.d (.sl 1 (vs.map intD))))), (2, .t (.c (.d (.sl 3 (bys.map Term.d))))), (3, vp 5 0), (6, vp 6 0), (7, vp 7 0), (8, .t (.c (.d (.sl 1 ((varsZ t.parts).map intD))))), (9, vi .i64 (j : Int)), (10, vp 8 0), (11, vi .i64 ((k : Int) - 1))] [(5, .box ([.d (.sl 3 (t.parts.map Part.d))] ++ zi t.k)), (6, .box [.d (.raw nilV), .d (.raw (.bool false)), .d (nsl [])]), (7, .box ([.d (.sl 3 (out.parts.map Part.d))] ++ zi out.k)), (8, .box ([.d (.sl 3 (x6.parts.map Part.d))] ++ zi x6.k))] (by kernel_rfl) h ?_; clear h; intro a w h
                refine then_n ?_
                refine roundS (x := (i, put)) (y := (k, x6)) h ?_ ?_ (by kernel_rfl) (by kernel_rfl)
                · exact ⟨by exact (down_by hx5 (by simpa using hc3) hx6).symm, by omega⟩
                · show k < i
                  omega
            · have hc7 := hc; clear hc
              have hc7' := of_decide_eq_false hc7
              refine wp_skip ?_
              refine then_n ?_
              refine rSeq tq_ok 9 [(2, .gen _ _ _ fun _ _ _ _ => Op.idxD (d := 56) (t := 54) (k := .i64) tq_20 (map_at hx5 (f := intD)) (OV.tmp 55 _)), (6, .gen _ _ _ fun _ _ _ _ => Op.idxD (d := 60) (t := 58) (k := .i64) tq_20 (map_at hx3 (f := intD)) (OV.tmp 59 _)), (8, .cmp (op := .eql) (m := x5) (n := x3) (b := true) .i64 hc3), (12, .len (c := (.d (.sl 3 (bys.map Term.d)))) (n := bys.length) (lenC_map _ _ _))] [(1, .t (.c (.d (.sl 1 (vs.map intD))))), (2, .t (.c (.d (.sl 3 (bys.map Term.d))))), (3, vp 5 0), (6, vp 6 0), (7, vp 7 0), (8, .t (.c (.d (.sl 1 ((varsZ t.parts).map intD))))), (9, vi .i64 (j : Int)), (10, vp 8 0), (11, vi .i64 (k : Int)), (68, vb (decide ((k : Int) ≥ (bys.length : Int))))] [(5, .box ([.d (.sl 3 (t.parts.map Part.d))] ++ zi t.k)), (6, .box [.d (.raw nilV), .d (.raw (.bool false)), .d (nsl [])]), (7, .box ([.d (.sl 3 (out.parts.map Part.d))] ++ zi out.k)), (8, .box ([.d (.sl 3 (put.parts.map Part.d))] ++ zi put.k))] (by kernel_rfl) h ?_; clear h; intro a w h
              refine condS (decide ((k : Int) ≥ (bys.length : Int))) h rfl (fun hc => ?_) (fun hc => ?_)
              · have hc8 := hc; clear hc
                have hc8' := of_decide_eq_true hc8
                refine rS tq_ok 9 [(2, .gen _ _ _ fun _ _ _ _ => Op.idxD (d := 71) (t := 69) (k := .i64) tq_20 (map_at hx3 (f := intD)) (OV.tmp 70 _)), (4, .call (SRVar x3) tq_21)] [(1, .t (.c (.d (.sl 1 (vs.map intD))))), (2, .t (.c (.d (.sl 3 (bys.map Term.d))))), (3, vp 5 0), (6, vp 6 0), (7, vp 7 0), (8, .t (.c (.d (.sl 1 ((varsZ t.parts).map intD))))), (9, vi .i64 (j : Int)), (10, vp 8 0), (11, vi .i64 (k : Int))] [(5, .box ([.d (.sl 3 (t.parts.map Part.d))] ++ zi t.k)), (6, .box [.d (.raw nilV), .d (.raw (.bool false)), .d (nsl [])]), (7, .box ([.d (.sl 3 (out.parts.map Part.d))] ++ zi out.k)), (8, .box ([.d (.sl 3 ((varT x3).parts.map Part.d))] ++ zi (varT x3).k))] (by kernel_rfl) h ?_; clear h; intro a w h
                refine block_n ?_
                refine then_n ?_
                refine rS tq_ok 9 [(1, .sub .i64 (m := (k : Int)) (n := 1) (i64_id (by omega) (by omega)))] [(1, .t (.c (.d (.sl 1 (vs.map intD))))), (2, .t (.c (.d (.sl 3 (bys.map Term.d))))), (3, vp 5 0), (6, vp 6 0), (7, vp 7 0), (8, .t (.c (.d (.sl 1 ((varsZ t.parts).map intD))))), (9, vi .i64 (j : Int)), (10, vp 8 0), (11, vi .i64 ((k : Int) - 1))] [(5, .box ([.d (.sl 3 (t.parts.map Part.d))] ++ zi t.k)), (6, .box [.d (.raw nilV), .d (.raw (.bool false)), .d (nsl [])]), (7, .box ([.d (.sl 3 (out.parts.map Part.d))] ++ zi out.k)), (8, .box ([.d (.sl 3 ((varT x3).parts.map Part.d))] ++ zi (varT x3).k))] (by kernel_rfl) h ?_; clear h; intro a w h
                refine then_n ?_
                refine roundS (x := (i, put)) (y := (k, (varT x3))) h ?_ ?_ (by kernel_rfl) (by kernel_rfl)
                · exact ⟨by exact (down_var hx5 (by simpa using hc3) (by omega)).symm, by omega⟩
                · show k < i
                  omega
              · have hc9 := hc; clear hc
                have hc9' := of_decide_eq_false hc9
                refine wp_skip ?_
                refine block_n ?_
                refine then_n ?_
                refine rS tq_ok 9 [(1, .sub .i64 (m := (k : Int)) (n := 1) (i64_id (by omega) (by omega)))] [(1, .t (.c (.d (.sl 1 (vs.map intD))))), (2, .t (.c (.d (.sl 3 (bys.map Term.d))))), (3, vp 5 0), (6, vp 6 0), (7, vp 7 0), (8, .t (.c (.d (.sl 1 ((varsZ t.parts).map intD))))), (9, vi .i64 (j : Int)), (10, vp 8 0), (11, vi .i64 ((k : Int) - 1))] [(5, .box ([.d (.sl 3 (t.parts.map Part.d))] ++ zi t.k)), (6, .box [.d (.raw nilV), .d (.raw (.bool false)), .d (nsl [])]), (7, .box ([.d (.sl 3 (out.parts.map Part.d))] ++ zi out.k)), (8, .box ([.d (.sl 3 (put.parts.map Part.d))] ++ zi put.k))] (by kernel_rfl) h ?_; clear h; intro a w h
                refine then_n ?_
                refine roundS (x := (i, put)) (y := (k, put)) h ?_ ?_ (by kernel_rfl) (by kernel_rfl)
                · exact ⟨by exfalso; omega, by omega⟩
                · show k < i
                  omega
          · have hc10 := hc; clear hc
            have hc10' := hc10; (try simp at hc10')
            refine rSeq tq_ok 9 [(2, .gen _ _ _ fun _ _ _ _ => Op.idxD (d := 37) (t := 35) (k := .i64) tq_20 (map_at hx5 (f := intD)) (OV.tmp 36 _)), (6, .gen _ _ _ fun _ _ _ _ => Op.idxD (d := 41) (t := 39) (k := .i64) tq_20 (map_at hx3 (f := intD)) (OV.tmp 40 _)), (8, .cmp (op := .eql) (m := x5) (n := x3) (b := false) .i64 hc10)] [(1, .t (.c (.d (.sl 1 (vs.map intD))))), (2, .t (.c (.d (.sl 3 (bys.map Term.d))))), (3, vp 5 0), (6, vp 6 0), (7, vp 7 0), (8, .t (.c (.d (.sl 1 ((varsZ t.parts).map intD))))), (9, vi .i64 (j : Int)), (10, vp 8 0), (11, vi .i64 (k : Int)), (49, vb false)] [(5, .box ([.d (.sl 3 (t.parts.map Part.d))] ++ zi t.k)), (6, .box [.d (.raw nilV), .d (.raw (.bool false)), .d (nsl [])]), (7, .box ([.d (.sl 3 (out.parts.map Part.d))] ++ zi out.k)), (8, .box ([.d (.sl 3 (put.parts.map Part.d))] ++ zi put.k))] (by kernel_rfl) h ?_; clear h; intro a w h
            refine condS false h rfl (fun hc => ?_) (fun hc => ?_)
            · cases hc
            · clear hc
              refine wp_skip ?_
              refine then_n ?_
              refine rSeq tq_ok 9 [(2, .gen _ _ _ fun _ _ _ _ => Op.idxD (d := 56) (t := 54) (k := .i64) tq_20 (map_at hx5 (f := intD)) (OV.tmp 55 _)), (6, .gen _ _ _ fun _ _ _ _ => Op.idxD (d := 60) (t := 58) (k := .i64) tq_20 (map_at hx3 (f := intD)) (OV.tmp 59 _)), (8, .cmp (op := .eql) (m := x5) (n := x3) (b := false) .i64 hc10)] [(1, .t (.c (.d (.sl 1 (vs.map intD))))), (2, .t (.c (.d (.sl 3 (bys.map Term.d))))), (3, vp 5 0), (6, vp 6 0), (7, vp 7 0), (8, .t (.c (.d (.sl 1 ((varsZ t.parts).map intD))))), (9, vi .i64 (j : Int)), (10, vp 8 0), (11, vi .i64 (k : Int)), (68, vb false)] [(5, .box ([.d (.sl 3 (t.parts.map Part.d))] ++ zi t.k)), (6, .box [.d (.raw nilV), .d (.raw (.bool false)), .d (nsl [])]), (7, .box ([.d (.sl 3 (out.parts.map Part.d))] ++ zi out.k)), (8, .box ([.d (.sl 3 (put.parts.map Part.d))] ++ zi put.k))] (by kernel_rfl) h ?_; clear h; intro a w h
              refine condS false h rfl (fun hc => ?_) (fun hc => ?_)
              · cases hc
              · clear hc
                refine wp_skip ?_
                refine block_n ?_
                refine then_n ?_
                refine rS tq_ok 9 [(1, .sub .i64 (m := (k : Int)) (n := 1) (i64_id (by omega) (by omega)))] [(1, .t (.c (.d (.sl 1 (vs.map intD))))), (2, .t (.c (.d (.sl 3 (bys.map Term.d))))), (3, vp 5 0), (6, vp 6 0), (7, vp 7 0), (8, .t (.c (.d (.sl 1 ((varsZ t.parts).map intD))))), (9, vi .i64 (j : Int)), (10, vp 8 0), (11, vi .i64 ((k : Int) - 1))] [(5, .box ([.d (.sl 3 (t.parts.map Part.d))] ++ zi t.k)), (6, .box [.d (.raw nilV), .d (.raw (.bool false)), .d (nsl [])]), (7, .box ([.d (.sl 3 (out.parts.map Part.d))] ++ zi out.k)), (8, .box ([.d (.sl 3 (put.parts.map Part.d))] ++ zi put.k))] (by kernel_rfl) h ?_; clear h; intro a w h
                refine then_n ?_
                refine roundS (x := (i, put)) (y := (k, put)) h ?_ ?_ (by kernel_rfl) (by kernel_rfl)
                · exact ⟨by rw [hK1, hki]; exact (down_no hx5 (by simpa using hc10)).symm, by omega⟩
                · show k < i
                  omega
        · have hc11 := hc; clear hc
          have hc11' := of_decide_eq_false hc11
          refine wp_exit ?_
          refine then_x ?_
          refine then_x ?_
          refine inBlock_exit ?_
          refine then_n ?_
          have hi0 : i = 0 := by omega
          have hpp : put = pickT vs bys x3 := by rw [hK1, hi0]; rfl
          obtain ⟨r9, er9, vr9, or9, lr9⟩ := mkZ (v := coefZ t.parts x3) (m := 21) (by have := (plain_c ht (List.mem_of_getElem? (map_at (f := partOf t.parts) hx3))).2.2; exact this)
          refine rS tq_ok 9 [(5, .gen _ _ _ fun _ _ _ _ => Op.idxD (d := 79) (t := 77) (k := .i64) tq_20 (map_at hx3 (f := intD)) (OV.tmp 78 _)), (7, .call (Fn.cast (SCoef t x3 (ht.mono (by decide) (by decide)).psok) (congrArg vz er9.symm)) tq_22), (8, .call (SRScale put r9 hpk (by decide) or9 lr9 (by decide)) tq_23), (9, .call (SRTAddG out (scaleT put r9) (bd_tok hI3 (by omega)) (scale_tok hpk (by rw [vr9]; exact ht.cf _)) (by omega) (by decide)) tq_24)] [(1, .t (.c (.d (.sl 1 (vs.map intD))))), (2, .t (.c (.d (.sl 3 (bys.map Term.d))))), (3, vp 5 0), (6, vp 6 0), (7, vp 7 0), (8, .t (.c (.d (.sl 1 ((varsZ t.parts).map intD))))), (9, vi .i64 (j : Int))] [(5, .box ([.d (.sl 3 (t.parts.map Part.d))] ++ zi t.k)), (6, .box [.d (.raw nilV), .d (.raw (.bool false)), .d (nsl [])]), (7, .box ([.d (.sl 3 ((addT out (scaleT put r9)).parts.map Part.d))] ++ zi (addT out (scaleT put r9)).k))] (by kernel_rfl) h ?_; clear h; intro a w h
          refine block_n ?_
          refine then_n ?_
          refine rS tq_ok 9 [(1, .add .i64 (m := (j : Int)) (n := 1) (i64_id (by omega) (by omega)))] [(1, .t (.c (.d (.sl 1 (vs.map intD))))), (2, .t (.c (.d (.sl 3 (bys.map Term.d))))), (3, vp 5 0), (6, vp 6 0), (7, vp 7 0), (8, .t (.c (.d (.sl 1 ((varsZ t.parts).map intD))))), (9, vi .i64 ((j : Int) + 1))] [(5, .box ([.d (.sl 3 (t.parts.map Part.d))] ++ zi t.k)), (6, .box [.d (.raw nilV), .d (.raw (.bool false)), .d (nsl [])]), (7, .box ([.d (.sl 3 ((addT out (scaleT put r9)).parts.map Part.d))] ++ zi (addT out (scaleT put r9)).k))] (by kernel_rfl) h ?_; clear h; intro a w h
          refine then_n ?_
          have hp2 : (plainT t).parts[j]? = some (partOf t.parts x3) := map_at (f := partOf t.parts) hx3
          have hst : ((plainT t).parts.take (j + 1)).foldl (putStep vs bys) (numT t.k) = putStep vs bys out (partOf t.parts x3) := by rw [hI1, foldl_take hp2]
          refine roundS (x := (j, out)) (y := ((j + 1), (addT out (scaleT put r9)))) h ?_ ?_ (by kernel_rfl) (by kernel_rfl)
          · have hnew : (addT out (scaleT put r9)) = putStep vs bys out (partOf t.parts x3) := by rw [hpp, er9]; rfl
            exact ⟨by rw [hst]; exact hnew, by have := at_lt hx3; omega, by rw [hnew]; exact putStep_bd (n := 30 * j) hI3 hb (by have := (plain_c ht (List.mem_of_getElem? hp2)).1; exact this)⟩
          · show (varsZ t.parts).length - (j + 1) < (varsZ t.parts).length - j
            have := at_lt hx3; omega
    · have hc12 := hc; clear hc
      have hc12' := of_decide_eq_false hc12
      refine wp_exit ?_
      refine then_x ?_
      refine then_x ?_
      refine inBlock_exit ?_
      refine then_n ?_
      refine rSeq tq_ok 9 [] [(6, vp 6 0)] [(6, .box ([.d (.sl 3 (out.parts.map Part.d))] ++ zi out.k))] (by kernel_rfl) h ?_; clear h; intro a w h
      refine wp_ret ?_
      refine retS [.agg ([.d (.sl 3 (out.parts.map Part.d))] ++ zi out.k)] h Exit.ret (.inl rfl)  rfl ⟨RV.agg _ 6 0 _ _ _ _ tq_3 rfl rfl rfl rfl, trivial⟩ ?_ (by kernel_rfl) (by kernel_rfl)
      have hj : j = (varsZ t.parts).length := by omega
      have ho : out = putZ t vs bys := by rw [hI1, hj, lvv, List.take_length]; rfl
      rw [ho]; first | done | rfl
theorem putZ_bd {t : Term} {vs : List Int} {bys : List Term} (ht : PkOk t) (hb : ∀ b ∈ bys, PkOk b) : Bd 900 (31 * pw 43) (putZ t vs bys) := by
  have key : ∀ (ps : List Part) (n j : Nat) (out : Term), (∀ p ∈ ps, p ∈ (plainT t).parts) → Bd n (j * pw 43) out → Bd (n + 30 * ps.length) ((j + ps.length) * pw 43) (ps.foldl (putStep vs bys) out) := by
    intro ps
    induction ps with
    | nil => intro n j out _ h; exact h
    | cons p ps ih =>
      intro n j out hp h
      have h1 := ih (n + 30) (j + 1) (putStep vs bys out p) (fun q hq => hp q (by simp [hq])) (putStep_bd h hb (plain_c ht (hp p (by simp))).1)
      rw [List.foldl_cons]
      refine h1.mono (by simp only [List.length_cons]; omega) (Nat.le_of_eq (by simp only [List.length_cons]; congr 1; omega))
  have hl : (plainT t).parts.length ≤ 30 := (ht.plain (by decide)).len
  have h := key (plainT t).parts 0 1 (numT t.k) (fun p hp => hp) (numT_bd ht.kf)
  exact h.mono (by omega) (Nat.mul_le_mul_right _ (by omega))
theorem putZ_tok {t : Term} {vs : List Int} {bys : List Term} (ht : PkOk t) (hb : ∀ b ∈ bys, PkOk b) : TOk 900 44 (putZ t vs bys) := bd_tok (putZ_bd ht hb) (by decide)
end Go.Proofs.Ytekhnajfdaknnaa.S
