/-
  Part 3 of the proof of the statement ReportTells: the walk through the program and the references lifted to the given row. It holds for every input.
-/
import Derived.Test.YtlfebjeoeijlfaaDoorRT2
import Derived.Test.YtlfebjeoeijlfaaDoorRT1
set_option maxRecDepth 100000
open Go.RowKit
namespace Go.Proofs.YtlfebjeoeijlfaaDoor
namespace S
theorem ph1_1:zaa Tryd.prog 41:=zaa.mk' (by kernel_rfl)
theorem zd5:ElZ Tryd.prog 22 9 1:=ElZ.mk' Tryd.underlying22 _ _ rfl rfl (by kernel_rfl) (by kernel_rfl) (by kernel_rfl) (by decide)
theorem ph1_3:ElT Tryd.prog 22 9 1 16:=ElT.mk' Tryd.underlying22 _ _ rfl rfl (by kernel_rfl) (by kernel_rfl) (by kernel_rfl) (by decide) (by decide)
theorem ph1_6:zaa Tryd.prog 43:=zaa.mk' (by kernel_rfl)
theorem ph1_7:zaa Tryd.prog 44:=zaa.mk' (by kernel_rfl)
theorem ph1_8:zaa Tryd.prog 35:=zaa.mk' (by kernel_rfl)
theorem ph1_10:zaa Tryd.prog 36:=zaa.mk' (by kernel_rfl)
def vaW (s:zap) (i:Nat) (v:ZI):ByteArray:=((match s.vars[i]? with | none=>⟨#[63]⟩ | some t=>t)++⟨#[61]⟩)++itW v.val
def plN (s:zap) (x:StD) (j:Nat):List ByteArray:=(List.range j).map fun (i:Nat)=>plW s (i:Int) ((x.locs[i]?).getD 0)
def vaN (s:zap) (x:StD) (j:Nat):List ByteArray:=(List.range j).map fun i=>vaW s i ((x.vals[i]?).getD zero0)
def stW (s:zap) (x:StD):ByteArray:=za7 (plN s x x.locs.length++vaN s x x.vals.length) ⟨#[32]⟩
theorem zc5 (s:zap) (x:StD) (j:Nat):(plN s x j).length=j:=by simp [plN]
theorem vaN_len (s:zap) (x:StD) (j:Nat):(vaN s x j).length=j:=by simp [vaN]
theorem plN_snoc {s:zap} {x:StD} {j:Nat} {l:Int} (h:x.locs[j]?=some l):plN s x j++[plW s (j:Int) l]=plN s x (j+1):=by unfold plN;rw [List.range_succ,List.map_append];simp [h]
theorem vaN_snoc {s:zap} {x:StD} {j:Nat} {v:ZI} (h:x.vals[j]?=some v):vaN s x j++[vaW s j v]=vaN s x (j+1):=by unfold vaN;rw [List.range_succ,List.map_append];simp [h]
theorem pv_snoc {s:zap} {x:StD} {j:Nat} {v:ZI} (h:x.vals[j]?=some v) {t:ByteArray} (ht:t=vaW s j v):(plN s x x.locs.length++vaN s x j)++[t]=plN s x x.locs.length++vaN s x (j+1):=by rw [← vaN_snoc h,ht,List.append_assoc]
theorem vaW_n {s:zap} {j:Nat} {v:ZI} (h:s.vars[j]?=none):((⟨#[63]⟩:ByteArray)++(⟨#[61]⟩:ByteArray))++itW v.val=vaW s j v:=by unfold vaW;rw [h]
theorem vaW_s {s:zap} {j:Nat} {v:ZI} {t:ByteArray} (h:s.vars[j]?=some t):(t++(⟨#[61]⟩:ByteArray))++itW v.val=vaW s j v:=by unfold vaW;rw [h]
theorem zct {z:ZI} (h:Lb z.abs) (hl:z.abs.length≤4):(itW z.val).size≤40:=by
 have h1:=ZI.abs_lt h
 have h2:pw z.abs.length≤pw 4:=by unfold pw;exact Nat.pow_le_pow_right (by decide) hl
 exact itW_sz (k:=39) (Nat.lt_of_lt_of_le h1 (Nat.le_trans h2 (by unfold pw;decide))) (by decide)
theorem baL (a:ByteArray):a.size=a.data.toList.length:=Lib.size_eq a
theorem joinB_nil (sep:ByteArray):za7 [] sep=ByteArray.empty:=rfl
theorem joinB_one (a sep:ByteArray):za7 [a] sep=a:=by unfold za7;rw [List.map_cons,List.map_nil,Lib.join_one]
theorem join_snoc {sep y:List UInt8}:∀ {xs:List (List UInt8)}, xs≠[]→Lib.join (xs++[y]) sep=Lib.join xs sep++sep++y
 | [],h=>absurd rfl h
 | x :: r,_=>by rw [List.cons_append,Lib.join_cons,Lib.join_cons];simp [Lib.joinTail,List.append_assoc]
theorem joinB_snoc {xs:List ByteArray} {t sep:ByteArray} (h:xs≠[]):za7 (xs++[t]) sep=(za7 xs sep++sep)++t:=by
 unfold za7
 rw [List.map_append,List.map_cons,List.map_nil,join_snoc (by simpa using h)]
 apply ByteArray.ext
 simp
theorem joinB_sz {M:Nat} {sep:ByteArray}:∀ {xs:List ByteArray}, (∀ t ∈ xs,t.size≤M)→(za7 xs sep).size≤xs.length*(M+sep.size):=by
 intro xs h
 have h0:(za7 xs sep).size=(Lib.join (xs.map (·.data.toList)) sep.data.toList).length:=by unfold za7;simp [ByteArray.size]
 rw [h0]
 cases xs with
 | nil=>simp [Lib.join_nil]
 | cons x r =>
  rw [List.map_cons,Lib.join_cons,List.length_append,Lib.joinTail_length,List.length_map]
  have hx:x.data.toList.length≤M:=by rw [← baL];exact h x (by simp)
  have hr:∀ (r:List ByteArray),(∀ t ∈ r,t.size≤M)→Lib.lens (r.map (·.data.toList))≤r.length*M:=by
   intro r
   induction r with
   | nil=>intro _;simp [Lib.lens]
   | cons y r ih =>
    intro h
    have h1:=ih fun t ht=>h t (by simp [ht])
    have h2:y.data.toList.length≤M:=by rw [← baL];exact h y (by simp)
    simp only [Lib.lens,List.map_cons,List.sum_cons,List.length_cons,Nat.add_mul,Nat.one_mul] at h1 ⊢
    omega
  have h3:=hr r fun t ht=>h t (by simp [ht])
  rw [List.length_cons,Nat.add_mul,Nat.mul_add,Nat.one_mul,← baL sep,Nat.mul_comm sep.size]
  omega
theorem joinB_ne {xs:List ByteArray} {sep:ByteArray} {b:Bool} (h:∀ t ∈ xs,0<t.size) (hb:decide (0<xs.length)=b):((za7 xs sep).toList == (ByteArray.empty).toList)=!b:=by
 subst hb
 cases xs with
 | nil=>rw [joinB_nil];simp
 | cons x r =>
  have hx:=h x (by simp)
  have h0:0<(za7 (x :: r) sep).size:=by
   unfold za7
   rw [List.map_cons,Lib.join_cons]
   simp only [ByteArray.size,List.size_toArray,List.length_append]
   rw [baL] at hx
   omega
  simp only [List.length_cons,Nat.zero_lt_succ,decide_true,Bool.not_true,beq_eq_false_iff_ne,ne_eq]
  intro e
  rw [Lib.toList_data,Lib.toList_data] at e
  rw [baL,e] at h0
  simp at h0
theorem plW_sz {s:zap} (hz:zc2 s) (p l:Int):0<(plW s p l).size∧(plW s p l).size≤2097153:=by
 have e1:(⟨#[64]⟩:ByteArray).size=1:=rfl
 have e2:(⟨#[63]⟩:ByteArray).size=1:=rfl
 have e3:(⟨#[63,64,63]⟩:ByteArray).size=3:=rfl
 unfold plW
 cases hp:atI s.procs p with
 | none=>simp only;omega
 | some pr =>
  have h1:=hz.name pr (zbn hp)
  simp only
  cases hl:atI pr.locs l with
  | none=>simp only [ByteArray.size_append];omega
  | some t=>have h2:=hz.locs pr (zbn hp) t (zbn hl);simp only [ByteArray.size_append];omega
theorem vaW_sz {s:zap} (hz:zc2 s) {j:Nat} {v:ZI} (hv:(itW v.val).size≤40):(vaW s j v).size≤2097153:=by
 have e1:(⟨#[61]⟩:ByteArray).size=1:=rfl
 have e2:(⟨#[63]⟩:ByteArray).size=1:=rfl
 unfold vaW
 cases hp:s.vars[j]? with
 | none=>simp only [ByteArray.size_append];omega
 | some t=>have h2:=hz.vars t (List.mem_of_getElem? hp);simp only [ByteArray.size_append];omega
theorem pl_all {s:zap} (hz:zc2 s) {x:StD} {j:Nat}:∀ t ∈ plN s x j,0<t.size∧t.size≤2097153:=fun t ht=>by
 obtain ⟨i,_,rfl⟩:=List.mem_map.1 ht;exact plW_sz hz _ _
theorem va_all {s:zap} (hz:zc2 s) {x:StD} (hx:StOk 4 x) {j:Nat}:∀ t ∈ vaN s x j,t.size≤2097153:=fun t ht=>by
 obtain ⟨i,_,rfl⟩:=List.mem_map.1 ht
 refine vaW_sz hz ?_
 cases hv:x.vals[i]? with
 | none=>exact zct Lb_nil (Nat.zero_le _)
 | some z=>have:=hx.val z (List.mem_of_getElem? hv);exact zct this.1 this.2
theorem pvN_sz {s:zap} (hz:zc2 s) {x:StD} (hx:StOk 4 x) {i j:Nat} (hi:i≤x.locs.length) (hj:j≤x.vals.length):(za7 (plN s x i++vaN s x j) ⟨#[32]⟩).size≤41943080:=by
 have h1:=joinB_sz (M:=2097153) (sep:=⟨#[32]⟩) (xs:=plN s x i++vaN s x j) (fun t ht=>by
  rcases List.mem_append.1 ht with h | h
  ·exact (pl_all hz t h).2
  ·exact va_all hz hx t h)
 rw [List.length_append,zc5,vaN_len] at h1
 have e1:(⟨#[32]⟩:ByteArray).size=1:=rfl
 rw [e1] at h1
 have l1:=hx.locs;have l2:=hx.vals
 have h2:(i+j)*(2097153+1)≤20*(2097153+1):=Nat.mul_le_mul_right _ (by omega)
 omega
theorem plN_sz {s:zap} (hz:zc2 s) {x:StD} (hx:StOk 4 x) {i:Nat} (hi:i≤x.locs.length):(za7 (plN s x i) ⟨#[32]⟩).size≤41943080:=by
 have:=pvN_sz hz hx hi (Nat.zero_le x.vals.length)
 simpa [vaN] using this
theorem stW_sz {s:zap} (hz:zc2 s) {x:StD} (hx:StOk 4 x):(stW s x).size≤41943080:=pvN_sz hz hx (Nat.le_refl _) (Nat.le_refl _)
theorem pl_more {s:zap} {x:StD} {j:Nat} {l:Int} (h:x.locs[j]?=some l) (hj:0<j):(za7 (plN s x j) ⟨#[32]⟩++⟨#[32]⟩)++plW s (j:Int) l=za7 (plN s x (j+1)) ⟨#[32]⟩:=by
 rw [← plN_snoc h,joinB_snoc fun e=>by have:=congrArg List.length e;rw [zc5] at this;simp only [List.length_nil] at this;omega]
theorem pl_first {s:zap} {x:StD} {j:Nat} {l:Int} (h:x.locs[j]?=some l) (hj:¬ 0<j):za7 (plN s x j) ⟨#[32]⟩++plW s (j:Int) l=za7 (plN s x (j+1)) ⟨#[32]⟩:=by
 obtain rfl:j=0:=by omega
 rw [← plN_snoc h,show plN s x 0=[] from rfl,List.nil_append,joinB_one,joinB_nil,ByteArray.empty_append]
theorem pv_more {s:zap} {x:StD} {k:Nat} {v:ZI} {t:ByteArray} (h:x.vals[k]?=some v) (hn:0<x.locs.length∨0<k) (hv:(t++⟨#[61]⟩)++itW v.val=vaW s k v) :
  (((za7 (plN s x x.locs.length++vaN s x k) ⟨#[32]⟩++⟨#[32]⟩)++t)++⟨#[61]⟩)++itW v.val=za7 (plN s x x.locs.length++vaN s x (k+1)) ⟨#[32]⟩:=by
 rw [← pv_snoc h hv,joinB_snoc fun e=>by have:=congrArg List.length e;rw [List.length_append,zc5,vaN_len] at this;simp only [List.length_nil] at this;omega]
 simp only [ByteArray.append_assoc]
theorem pv_first {s:zap} {x:StD} {k:Nat} {v:ZI} {t:ByteArray} (h:x.vals[k]?=some v) (h0:¬ 0<x.locs.length) (h1:¬ 0<k) (hv:(t++⟨#[61]⟩)++itW v.val=vaW s k v) :
  ((za7 (plN s x x.locs.length++vaN s x k) ⟨#[32]⟩++t)++⟨#[61]⟩)++itW v.val=za7 (plN s x x.locs.length++vaN s x (k+1)) ⟨#[32]⟩:=by
 have e:plN s x x.locs.length++vaN s x k=[]:=by rw [show x.locs.length=0 by omega,show k=0 by omega];rfl
 rw [← pv_snoc h hv,e,List.nil_append,joinB_one,joinB_nil,ByteArray.empty_append]
set_option maxHeartbeats 4000000 in
theorem PState (s:zap) (x:StD) (hz:zc2 s) (hx:StOk 4 x):Fn Tryd.prog 32 [] [.t (.agg [.d (.sl 1 (s.vars.map za3)),.d (.sl 5 (s.bounds.map za0.d)),cI s.init.kind,cPs s.init.r.t.parts,cB s.init.r.t.k.neg,.d (nsl s.init.r.t.k.abs),cB s.init.r.eq,cFs s.init.kids,.d (.sl 3 (s.procs.map za2.d)),.d (.sl 10 (s.acts.map za5.d))]),.t (.agg [cIs x.locs,cZs x.vals])] (vs (stW s x)) []:=by
 have lx1:=hx.locs
 have lx2:=hx.vals
 refine Fn.body Tryd.func32 rfl 56 rfl fun w H B a h=>?_
 refine rq za1 5 [] [(2,vp 5 0),(3,vp 6 0),(4,.t (.c (.d (.raw (.string ByteArray.empty)))))] [(5,.box [.d (.sl 1 (s.vars.map za3)),.d (.sl 5 (s.bounds.map za0.d)),cI s.init.kind,cPs s.init.r.t.parts,cB s.init.r.t.k.neg,.d (nsl s.init.r.t.k.abs),cB s.init.r.eq,cFs s.init.kids,.d (.sl 3 (s.procs.map za2.d)),.d (.sl 10 (s.acts.map za5.d))]),(6,.box [cIs x.locs,cZs x.vals])] h ?_;clear h;intro a w h
 refine rq za1 7 [] [(2,vp 5 0),(3,vp 6 0),(4,.t (.c (.d (.raw (.string ByteArray.empty))))),(5,.t (.c (.d (.raw za6))))] [(5,.box [.d (.sl 1 (s.vars.map za3)),.d (.sl 5 (s.bounds.map za0.d)),cI s.init.kind,cPs s.init.r.t.parts,cB s.init.r.t.k.neg,.d (nsl s.init.r.t.k.abs),cB s.init.r.eq,cFs s.init.kids,.d (.sl 3 (s.procs.map za2.d)),.d (.sl 10 (s.acts.map za5.d))]),(6,.box [cIs x.locs,cZs x.vals])] h ?_;clear h;intro a w h
 refine wp_seq (rq za1 7 [(2,.len (c:=(cIs x.locs)) (n:=x.locs.length) (za8 _ _ _))] [(2,vp 5 0),(3,vp 6 0),(4,.t (.c (.d (.raw (.string ByteArray.empty))))),(5,.t (.c (.d (.raw za6)))),(13,(vIs x.locs)),(14,vi .i64 (x.locs.length:Int)),(15,vi .i64 0)] [(5,.box [.d (.sl 1 (s.vars.map za3)),.d (.sl 5 (s.bounds.map za0.d)),cI s.init.kind,cPs s.init.r.t.parts,cB s.init.r.t.k.neg,.d (nsl s.init.r.t.k.abs),cB s.init.r.eq,cFs s.init.kids,.d (.sl 3 (s.procs.map za2.d)),.d (.sl 10 (s.acts.map za5.d))]),(6,.box [cIs x.locs,cZs x.vals])] h ?_);clear h;intro a w h
 refine wp_block ?_
 replace h:=nilOSs 5 0 7 1 9 (.t (.c (.d (.raw za6)))) [(2,vp 5 0),(3,vp 6 0),(4,.t (.c (.d (.raw (.string ByteArray.empty))))),(5,.t (.c (.own 7 0))),(13,(vIs x.locs)),(14,vi .i64 (x.locs.length:Int)),(15,vi .i64 0)] [(5,.box [.d (.sl 1 (s.vars.map za3)),.d (.sl 5 (s.bounds.map za0.d)),cI s.init.kind,cPs s.init.r.t.parts,cB s.init.r.t.k.neg,.d (nsl s.init.r.t.k.abs),cB s.init.r.eq,cFs s.init.kids,.d (.sl 3 (s.procs.map za2.d)),.d (.sl 10 (s.acts.map za5.d))]),(6,.box [cIs x.locs,cZs x.vals]),(7,.row 9 1 ([].map za3))] h (by kernel_rfl) rfl rfl
 replace h:=h.conv (f':=F.of [(2,vp 5 0),(3,vp 6 0),(4,.t (.c (.d (.raw (.string ByteArray.empty))))),(5,.t (.c (.own 7 0))),(13,(vIs x.locs)),(14,vi .i64 (x.locs.length:Int)),(15,vi .i64 0)] [(5,.box [.d (.sl 1 (s.vars.map za3)),.d (.sl 5 (s.bounds.map za0.d)),cI s.init.kind,cPs s.init.r.t.parts,cB s.init.r.t.k.neg,.d (nsl s.init.r.t.k.abs),cB s.init.r.eq,cFs s.init.kids,.d (.sl 3 (s.procs.map za2.d)),.d (.sl 10 (s.acts.map za5.d))]),(6,.box [cIs x.locs,cZs x.vals]),(7,.row 9 1 ((plN s x 0).map za3))]) (congrArg (fun (z_:List ByteArray)=>F.of [(2,vp 5 0),(3,vp 6 0),(4,.t (.c (.d (.raw (.string ByteArray.empty))))),(5,.t (.c (.own 7 0))),(13,(vIs x.locs)),(14,vi .i64 (x.locs.length:Int)),(15,vi .i64 0)] [(5,.box [.d (.sl 1 (s.vars.map za3)),.d (.sl 5 (s.bounds.map za0.d)),cI s.init.kind,cPs s.init.r.t.parts,cB s.init.r.t.k.neg,.d (nsl s.init.r.t.k.abs),cB s.init.r.eq,cFs s.init.kids,.d (.sl 3 (s.procs.map za2.d)),.d (.sl 10 (s.acts.map za5.d))]),(6,.box [cIs x.locs,cZs x.vals]),(7,.row 9 1 (z_.map za3))]) (show ([]:List ByteArray)=(plN s x 0) from rfl))
 refine zci (ι:=(Nat)) (fun (z_:(Nat))=>match z_ with | j=>j≤x.locs.length)
   (fun (z_:(Nat))=>match z_ with | j=>[(2,vp 5 0),(3,vp 6 0),(4,.t (.c (.d (.raw (.string ByteArray.empty))))),(5,.t (.c (.own 7 (plN s x j).length))),(13,(vIs x.locs)),(14,vi .i64 (x.locs.length:Int)),(15,vi .i64 (j:Int))])
   (fun (z_:(Nat))=>match z_ with | j=>[(5,.box [.d (.sl 1 (s.vars.map za3)),.d (.sl 5 (s.bounds.map za0.d)),cI s.init.kind,cPs s.init.r.t.parts,cB s.init.r.t.k.neg,.d (nsl s.init.r.t.k.abs),cB s.init.r.eq,cFs s.init.kids,.d (.sl 3 (s.procs.map za2.d)),.d (.sl 10 (s.acts.map za5.d))]),(6,.box [cIs x.locs,cZs x.vals]),(7,.row 9 1 ((plN s x j).map za3))])
   (fun (z_:(Nat))=>match z_ with | j=>x.locs.length - j) 0 ?_ h (by kernel_rfl) (by kernel_rfl) ?_
 ·exact Nat.zero_le _
 ·clear h;rintro j a w hI h
  change St _ (F.of [(2,vp 5 0),(3,vp 6 0),(4,.t (.c (.d (.raw (.string ByteArray.empty))))),(5,.t (.c (.own 7 (plN s x j).length))),(13,(vIs x.locs)),(14,vi .i64 (x.locs.length:Int)),(15,vi .i64 (j:Int))] [(5,.box [.d (.sl 1 (s.vars.map za3)),.d (.sl 5 (s.bounds.map za0.d)),cI s.init.kind,cPs s.init.r.t.parts,cB s.init.r.t.k.neg,.d (nsl s.init.r.t.k.abs),cB s.init.r.eq,cFs s.init.kids,.d (.sl 3 (s.procs.map za2.d)),.d (.sl 10 (s.acts.map za5.d))]),(6,.box [cIs x.locs,cZs x.vals]),(7,.row 9 1 ((plN s x j).map za3))]) a w at h
  have lmj:=zc5 s x j
  refine rq za1 8 [] [(2,vp 5 0),(3,vp 6 0),(4,.t (.c (.d (.raw (.string ByteArray.empty))))),(5,.t (.c (.own 7 (plN s x j).length))),(13,(vIs x.locs)),(14,vi .i64 (x.locs.length:Int)),(15,vi .i64 (j:Int)),(16,vb (decide ((j:Int)<(x.locs.length:Int))))] [(5,.box [.d (.sl 1 (s.vars.map za3)),.d (.sl 5 (s.bounds.map za0.d)),cI s.init.kind,cPs s.init.r.t.parts,cB s.init.r.t.k.neg,.d (nsl s.init.r.t.k.abs),cB s.init.r.eq,cFs s.init.kids,.d (.sl 3 (s.procs.map za2.d)),.d (.sl 10 (s.acts.map za5.d))]),(6,.box [cIs x.locs,cZs x.vals]),(7,.row 9 1 ((plN s x j).map za3))] h ?_;clear h;intro a w h
  refine wp_seq ?_
  refine zac (decide ((j:Int)<(x.locs.length:Int))) h rfl (fun hc=>?_) (fun hc=>?_)
  ·have hc1:=hc;clear hc
   have hc1':=of_decide_eq_true hc1
   refine wp_skip (za4 (wp_seq (wp_block ?_)))
   obtain ⟨x1,hx1⟩:∃ z_:Int,x.locs[j]?=some z_:=⟨_,List.getElem?_eq_getElem (by first | omega | (simp at *;omega))⟩
   refine rq za1 8 [(1,.gen _ _ _ fun _ _ _ _=>Op.idxD (d:=18) (t:=13) (k:=.i64) tb_1 (zam hx1 (f:=zdg)) (OV.tmp 15 _))] [(2,vp 5 0),(3,vp 6 0),(4,.t (.c (.d (.raw (.string ByteArray.empty))))),(5,.t (.c (.own 7 (plN s x j).length))),(6,vi .i64 (j:Int)),(7,vi .i64 x1),(13,(vIs x.locs)),(14,vi .i64 (x.locs.length:Int)),(15,vi .i64 (j:Int))] [(5,.box [.d (.sl 1 (s.vars.map za3)),.d (.sl 5 (s.bounds.map za0.d)),cI s.init.kind,cPs s.init.r.t.parts,cB s.init.r.t.k.neg,.d (nsl s.init.r.t.k.abs),cB s.init.r.eq,cFs s.init.kids,.d (.sl 3 (s.procs.map za2.d)),.d (.sl 10 (s.acts.map za5.d))]),(6,.box [cIs x.locs,cZs x.vals]),(7,.row 9 1 ((plN s x j).map za3))] h ?_;clear h;intro a w h
   refine rn za1 8 [(4,.call (PPlace s (j:Int) x1 hz) ph1_1),(5,.gen _ _ _ fun _ _ _ _=>Op.buildD (d:=25) (len:=1) (rows:=[(plW s (j:Int) x1)].map za3) (rs:=[(24,.t (.c (.d (.raw (.string (plW s (j:Int) x1))))))]) zd5 (.cons (i:=0) (OV.tmp 24 _) (.nil)) (by kernel_rfl) rfl (by simp [za3]) (by decide) (by decide)),(6,.gen _ _ _ fun _ _ _ _=>Op.appOD (d:=26) (t:=20) (u:=25) (n:=7) (n':=8) (len:=(plN s x j).length) (len':=((plN s x j)++[(plW s (j:Int) x1)]).length) (rows:=(plN s x j).map za3) (rows2:=[(plW s (j:Int) x1)].map za3) (rows':=((plN s x j)++[(plW s (j:Int) x1)]).map za3) ph1_3 (by first | exact (List.length_map _).symm | simp) (by first | (rw [List.length_append,List.length_map];done) | simp) (by simp) (by simp [za3]) (by first | omega | (simp at *;done) | (simp at *;omega)))] [(2,vp 5 0),(3,vp 6 0),(4,.t (.c (.d (.raw (.string ByteArray.empty))))),(5,.t (.c (.own 8 ((plN s x j)++[(plW s (j:Int) x1)]).length))),(13,(vIs x.locs)),(14,vi .i64 (x.locs.length:Int)),(15,vi .i64 (j:Int))] [(5,.box [.d (.sl 1 (s.vars.map za3)),.d (.sl 5 (s.bounds.map za0.d)),cI s.init.kind,cPs s.init.r.t.parts,cB s.init.r.t.k.neg,.d (nsl s.init.r.t.k.abs),cB s.init.r.eq,cFs s.init.kids,.d (.sl 3 (s.procs.map za2.d)),.d (.sl 10 (s.acts.map za5.d))]),(6,.box [cIs x.locs,cZs x.vals]),(8,.row 9 1 (((plN s x j)++[(plW s (j:Int) x1)]).map za3))] h ?_;clear h;intro a w h
   refine zai (za4 (rn za1 9 [(0,.add .i64 (m:=(j:Int)) (n:=1) (zaj (by omega) (by omega)))] [(2,vp 5 0),(3,vp 6 0),(4,.t (.c (.d (.raw (.string ByteArray.empty))))),(5,.t (.c (.own 8 ((plN s x j)++[(plW s (j:Int) x1)]).length))),(13,(vIs x.locs)),(14,vi .i64 (x.locs.length:Int)),(15,vi .i64 ((j:Int)+1))] [(5,.box [.d (.sl 1 (s.vars.map za3)),.d (.sl 5 (s.bounds.map za0.d)),cI s.init.kind,cPs s.init.r.t.parts,cB s.init.r.t.k.neg,.d (nsl s.init.r.t.k.abs),cB s.init.r.eq,cFs s.init.kids,.d (.sl 3 (s.procs.map za2.d)),.d (.sl 10 (s.acts.map za5.d))]),(6,.box [cIs x.locs,cZs x.vals]),(8,.row 9 1 (((plN s x j)++[(plW s (j:Int) x1)]).map za3))] h ?_));clear h;intro a w h
   refine za4 ?_
   replace h:=h.conv (f':=F.of [(2,vp 5 0),(3,vp 6 0),(4,.t (.c (.d (.raw (.string ByteArray.empty))))),(5,.t (.c (.own 8 (plN s x (j+1)).length))),(13,(vIs x.locs)),(14,vi .i64 (x.locs.length:Int)),(15,vi .i64 ((j:Int)+1))] [(5,.box [.d (.sl 1 (s.vars.map za3)),.d (.sl 5 (s.bounds.map za0.d)),cI s.init.kind,cPs s.init.r.t.parts,cB s.init.r.t.k.neg,.d (nsl s.init.r.t.k.abs),cB s.init.r.eq,cFs s.init.kids,.d (.sl 3 (s.procs.map za2.d)),.d (.sl 10 (s.acts.map za5.d))]),(6,.box [cIs x.locs,cZs x.vals]),(8,.row 9 1 ((plN s x (j+1)).map za3))]) (congrArg (fun (z_:List ByteArray)=>F.of [(2,vp 5 0),(3,vp 6 0),(4,.t (.c (.d (.raw (.string ByteArray.empty))))),(5,.t (.c (.own 8 z_.length))),(13,(vIs x.locs)),(14,vi .i64 (x.locs.length:Int)),(15,vi .i64 ((j:Int)+1))] [(5,.box [.d (.sl 1 (s.vars.map za3)),.d (.sl 5 (s.bounds.map za0.d)),cI s.init.kind,cPs s.init.r.t.parts,cB s.init.r.t.k.neg,.d (nsl s.init.r.t.k.abs),cB s.init.r.eq,cFs s.init.kids,.d (.sl 3 (s.procs.map za2.d)),.d (.sl 10 (s.acts.map za5.d))]),(6,.box [cIs x.locs,cZs x.vals]),(8,.row 9 1 (z_.map za3))]) (show (((plN s x j)++[(plW s (j:Int) x1)]):List ByteArray)=(plN s x (j+1)) from (plN_snoc hx1)))
   replace h:=renS 8 7 [(2,vp 5 0),(3,vp 6 0),(4,.t (.c (.d (.raw (.string ByteArray.empty))))),(5,.t (.c (.own 7 (plN s x (j+1)).length))),(13,(vIs x.locs)),(14,vi .i64 (x.locs.length:Int)),(15,vi .i64 ((j:Int)+1))] [(5,.box [.d (.sl 1 (s.vars.map za3)),.d (.sl 5 (s.bounds.map za0.d)),cI s.init.kind,cPs s.init.r.t.parts,cB s.init.r.t.k.neg,.d (nsl s.init.r.t.k.abs),cB s.init.r.eq,cFs s.init.kids,.d (.sl 3 (s.procs.map za2.d)),.d (.sl 10 (s.acts.map za5.d))]),(6,.box [cIs x.locs,cZs x.vals]),(7,.row 9 1 ((plN s x (j+1)).map za3))] h
   refine zas (x:=j) (y:=j+1) h ?_ ?_
   ·have:=zao hx1
    show j+1≤x.locs.length
    omega
   ·show x.locs.length - (j+1)<x.locs.length - j
    have:=zao hx1;omega
  ·have hc2:=hc;clear hc
   have hc2':=of_decide_eq_false hc2
   refine wp_exit (zar (zar (zag (za4 (wp_seq (rq za1 9 [(2,.len (c:=(cZs x.vals)) (n:=x.vals.length) (za8 _ _ _))] [(2,vp 5 0),(4,.t (.c (.d (.raw (.string ByteArray.empty))))),(5,.t (.c (.own 7 (plN s x j).length))),(29,(vZs x.vals)),(30,vi .i64 (x.vals.length:Int)),(31,vi .i64 0)] [(5,.box [.d (.sl 1 (s.vars.map za3)),.d (.sl 5 (s.bounds.map za0.d)),cI s.init.kind,cPs s.init.r.t.parts,cB s.init.r.t.k.neg,.d (nsl s.init.r.t.k.abs),cB s.init.r.eq,cFs s.init.kids,.d (.sl 3 (s.procs.map za2.d)),.d (.sl 10 (s.acts.map za5.d))]),(7,.row 9 1 ((plN s x j).map za3))] h ?_))))));clear h;intro a w h
   refine wp_block ?_
   replace h:=h.conv (f':=F.of [(2,vp 5 0),(4,.t (.c (.d (.raw (.string ByteArray.empty))))),(5,.t (.c (.own 7 (plN s x x.locs.length++vaN s x 0).length))),(29,(vZs x.vals)),(30,vi .i64 (x.vals.length:Int)),(31,vi .i64 0)] [(5,.box [.d (.sl 1 (s.vars.map za3)),.d (.sl 5 (s.bounds.map za0.d)),cI s.init.kind,cPs s.init.r.t.parts,cB s.init.r.t.k.neg,.d (nsl s.init.r.t.k.abs),cB s.init.r.eq,cFs s.init.kids,.d (.sl 3 (s.procs.map za2.d)),.d (.sl 10 (s.acts.map za5.d))]),(7,.row 9 1 ((plN s x x.locs.length++vaN s x 0).map za3))]) (congrArg (fun (z_:List ByteArray)=>F.of [(2,vp 5 0),(4,.t (.c (.d (.raw (.string ByteArray.empty))))),(5,.t (.c (.own 7 z_.length))),(29,(vZs x.vals)),(30,vi .i64 (x.vals.length:Int)),(31,vi .i64 0)] [(5,.box [.d (.sl 1 (s.vars.map za3)),.d (.sl 5 (s.bounds.map za0.d)),cI s.init.kind,cPs s.init.r.t.parts,cB s.init.r.t.k.neg,.d (nsl s.init.r.t.k.abs),cB s.init.r.eq,cFs s.init.kids,.d (.sl 3 (s.procs.map za2.d)),.d (.sl 10 (s.acts.map za5.d))]),(7,.row 9 1 (z_.map za3))]) (show ((plN s x j):List ByteArray)=(plN s x x.locs.length++vaN s x 0) from (by rw [show j=x.locs.length by have:=of_decide_eq_false hc2;omega];simp [vaN])))
   refine zci (ι:=(Nat)) (fun (z_:(Nat))=>match z_ with | k=>k≤x.vals.length)
     (fun (z_:(Nat))=>match z_ with | k=>[(2,vp 5 0),(4,.t (.c (.d (.raw (.string ByteArray.empty))))),(5,.t (.c (.own 7 (plN s x x.locs.length++vaN s x k).length))),(29,(vZs x.vals)),(30,vi .i64 (x.vals.length:Int)),(31,vi .i64 (k:Int))])
     (fun (z_:(Nat))=>match z_ with | k=>[(5,.box [.d (.sl 1 (s.vars.map za3)),.d (.sl 5 (s.bounds.map za0.d)),cI s.init.kind,cPs s.init.r.t.parts,cB s.init.r.t.k.neg,.d (nsl s.init.r.t.k.abs),cB s.init.r.eq,cFs s.init.kids,.d (.sl 3 (s.procs.map za2.d)),.d (.sl 10 (s.acts.map za5.d))]),(7,.row 9 1 ((plN s x x.locs.length++vaN s x k).map za3))])
     (fun (z_:(Nat))=>match z_ with | k=>x.vals.length - k) 0 ?_ h (by kernel_rfl) (by kernel_rfl) ?_
   ·exact Nat.zero_le _
   ·clear h;rintro k a w hI h
    change St _ (F.of [(2,vp 5 0),(4,.t (.c (.d (.raw (.string ByteArray.empty))))),(5,.t (.c (.own 7 (plN s x x.locs.length++vaN s x k).length))),(29,(vZs x.vals)),(30,vi .i64 (x.vals.length:Int)),(31,vi .i64 (k:Int))] [(5,.box [.d (.sl 1 (s.vars.map za3)),.d (.sl 5 (s.bounds.map za0.d)),cI s.init.kind,cPs s.init.r.t.parts,cB s.init.r.t.k.neg,.d (nsl s.init.r.t.k.abs),cB s.init.r.eq,cFs s.init.kids,.d (.sl 3 (s.procs.map za2.d)),.d (.sl 10 (s.acts.map za5.d))]),(7,.row 9 1 ((plN s x x.locs.length++vaN s x k).map za3))]) a w at h
    have lmk:(plN s x x.locs.length++vaN s x k).length≤x.locs.length+k:=by rw [List.length_append,zc5,vaN_len];omega
    refine rq za1 9 [] [(2,vp 5 0),(4,.t (.c (.d (.raw (.string ByteArray.empty))))),(5,.t (.c (.own 7 (plN s x x.locs.length++vaN s x k).length))),(29,(vZs x.vals)),(30,vi .i64 (x.vals.length:Int)),(31,vi .i64 (k:Int)),(32,vb (decide ((k:Int)<(x.vals.length:Int))))] [(5,.box [.d (.sl 1 (s.vars.map za3)),.d (.sl 5 (s.bounds.map za0.d)),cI s.init.kind,cPs s.init.r.t.parts,cB s.init.r.t.k.neg,.d (nsl s.init.r.t.k.abs),cB s.init.r.eq,cFs s.init.kids,.d (.sl 3 (s.procs.map za2.d)),.d (.sl 10 (s.acts.map za5.d))]),(7,.row 9 1 ((plN s x x.locs.length++vaN s x k).map za3))] h ?_;clear h;intro a w h
    refine wp_seq ?_
    refine zac (decide ((k:Int)<(x.vals.length:Int))) h rfl (fun hc=>?_) (fun hc=>?_)
    ·have hc3:=hc;clear hc
     have hc3':=of_decide_eq_true hc3
     refine wp_skip (za4 (wp_seq (wp_block ?_)))
     obtain ⟨x3,hx3⟩:∃ z_:ZI,x.vals[k]?=some z_:=⟨_,List.getElem?_eq_getElem (by first | omega | (simp at *;omega))⟩
     have gx3:=hx.val x3 (List.mem_of_getElem? hx3)
     have lix3:=zct gx3.1 gx3.2
     refine rq za1 9 [(1,.gen _ _ _ fun _ _ _ _=>Op.idxD (d:=34) (t:=29) (k:=.i64) tt_6 (zam hx3 (f:=ziD)) (OV.tmp 31 _))] [(2,vp 5 0),(4,.t (.c (.d (.raw (.string ByteArray.empty))))),(5,.t (.c (.own 7 (plN s x x.locs.length++vaN s x k).length))),(8,vi .i64 (k:Int)),(9,vp 9 0),(29,(vZs x.vals)),(30,vi .i64 (x.vals.length:Int)),(31,vi .i64 (k:Int))] [(5,.box [.d (.sl 1 (s.vars.map za3)),.d (.sl 5 (s.bounds.map za0.d)),cI s.init.kind,cPs s.init.r.t.parts,cB s.init.r.t.k.neg,.d (nsl s.init.r.t.k.abs),cB s.init.r.eq,cFs s.init.kids,.d (.sl 3 (s.procs.map za2.d)),.d (.sl 10 (s.acts.map za5.d))]),(7,.row 9 1 ((plN s x x.locs.length++vaN s x k).map za3)),(9,.box (zi x3))] h ?_;clear h;intro a w h
     rcases hv:s.vars[k]? with _ | nm
     ·have hat:=(zbh (xs:=s.vars)).trans hv
      refine rq za1 10 [(3,.call (PAtTN s.vars (k:Int) hat) pb1_1)] [(2,vp 5 0),(4,.t (.c (.d (.raw (.string ByteArray.empty))))),(5,.t (.c (.own 7 (plN s x x.locs.length++vaN s x k).length))),(9,vp 9 0),(10,.t (.c (.d (.raw (.string (⟨#[]⟩:ByteArray)))))),(11,vb false),(29,(vZs x.vals)),(30,vi .i64 (x.vals.length:Int)),(31,vi .i64 (k:Int))] [(5,.box [.d (.sl 1 (s.vars.map za3)),.d (.sl 5 (s.bounds.map za0.d)),cI s.init.kind,cPs s.init.r.t.parts,cB s.init.r.t.k.neg,.d (nsl s.init.r.t.k.abs),cB s.init.r.eq,cFs s.init.kids,.d (.sl 3 (s.procs.map za2.d)),.d (.sl 10 (s.acts.map za5.d))]),(7,.row 9 1 ((plN s x x.locs.length++vaN s x k).map za3)),(9,.box (zi x3))] h ?_;clear h;intro a w h
      refine wp_seq (rq za1 10 [] [(2,vp 5 0),(4,.t (.c (.d (.raw (.string ByteArray.empty))))),(5,.t (.c (.own 7 (plN s x x.locs.length++vaN s x k).length))),(9,vp 9 0),(10,.t (.c (.d (.raw (.string (⟨#[]⟩:ByteArray)))))),(29,(vZs x.vals)),(30,vi .i64 (x.vals.length:Int)),(31,vi .i64 (k:Int)),(44,vb true)] [(5,.box [.d (.sl 1 (s.vars.map za3)),.d (.sl 5 (s.bounds.map za0.d)),cI s.init.kind,cPs s.init.r.t.parts,cB s.init.r.t.k.neg,.d (nsl s.init.r.t.k.abs),cB s.init.r.eq,cFs s.init.kids,.d (.sl 3 (s.procs.map za2.d)),.d (.sl 10 (s.acts.map za5.d))]),(7,.row 9 1 ((plN s x x.locs.length++vaN s x k).map za3)),(9,.box (zi x3))] h ?_);clear h;intro a w h
      refine zac true h rfl (fun hc=>?_) (fun hc=>?_)
      ·clear hc
       refine rn za1 10 [] [(2,vp 5 0),(4,.t (.c (.d (.raw (.string ByteArray.empty))))),(5,.t (.c (.own 7 (plN s x x.locs.length++vaN s x k).length))),(9,vp 9 0),(10,.t (.c (.d (.raw (.string (⟨#[63]⟩:ByteArray)))))),(29,(vZs x.vals)),(30,vi .i64 (x.vals.length:Int)),(31,vi .i64 (k:Int))] [(5,.box [.d (.sl 1 (s.vars.map za3)),.d (.sl 5 (s.bounds.map za0.d)),cI s.init.kind,cPs s.init.r.t.parts,cB s.init.r.t.k.neg,.d (nsl s.init.r.t.k.abs),cB s.init.r.eq,cFs s.init.kids,.d (.sl 3 (s.procs.map za2.d)),.d (.sl 10 (s.acts.map za5.d))]),(7,.row 9 1 ((plN s x x.locs.length++vaN s x k).map za3)),(9,.box (zi x3))] h ?_;clear h;intro a w h
       refine za4 (rn za1 10 [(2,.gen _ _ _ fun _ _ _ _=>Op.strAdd (d:=47) (xt:=9) (yt:=9) (s1:=(⟨#[63]⟩:ByteArray)) (s2:=(⟨#[61]⟩:ByteArray)) (r:=((⟨#[63]⟩:ByteArray)++(⟨#[61]⟩:ByteArray))) (OV.tmp 46 _) (OV.const (.string (⟨#[61]⟩:ByteArray)) rfl) (by have:(⟨#[63]⟩:ByteArray).size=1:=rfl;have:(⟨#[61]⟩:ByteArray).size=1:=rfl;omega) rfl),(4,.call (SZText x3 gx3.1 (by have:=gx3.2;omega)) ph1_6),(5,.gen _ _ _ fun _ _ _ _=>Op.strAdd (d:=50) (xt:=9) (yt:=9) (s1:=((⟨#[63]⟩:ByteArray)++(⟨#[61]⟩:ByteArray))) (s2:=(itW x3.val)) (r:=(((⟨#[63]⟩:ByteArray)++(⟨#[61]⟩:ByteArray))++(itW x3.val))) (OV.tmp 47 _) (OV.tmp 49 _) (by (try simp only [ByteArray.size_append]);have:(⟨#[63]⟩:ByteArray).size=1:=rfl;have:(⟨#[61]⟩:ByteArray).size=1:=rfl;omega) rfl),(6,.gen _ _ _ fun _ _ _ _=>Op.buildD (d:=51) (len:=1) (rows:=[(((⟨#[63]⟩:ByteArray)++(⟨#[61]⟩:ByteArray))++(itW x3.val))].map za3) (rs:=[(50,.t (.c (.d (.raw (.string (((⟨#[63]⟩:ByteArray)++(⟨#[61]⟩:ByteArray))++(itW x3.val)))))))]) zd5 (.cons (i:=0) (OV.tmp 50 _) (.nil)) (by kernel_rfl) rfl (by simp [za3]) (by decide) (by decide)),(7,.gen _ _ _ fun _ _ _ _=>Op.appOD (d:=52) (t:=45) (u:=51) (n:=7) (n':=10) (len:=(plN s x x.locs.length++vaN s x k).length) (len':=((plN s x x.locs.length++vaN s x k)++[(((⟨#[63]⟩:ByteArray)++(⟨#[61]⟩:ByteArray))++(itW x3.val))]).length) (rows:=(plN s x x.locs.length++vaN s x k).map za3) (rows2:=[(((⟨#[63]⟩:ByteArray)++(⟨#[61]⟩:ByteArray))++(itW x3.val))].map za3) (rows':=((plN s x x.locs.length++vaN s x k)++[(((⟨#[63]⟩:ByteArray)++(⟨#[61]⟩:ByteArray))++(itW x3.val))]).map za3) ph1_3 (by first | exact (List.length_map _).symm | simp) (by first | (rw [List.length_append,List.length_map];done) | simp) (by simp) (by simp [za3]) (by first | omega | (simp at *;done) | (simp at *;omega)))] [(2,vp 5 0),(4,.t (.c (.d (.raw (.string ByteArray.empty))))),(5,.t (.c (.own 10 ((plN s x x.locs.length++vaN s x k)++[(((⟨#[63]⟩:ByteArray)++(⟨#[61]⟩:ByteArray))++(itW x3.val))]).length))),(29,(vZs x.vals)),(30,vi .i64 (x.vals.length:Int)),(31,vi .i64 (k:Int))] [(5,.box [.d (.sl 1 (s.vars.map za3)),.d (.sl 5 (s.bounds.map za0.d)),cI s.init.kind,cPs s.init.r.t.parts,cB s.init.r.t.k.neg,.d (nsl s.init.r.t.k.abs),cB s.init.r.eq,cFs s.init.kids,.d (.sl 3 (s.procs.map za2.d)),.d (.sl 10 (s.acts.map za5.d))]),(10,.row 9 1 (((plN s x x.locs.length++vaN s x k)++[(((⟨#[63]⟩:ByteArray)++(⟨#[61]⟩:ByteArray))++(itW x3.val))]).map za3))] h ?_);clear h;intro a w h
       refine zai (za4 (rn za1 11 [(0,.add .i64 (m:=(k:Int)) (n:=1) (zaj (by omega) (by omega)))] [(2,vp 5 0),(4,.t (.c (.d (.raw (.string ByteArray.empty))))),(5,.t (.c (.own 10 ((plN s x x.locs.length++vaN s x k)++[(((⟨#[63]⟩:ByteArray)++(⟨#[61]⟩:ByteArray))++(itW x3.val))]).length))),(29,(vZs x.vals)),(30,vi .i64 (x.vals.length:Int)),(31,vi .i64 ((k:Int)+1))] [(5,.box [.d (.sl 1 (s.vars.map za3)),.d (.sl 5 (s.bounds.map za0.d)),cI s.init.kind,cPs s.init.r.t.parts,cB s.init.r.t.k.neg,.d (nsl s.init.r.t.k.abs),cB s.init.r.eq,cFs s.init.kids,.d (.sl 3 (s.procs.map za2.d)),.d (.sl 10 (s.acts.map za5.d))]),(10,.row 9 1 (((plN s x x.locs.length++vaN s x k)++[(((⟨#[63]⟩:ByteArray)++(⟨#[61]⟩:ByteArray))++(itW x3.val))]).map za3))] h ?_));clear h;intro a w h
       refine za4 ?_
       replace h:=h.conv (f':=F.of [(2,vp 5 0),(4,.t (.c (.d (.raw (.string ByteArray.empty))))),(5,.t (.c (.own 10 (plN s x x.locs.length++vaN s x (k+1)).length))),(29,(vZs x.vals)),(30,vi .i64 (x.vals.length:Int)),(31,vi .i64 ((k:Int)+1))] [(5,.box [.d (.sl 1 (s.vars.map za3)),.d (.sl 5 (s.bounds.map za0.d)),cI s.init.kind,cPs s.init.r.t.parts,cB s.init.r.t.k.neg,.d (nsl s.init.r.t.k.abs),cB s.init.r.eq,cFs s.init.kids,.d (.sl 3 (s.procs.map za2.d)),.d (.sl 10 (s.acts.map za5.d))]),(10,.row 9 1 ((plN s x x.locs.length++vaN s x (k+1)).map za3))]) (congrArg (fun (z_:List ByteArray)=>F.of [(2,vp 5 0),(4,.t (.c (.d (.raw (.string ByteArray.empty))))),(5,.t (.c (.own 10 z_.length))),(29,(vZs x.vals)),(30,vi .i64 (x.vals.length:Int)),(31,vi .i64 ((k:Int)+1))] [(5,.box [.d (.sl 1 (s.vars.map za3)),.d (.sl 5 (s.bounds.map za0.d)),cI s.init.kind,cPs s.init.r.t.parts,cB s.init.r.t.k.neg,.d (nsl s.init.r.t.k.abs),cB s.init.r.eq,cFs s.init.kids,.d (.sl 3 (s.procs.map za2.d)),.d (.sl 10 (s.acts.map za5.d))]),(10,.row 9 1 (z_.map za3))]) (show (((plN s x x.locs.length++vaN s x k)++[(((⟨#[63]⟩:ByteArray)++(⟨#[61]⟩:ByteArray))++(itW x3.val))]):List ByteArray)=(plN s x x.locs.length++vaN s x (k+1)) from (pv_snoc hx3 (vaW_n hv))))
       replace h:=renS 10 7 [(2,vp 5 0),(4,.t (.c (.d (.raw (.string ByteArray.empty))))),(5,.t (.c (.own 7 (plN s x x.locs.length++vaN s x (k+1)).length))),(29,(vZs x.vals)),(30,vi .i64 (x.vals.length:Int)),(31,vi .i64 ((k:Int)+1))] [(5,.box [.d (.sl 1 (s.vars.map za3)),.d (.sl 5 (s.bounds.map za0.d)),cI s.init.kind,cPs s.init.r.t.parts,cB s.init.r.t.k.neg,.d (nsl s.init.r.t.k.abs),cB s.init.r.eq,cFs s.init.kids,.d (.sl 3 (s.procs.map za2.d)),.d (.sl 10 (s.acts.map za5.d))]),(7,.row 9 1 ((plN s x x.locs.length++vaN s x (k+1)).map za3))] h
       refine zas (x:=k) (y:=k+1) h ?_ ?_
       ·have:=zao hx3
        show k+1≤x.vals.length
        omega
       ·show x.vals.length - (k+1)<x.vals.length - k
        have:=zao hx3;omega
      ·cases hc
     ·have hat:=(zbh (xs:=s.vars)).trans hv
      have lnm:=hz.vars nm (List.mem_of_getElem? hv)
      refine rq za1 10 [(3,.call (PAtTS s.vars (k:Int) nm hat) pb1_1)] [(2,vp 5 0),(4,.t (.c (.d (.raw (.string ByteArray.empty))))),(5,.t (.c (.own 7 (plN s x x.locs.length++vaN s x k).length))),(9,vp 9 0),(10,.t (.c (.d (.raw (.string nm))))),(11,vb true),(29,(vZs x.vals)),(30,vi .i64 (x.vals.length:Int)),(31,vi .i64 (k:Int))] [(5,.box [.d (.sl 1 (s.vars.map za3)),.d (.sl 5 (s.bounds.map za0.d)),cI s.init.kind,cPs s.init.r.t.parts,cB s.init.r.t.k.neg,.d (nsl s.init.r.t.k.abs),cB s.init.r.eq,cFs s.init.kids,.d (.sl 3 (s.procs.map za2.d)),.d (.sl 10 (s.acts.map za5.d))]),(7,.row 9 1 ((plN s x x.locs.length++vaN s x k).map za3)),(9,.box (zi x3))] h ?_;clear h;intro a w h
      refine wp_seq (rq za1 10 [] [(2,vp 5 0),(4,.t (.c (.d (.raw (.string ByteArray.empty))))),(5,.t (.c (.own 7 (plN s x x.locs.length++vaN s x k).length))),(9,vp 9 0),(10,.t (.c (.d (.raw (.string nm))))),(29,(vZs x.vals)),(30,vi .i64 (x.vals.length:Int)),(31,vi .i64 (k:Int)),(44,vb false)] [(5,.box [.d (.sl 1 (s.vars.map za3)),.d (.sl 5 (s.bounds.map za0.d)),cI s.init.kind,cPs s.init.r.t.parts,cB s.init.r.t.k.neg,.d (nsl s.init.r.t.k.abs),cB s.init.r.eq,cFs s.init.kids,.d (.sl 3 (s.procs.map za2.d)),.d (.sl 10 (s.acts.map za5.d))]),(7,.row 9 1 ((plN s x x.locs.length++vaN s x k).map za3)),(9,.box (zi x3))] h ?_);clear h;intro a w h
      refine zac false h rfl (fun hc=>?_) (fun hc=>?_)
      ·cases hc
      ·clear hc
       refine wp_skip (za4 (rn za1 10 [(2,.gen _ _ _ fun _ _ _ _=>Op.strAdd (d:=47) (xt:=9) (yt:=9) (s1:=nm) (s2:=(⟨#[61]⟩:ByteArray)) (r:=(nm++(⟨#[61]⟩:ByteArray))) (OV.tmp 46 _) (OV.const (.string (⟨#[61]⟩:ByteArray)) rfl) (by have:(⟨#[61]⟩:ByteArray).size=1:=rfl;omega) rfl),(4,.call (SZText x3 gx3.1 (by have:=gx3.2;omega)) ph1_6),(5,.gen _ _ _ fun _ _ _ _=>Op.strAdd (d:=50) (xt:=9) (yt:=9) (s1:=(nm++(⟨#[61]⟩:ByteArray))) (s2:=(itW x3.val)) (r:=((nm++(⟨#[61]⟩:ByteArray))++(itW x3.val))) (OV.tmp 47 _) (OV.tmp 49 _) (by (try simp only [ByteArray.size_append]);have:(⟨#[61]⟩:ByteArray).size=1:=rfl;omega) rfl),(6,.gen _ _ _ fun _ _ _ _=>Op.buildD (d:=51) (len:=1) (rows:=[((nm++(⟨#[61]⟩:ByteArray))++(itW x3.val))].map za3) (rs:=[(50,.t (.c (.d (.raw (.string ((nm++(⟨#[61]⟩:ByteArray))++(itW x3.val)))))))]) zd5 (.cons (i:=0) (OV.tmp 50 _) (.nil)) (by kernel_rfl) rfl (by simp [za3]) (by decide) (by decide)),(7,.gen _ _ _ fun _ _ _ _=>Op.appOD (d:=52) (t:=45) (u:=51) (n:=7) (n':=10) (len:=(plN s x x.locs.length++vaN s x k).length) (len':=((plN s x x.locs.length++vaN s x k)++[((nm++(⟨#[61]⟩:ByteArray))++(itW x3.val))]).length) (rows:=(plN s x x.locs.length++vaN s x k).map za3) (rows2:=[((nm++(⟨#[61]⟩:ByteArray))++(itW x3.val))].map za3) (rows':=((plN s x x.locs.length++vaN s x k)++[((nm++(⟨#[61]⟩:ByteArray))++(itW x3.val))]).map za3) ph1_3 (by first | exact (List.length_map _).symm | simp) (by first | (rw [List.length_append,List.length_map];done) | simp) (by simp) (by simp [za3]) (by first | omega | (simp at *;done) | (simp at *;omega)))] [(2,vp 5 0),(4,.t (.c (.d (.raw (.string ByteArray.empty))))),(5,.t (.c (.own 10 ((plN s x x.locs.length++vaN s x k)++[((nm++(⟨#[61]⟩:ByteArray))++(itW x3.val))]).length))),(29,(vZs x.vals)),(30,vi .i64 (x.vals.length:Int)),(31,vi .i64 (k:Int))] [(5,.box [.d (.sl 1 (s.vars.map za3)),.d (.sl 5 (s.bounds.map za0.d)),cI s.init.kind,cPs s.init.r.t.parts,cB s.init.r.t.k.neg,.d (nsl s.init.r.t.k.abs),cB s.init.r.eq,cFs s.init.kids,.d (.sl 3 (s.procs.map za2.d)),.d (.sl 10 (s.acts.map za5.d))]),(10,.row 9 1 (((plN s x x.locs.length++vaN s x k)++[((nm++(⟨#[61]⟩:ByteArray))++(itW x3.val))]).map za3))] h ?_));clear h;intro a w h
       refine zai (za4 (rn za1 11 [(0,.add .i64 (m:=(k:Int)) (n:=1) (zaj (by omega) (by omega)))] [(2,vp 5 0),(4,.t (.c (.d (.raw (.string ByteArray.empty))))),(5,.t (.c (.own 10 ((plN s x x.locs.length++vaN s x k)++[((nm++(⟨#[61]⟩:ByteArray))++(itW x3.val))]).length))),(29,(vZs x.vals)),(30,vi .i64 (x.vals.length:Int)),(31,vi .i64 ((k:Int)+1))] [(5,.box [.d (.sl 1 (s.vars.map za3)),.d (.sl 5 (s.bounds.map za0.d)),cI s.init.kind,cPs s.init.r.t.parts,cB s.init.r.t.k.neg,.d (nsl s.init.r.t.k.abs),cB s.init.r.eq,cFs s.init.kids,.d (.sl 3 (s.procs.map za2.d)),.d (.sl 10 (s.acts.map za5.d))]),(10,.row 9 1 (((plN s x x.locs.length++vaN s x k)++[((nm++(⟨#[61]⟩:ByteArray))++(itW x3.val))]).map za3))] h ?_));clear h;intro a w h
       refine za4 ?_
       replace h:=h.conv (f':=F.of [(2,vp 5 0),(4,.t (.c (.d (.raw (.string ByteArray.empty))))),(5,.t (.c (.own 10 (plN s x x.locs.length++vaN s x (k+1)).length))),(29,(vZs x.vals)),(30,vi .i64 (x.vals.length:Int)),(31,vi .i64 ((k:Int)+1))] [(5,.box [.d (.sl 1 (s.vars.map za3)),.d (.sl 5 (s.bounds.map za0.d)),cI s.init.kind,cPs s.init.r.t.parts,cB s.init.r.t.k.neg,.d (nsl s.init.r.t.k.abs),cB s.init.r.eq,cFs s.init.kids,.d (.sl 3 (s.procs.map za2.d)),.d (.sl 10 (s.acts.map za5.d))]),(10,.row 9 1 ((plN s x x.locs.length++vaN s x (k+1)).map za3))]) (congrArg (fun (z_:List ByteArray)=>F.of [(2,vp 5 0),(4,.t (.c (.d (.raw (.string ByteArray.empty))))),(5,.t (.c (.own 10 z_.length))),(29,(vZs x.vals)),(30,vi .i64 (x.vals.length:Int)),(31,vi .i64 ((k:Int)+1))] [(5,.box [.d (.sl 1 (s.vars.map za3)),.d (.sl 5 (s.bounds.map za0.d)),cI s.init.kind,cPs s.init.r.t.parts,cB s.init.r.t.k.neg,.d (nsl s.init.r.t.k.abs),cB s.init.r.eq,cFs s.init.kids,.d (.sl 3 (s.procs.map za2.d)),.d (.sl 10 (s.acts.map za5.d))]),(10,.row 9 1 (z_.map za3))]) (show (((plN s x x.locs.length++vaN s x k)++[((nm++(⟨#[61]⟩:ByteArray))++(itW x3.val))]):List ByteArray)=(plN s x x.locs.length++vaN s x (k+1)) from (pv_snoc hx3 (vaW_s hv))))
       replace h:=renS 10 7 [(2,vp 5 0),(4,.t (.c (.d (.raw (.string ByteArray.empty))))),(5,.t (.c (.own 7 (plN s x x.locs.length++vaN s x (k+1)).length))),(29,(vZs x.vals)),(30,vi .i64 (x.vals.length:Int)),(31,vi .i64 ((k:Int)+1))] [(5,.box [.d (.sl 1 (s.vars.map za3)),.d (.sl 5 (s.bounds.map za0.d)),cI s.init.kind,cPs s.init.r.t.parts,cB s.init.r.t.k.neg,.d (nsl s.init.r.t.k.abs),cB s.init.r.eq,cFs s.init.kids,.d (.sl 3 (s.procs.map za2.d)),.d (.sl 10 (s.acts.map za5.d))]),(7,.row 9 1 ((plN s x x.locs.length++vaN s x (k+1)).map za3))] h
       refine zas (x:=k) (y:=k+1) h ?_ ?_
       ·have:=zao hx3
        show k+1≤x.vals.length
        omega
       ·show x.vals.length - (k+1)<x.vals.length - k
        have:=zao hx3;omega
    ·have hc4:=hc;clear hc
     have hc4':=of_decide_eq_false hc4
     refine wp_exit (zar (zar (zag (za4 ?_))))
     replace h:=h.conv (f':=F.of [(2,vp 5 0),(4,.t (.c (.d (.raw (.string ByteArray.empty))))),(5,.t (.c (.own 7 (plN s x x.locs.length++vaN s x x.vals.length).length))),(29,(vZs x.vals)),(30,vi .i64 (x.vals.length:Int)),(31,vi .i64 (k:Int)),(32,vb (decide ((k:Int)<(x.vals.length:Int))))] [(5,.box [.d (.sl 1 (s.vars.map za3)),.d (.sl 5 (s.bounds.map za0.d)),cI s.init.kind,cPs s.init.r.t.parts,cB s.init.r.t.k.neg,.d (nsl s.init.r.t.k.abs),cB s.init.r.eq,cFs s.init.kids,.d (.sl 3 (s.procs.map za2.d)),.d (.sl 10 (s.acts.map za5.d))]),(7,.row 9 1 ((plN s x x.locs.length++vaN s x x.vals.length).map za3))]) (congrArg (fun (z_:List ByteArray)=>F.of [(2,vp 5 0),(4,.t (.c (.d (.raw (.string ByteArray.empty))))),(5,.t (.c (.own 7 z_.length))),(29,(vZs x.vals)),(30,vi .i64 (x.vals.length:Int)),(31,vi .i64 (k:Int)),(32,vb (decide ((k:Int)<(x.vals.length:Int))))] [(5,.box [.d (.sl 1 (s.vars.map za3)),.d (.sl 5 (s.bounds.map za0.d)),cI s.init.kind,cPs s.init.r.t.parts,cB s.init.r.t.k.neg,.d (nsl s.init.r.t.k.abs),cB s.init.r.eq,cFs s.init.kids,.d (.sl 3 (s.procs.map za2.d)),.d (.sl 10 (s.acts.map za5.d))]),(7,.row 9 1 (z_.map za3))]) (show ((plN s x x.locs.length++vaN s x k):List ByteArray)=(plN s x x.locs.length++vaN s x x.vals.length) from (by rw [show k=x.vals.length by have:=of_decide_eq_false hc4;omega])))
     replace h:=pubS 7 1 9 ((plN s x x.locs.length++vaN s x x.vals.length).map za3) [(2,vp 5 0),(4,.t (.c (.d (.raw (.string ByteArray.empty))))),(5,.t (.c (.d (.sl 1 ((plN s x x.locs.length++vaN s x x.vals.length).map za3))))),(29,(vZs x.vals)),(30,vi .i64 (x.vals.length:Int)),(31,vi .i64 (k:Int)),(32,vb (decide ((k:Int)<(x.vals.length:Int))))] [(5,.box [.d (.sl 1 (s.vars.map za3)),.d (.sl 5 (s.bounds.map za0.d)),cI s.init.kind,cPs s.init.r.t.parts,cB s.init.r.t.k.neg,.d (nsl s.init.r.t.k.abs),cB s.init.r.eq,cFs s.init.kids,.d (.sl 3 (s.procs.map za2.d)),.d (.sl 10 (s.acts.map za5.d))])] h rfl (show AllEq _ [(plN s x x.locs.length++vaN s x x.vals.length).length] from ⟨by first | exact (List.length_map _).symm | (simp;done) | (simp;omega),trivial⟩) trivial
     refine rq za1 11 [(1,.call (SJoin (plN s x x.locs.length++vaN s x x.vals.length) (⟨#[32]⟩:ByteArray) (by rw [List.length_append,zc5,vaN_len];omega) (Nat.le_trans (stW_sz hz hx) (by decide))) ph1_7)] [(4,.t (.c (.d (.raw (.string (za7 (plN s x x.locs.length++vaN s x x.vals.length) (⟨#[32]⟩:ByteArray)))))))] [] h ?_;clear h;intro a w h
     refine wp_ret ?_
     refine zaz [.c (.d (.raw (.string (za7 (plN s x x.locs.length++vaN s x x.vals.length) (⟨#[32]⟩:ByteArray)))))] h Exit.ret (.inl rfl)  rfl ⟨RV.tmp _ _ rfl,trivial⟩ ?_
     rfl
set_option maxHeartbeats 4000000 in
theorem RState (s:zap) (x:StD) (hz:zc2 s) (hx:StOk 4 x):Fn Tryd.prog 24 [] [.t (.agg [.d (.sl 1 (s.vars.map za3)),.d (.sl 5 (s.bounds.map za0.d)),cI s.init.kind,cPs s.init.r.t.parts,cB s.init.r.t.k.neg,.d (nsl s.init.r.t.k.abs),cB s.init.r.eq,cFs s.init.kids,.d (.sl 3 (s.procs.map za2.d)),.d (.sl 10 (s.acts.map za5.d))]),.t (.agg [cIs x.locs,cZs x.vals])] (vs (stW s x)) []:=by
 have lx1:=hx.locs
 have lx2:=hx.vals
 refine Fn.body Tryd.func24 rfl 69 rfl fun w H B a h=>?_
 refine rq za1 5 [] [(2,vp 5 0),(3,vp 6 0),(4,.t (.c (.d (.raw (.string ByteArray.empty)))))] [(5,.box [.d (.sl 1 (s.vars.map za3)),.d (.sl 5 (s.bounds.map za0.d)),cI s.init.kind,cPs s.init.r.t.parts,cB s.init.r.t.k.neg,.d (nsl s.init.r.t.k.abs),cB s.init.r.eq,cFs s.init.kids,.d (.sl 3 (s.procs.map za2.d)),.d (.sl 10 (s.acts.map za5.d))]),(6,.box [cIs x.locs,cZs x.vals])] h ?_;clear h;intro a w h
 refine rq za1 7 [] [(2,vp 5 0),(3,vp 6 0),(4,.t (.c (.d (.raw (.string ByteArray.empty))))),(5,.t (.c (.d (.raw (.string ByteArray.empty)))))] [(5,.box [.d (.sl 1 (s.vars.map za3)),.d (.sl 5 (s.bounds.map za0.d)),cI s.init.kind,cPs s.init.r.t.parts,cB s.init.r.t.k.neg,.d (nsl s.init.r.t.k.abs),cB s.init.r.eq,cFs s.init.kids,.d (.sl 3 (s.procs.map za2.d)),.d (.sl 10 (s.acts.map za5.d))]),(6,.box [cIs x.locs,cZs x.vals])] h ?_;clear h;intro a w h
 refine wp_seq (rq za1 7 [] [(2,vp 5 0),(3,vp 6 0),(4,.t (.c (.d (.raw (.string ByteArray.empty))))),(5,.t (.c (.d (.raw (.string ByteArray.empty))))),(6,vi .i64 0)] [(5,.box [.d (.sl 1 (s.vars.map za3)),.d (.sl 5 (s.bounds.map za0.d)),cI s.init.kind,cPs s.init.r.t.parts,cB s.init.r.t.k.neg,.d (nsl s.init.r.t.k.abs),cB s.init.r.eq,cFs s.init.kids,.d (.sl 3 (s.procs.map za2.d)),.d (.sl 10 (s.acts.map za5.d))]),(6,.box [cIs x.locs,cZs x.vals])] h ?_);clear h;intro a w h
 refine wp_block ?_
 replace h:=h.conv (f':=F.of [(2,vp 5 0),(3,vp 6 0),(4,.t (.c (.d (.raw (.string ByteArray.empty))))),(5,.t (.c (.d (.raw (.string (za7 (plN s x 0) (⟨#[32]⟩:ByteArray))))))),(6,vi .i64 0)] [(5,.box [.d (.sl 1 (s.vars.map za3)),.d (.sl 5 (s.bounds.map za0.d)),cI s.init.kind,cPs s.init.r.t.parts,cB s.init.r.t.k.neg,.d (nsl s.init.r.t.k.abs),cB s.init.r.eq,cFs s.init.kids,.d (.sl 3 (s.procs.map za2.d)),.d (.sl 10 (s.acts.map za5.d))]),(6,.box [cIs x.locs,cZs x.vals])]) (by kernel_rfl)
 refine zci (ι:=(Nat)) (fun (z_:(Nat))=>match z_ with | j=>j≤x.locs.length)
   (fun (z_:(Nat))=>match z_ with | j=>[(2,vp 5 0),(3,vp 6 0),(4,.t (.c (.d (.raw (.string ByteArray.empty))))),(5,.t (.c (.d (.raw (.string (za7 (plN s x j) (⟨#[32]⟩:ByteArray))))))),(6,vi .i64 (j:Int))])
   (fun (z_:(Nat))=>match z_ with | j=>[(5,.box [.d (.sl 1 (s.vars.map za3)),.d (.sl 5 (s.bounds.map za0.d)),cI s.init.kind,cPs s.init.r.t.parts,cB s.init.r.t.k.neg,.d (nsl s.init.r.t.k.abs),cB s.init.r.eq,cFs s.init.kids,.d (.sl 3 (s.procs.map za2.d)),.d (.sl 10 (s.acts.map za5.d))]),(6,.box [cIs x.locs,cZs x.vals])])
   (fun (z_:(Nat))=>match z_ with | j=>x.locs.length - j) 0 ?_ h (by kernel_rfl) (by kernel_rfl) ?_
 ·exact Nat.zero_le _
 ·clear h;rintro j a w hI h
  change St _ (F.of [(2,vp 5 0),(3,vp 6 0),(4,.t (.c (.d (.raw (.string ByteArray.empty))))),(5,.t (.c (.d (.raw (.string (za7 (plN s x j) (⟨#[32]⟩:ByteArray))))))),(6,vi .i64 (j:Int))] [(5,.box [.d (.sl 1 (s.vars.map za3)),.d (.sl 5 (s.bounds.map za0.d)),cI s.init.kind,cPs s.init.r.t.parts,cB s.init.r.t.k.neg,.d (nsl s.init.r.t.k.abs),cB s.init.r.eq,cFs s.init.kids,.d (.sl 3 (s.procs.map za2.d)),.d (.sl 10 (s.acts.map za5.d))]),(6,.box [cIs x.locs,cZs x.vals])]) a w at h
  have lmj:=zc5 s x j
  have lzj:=plN_sz hz hx hI
  refine wp_seq (rq za1 7 [(3,.len (c:=(cIs x.locs)) (n:=x.locs.length) (za8 _ _ _))] [(2,vp 5 0),(3,vp 6 0),(4,.t (.c (.d (.raw (.string ByteArray.empty))))),(5,.t (.c (.d (.raw (.string (za7 (plN s x j) (⟨#[32]⟩:ByteArray))))))),(6,vi .i64 (j:Int)),(13,vb (decide ((j:Int)<(x.locs.length:Int))))] [(5,.box [.d (.sl 1 (s.vars.map za3)),.d (.sl 5 (s.bounds.map za0.d)),cI s.init.kind,cPs s.init.r.t.parts,cB s.init.r.t.k.neg,.d (nsl s.init.r.t.k.abs),cB s.init.r.eq,cFs s.init.kids,.d (.sl 3 (s.procs.map za2.d)),.d (.sl 10 (s.acts.map za5.d))]),(6,.box [cIs x.locs,cZs x.vals])] h ?_);clear h;intro a w h
  refine zac (decide ((j:Int)<(x.locs.length:Int))) h rfl (fun hc=>?_) (fun hc=>?_)
  ·have hc1:=hc;clear hc
   have hc1':=of_decide_eq_true hc1
   refine wp_skip (za4 (wp_seq (wp_block (wp_seq (rq za1 7 [(1,.gen _ _ _ fun _ _ _ _=>Op.strNe (d:=17) (xt:=9) (yt:=9) (s1:=(za7 (plN s x j) (⟨#[32]⟩:ByteArray))) (s2:=ByteArray.empty) (r:=(decide (0<j))) (OV.tmp 16 _) (OV.const (.string ByteArray.empty) rfl) (joinB_ne (fun t ht=>(pl_all hz t ht).1) (by rw [zc5])))] [(2,vp 5 0),(3,vp 6 0),(4,.t (.c (.d (.raw (.string ByteArray.empty))))),(5,.t (.c (.d (.raw (.string (za7 (plN s x j) (⟨#[32]⟩:ByteArray))))))),(6,vi .i64 (j:Int)),(17,vb (decide (0<j)))] [(5,.box [.d (.sl 1 (s.vars.map za3)),.d (.sl 5 (s.bounds.map za0.d)),cI s.init.kind,cPs s.init.r.t.parts,cB s.init.r.t.k.neg,.d (nsl s.init.r.t.k.abs),cB s.init.r.eq,cFs s.init.kids,.d (.sl 3 (s.procs.map za2.d)),.d (.sl 10 (s.acts.map za5.d))]),(6,.box [cIs x.locs,cZs x.vals])] h ?_)))));clear h;intro a w h
   refine zac (decide (0<j)) h rfl (fun hc=>?_) (fun hc=>?_)
   ·have hc2:=hc;clear hc
    have hc2':=of_decide_eq_true hc2
    refine rn za1 7 [(1,.gen _ _ _ fun _ _ _ _=>Op.strAdd (d:=19) (xt:=9) (yt:=9) (s1:=(za7 (plN s x j) (⟨#[32]⟩:ByteArray))) (s2:=(⟨#[32]⟩:ByteArray)) (r:=((za7 (plN s x j) (⟨#[32]⟩:ByteArray))++(⟨#[32]⟩:ByteArray))) (OV.tmp 18 _) (OV.const (.string (⟨#[32]⟩:ByteArray)) rfl) (by have:(⟨#[32]⟩:ByteArray).size=1:=rfl;omega) rfl)] [(2,vp 5 0),(3,vp 6 0),(4,.t (.c (.d (.raw (.string ByteArray.empty))))),(5,.t (.c (.d (.raw (.string ((za7 (plN s x j) (⟨#[32]⟩:ByteArray))++(⟨#[32]⟩:ByteArray))))))),(6,vi .i64 (j:Int))] [(5,.box [.d (.sl 1 (s.vars.map za3)),.d (.sl 5 (s.bounds.map za0.d)),cI s.init.kind,cPs s.init.r.t.parts,cB s.init.r.t.k.neg,.d (nsl s.init.r.t.k.abs),cB s.init.r.eq,cFs s.init.kids,.d (.sl 3 (s.procs.map za2.d)),.d (.sl 10 (s.acts.map za5.d))]),(6,.box [cIs x.locs,cZs x.vals])] h ?_;clear h;intro a w h
    refine za4 ?_
    obtain ⟨x1,hx1⟩:∃ z_:Int,x.locs[j]?=some z_:=⟨_,List.getElem?_eq_getElem (by first | omega | (simp at *;omega))⟩
    have lp3:=(plW_sz hz (j:Int) x1).2
    refine rn za1 7 [(6,.gen _ _ _ fun _ _ _ _=>Op.idxD (d:=26) (t:=24) (k:=.i64) tb_1 (zam hx1 (f:=zdg)) (OV.tmp 25 _)),(8,.call (RPlace s (j:Int) x1 hz) ph1_8),(9,.gen _ _ _ fun _ _ _ _=>Op.strAdd (d:=29) (xt:=9) (yt:=9) (s1:=((za7 (plN s x j) (⟨#[32]⟩:ByteArray))++(⟨#[32]⟩:ByteArray))) (s2:=(plW s (j:Int) x1)) (r:=(((za7 (plN s x j) (⟨#[32]⟩:ByteArray))++(⟨#[32]⟩:ByteArray))++(plW s (j:Int) x1))) (OV.tmp 20 _) (OV.tmp 28 _) (by (try simp only [ByteArray.size_append]);have:(⟨#[32]⟩:ByteArray).size=1:=rfl;omega) rfl)] [(2,vp 5 0),(3,vp 6 0),(4,.t (.c (.d (.raw (.string ByteArray.empty))))),(5,.t (.c (.d (.raw (.string (((za7 (plN s x j) (⟨#[32]⟩:ByteArray))++(⟨#[32]⟩:ByteArray))++(plW s (j:Int) x1))))))),(6,vi .i64 (j:Int))] [(5,.box [.d (.sl 1 (s.vars.map za3)),.d (.sl 5 (s.bounds.map za0.d)),cI s.init.kind,cPs s.init.r.t.parts,cB s.init.r.t.k.neg,.d (nsl s.init.r.t.k.abs),cB s.init.r.eq,cFs s.init.kids,.d (.sl 3 (s.procs.map za2.d)),.d (.sl 10 (s.acts.map za5.d))]),(6,.box [cIs x.locs,cZs x.vals])] h ?_;clear h;intro a w h
    refine zai (za4 (rn za1 7 [(1,.add .i64 (m:=(j:Int)) (n:=1) (zaj (by omega) (by omega)))] [(2,vp 5 0),(3,vp 6 0),(4,.t (.c (.d (.raw (.string ByteArray.empty))))),(5,.t (.c (.d (.raw (.string (((za7 (plN s x j) (⟨#[32]⟩:ByteArray))++(⟨#[32]⟩:ByteArray))++(plW s (j:Int) x1))))))),(6,vi .i64 ((j:Int)+1))] [(5,.box [.d (.sl 1 (s.vars.map za3)),.d (.sl 5 (s.bounds.map za0.d)),cI s.init.kind,cPs s.init.r.t.parts,cB s.init.r.t.k.neg,.d (nsl s.init.r.t.k.abs),cB s.init.r.eq,cFs s.init.kids,.d (.sl 3 (s.procs.map za2.d)),.d (.sl 10 (s.acts.map za5.d))]),(6,.box [cIs x.locs,cZs x.vals])] h ?_));clear h;intro a w h
    refine za4 ?_
    replace h:=h.conv (f':=F.of [(2,vp 5 0),(3,vp 6 0),(4,.t (.c (.d (.raw (.string ByteArray.empty))))),(5,.t (.c (.d (.raw (.string (za7 (plN s x (j+1)) (⟨#[32]⟩:ByteArray))))))),(6,vi .i64 ((j:Int)+1))] [(5,.box [.d (.sl 1 (s.vars.map za3)),.d (.sl 5 (s.bounds.map za0.d)),cI s.init.kind,cPs s.init.r.t.parts,cB s.init.r.t.k.neg,.d (nsl s.init.r.t.k.abs),cB s.init.r.eq,cFs s.init.kids,.d (.sl 3 (s.procs.map za2.d)),.d (.sl 10 (s.acts.map za5.d))]),(6,.box [cIs x.locs,cZs x.vals])]) (by rw [show ((((za7 (plN s x j) (⟨#[32]⟩:ByteArray))++(⟨#[32]⟩:ByteArray))++(plW s (j:Int) x1)):ByteArray)=(za7 (plN s x (j+1)) (⟨#[32]⟩:ByteArray)) from (pl_more hx1 (by have:=of_decide_eq_true hc2;omega))])
    refine zas (x:=j) (y:=j+1) h ?_ ?_
    ·have:=zao hx1
     show j+1≤x.locs.length
     omega
    ·show x.locs.length - (j+1)<x.locs.length - j
     have:=zao hx1;omega
   ·have hc4:=hc;clear hc
    have hc4':=of_decide_eq_false hc4
    refine wp_skip (za4 ?_)
    obtain ⟨x3,hx3⟩:∃ z_:Int,x.locs[j]?=some z_:=⟨_,List.getElem?_eq_getElem (by first | omega | (simp at *;omega))⟩
    have lp5:=(plW_sz hz (j:Int) x3).2
    refine rn za1 7 [(6,.gen _ _ _ fun _ _ _ _=>Op.idxD (d:=26) (t:=24) (k:=.i64) tb_1 (zam hx3 (f:=zdg)) (OV.tmp 25 _)),(8,.call (RPlace s (j:Int) x3 hz) ph1_8),(9,.gen _ _ _ fun _ _ _ _=>Op.strAdd (d:=29) (xt:=9) (yt:=9) (s1:=(za7 (plN s x j) (⟨#[32]⟩:ByteArray))) (s2:=(plW s (j:Int) x3)) (r:=((za7 (plN s x j) (⟨#[32]⟩:ByteArray))++(plW s (j:Int) x3))) (OV.tmp 20 _) (OV.tmp 28 _) (by have:(⟨#[32]⟩:ByteArray).size=1:=rfl;omega) rfl)] [(2,vp 5 0),(3,vp 6 0),(4,.t (.c (.d (.raw (.string ByteArray.empty))))),(5,.t (.c (.d (.raw (.string ((za7 (plN s x j) (⟨#[32]⟩:ByteArray))++(plW s (j:Int) x3))))))),(6,vi .i64 (j:Int))] [(5,.box [.d (.sl 1 (s.vars.map za3)),.d (.sl 5 (s.bounds.map za0.d)),cI s.init.kind,cPs s.init.r.t.parts,cB s.init.r.t.k.neg,.d (nsl s.init.r.t.k.abs),cB s.init.r.eq,cFs s.init.kids,.d (.sl 3 (s.procs.map za2.d)),.d (.sl 10 (s.acts.map za5.d))]),(6,.box [cIs x.locs,cZs x.vals])] h ?_;clear h;intro a w h
    refine zai (za4 (rn za1 7 [(1,.add .i64 (m:=(j:Int)) (n:=1) (zaj (by omega) (by omega)))] [(2,vp 5 0),(3,vp 6 0),(4,.t (.c (.d (.raw (.string ByteArray.empty))))),(5,.t (.c (.d (.raw (.string ((za7 (plN s x j) (⟨#[32]⟩:ByteArray))++(plW s (j:Int) x3))))))),(6,vi .i64 ((j:Int)+1))] [(5,.box [.d (.sl 1 (s.vars.map za3)),.d (.sl 5 (s.bounds.map za0.d)),cI s.init.kind,cPs s.init.r.t.parts,cB s.init.r.t.k.neg,.d (nsl s.init.r.t.k.abs),cB s.init.r.eq,cFs s.init.kids,.d (.sl 3 (s.procs.map za2.d)),.d (.sl 10 (s.acts.map za5.d))]),(6,.box [cIs x.locs,cZs x.vals])] h ?_));clear h;intro a w h
    refine za4 ?_
    replace h:=h.conv (f':=F.of [(2,vp 5 0),(3,vp 6 0),(4,.t (.c (.d (.raw (.string ByteArray.empty))))),(5,.t (.c (.d (.raw (.string (za7 (plN s x (j+1)) (⟨#[32]⟩:ByteArray))))))),(6,vi .i64 ((j:Int)+1))] [(5,.box [.d (.sl 1 (s.vars.map za3)),.d (.sl 5 (s.bounds.map za0.d)),cI s.init.kind,cPs s.init.r.t.parts,cB s.init.r.t.k.neg,.d (nsl s.init.r.t.k.abs),cB s.init.r.eq,cFs s.init.kids,.d (.sl 3 (s.procs.map za2.d)),.d (.sl 10 (s.acts.map za5.d))]),(6,.box [cIs x.locs,cZs x.vals])]) (by rw [show (((za7 (plN s x j) (⟨#[32]⟩:ByteArray))++(plW s (j:Int) x3)):ByteArray)=(za7 (plN s x (j+1)) (⟨#[32]⟩:ByteArray)) from (pl_first hx3 (by have:=of_decide_eq_false hc4;omega))])
    refine zas (x:=j) (y:=j+1) h ?_ ?_
    ·have:=zao hx3
     show j+1≤x.locs.length
     omega
    ·show x.locs.length - (j+1)<x.locs.length - j
     have:=zao hx3;omega
  ·have hc6:=hc;clear hc
   have hc6':=of_decide_eq_false hc6
   refine wp_exit (zar (zar (zag (za4 (wp_seq (rq za1 7 [] [(2,vp 5 0),(3,vp 6 0),(4,.t (.c (.d (.raw (.string ByteArray.empty))))),(5,.t (.c (.d (.raw (.string (za7 (plN s x j) (⟨#[32]⟩:ByteArray))))))),(7,vi .i64 0)] [(5,.box [.d (.sl 1 (s.vars.map za3)),.d (.sl 5 (s.bounds.map za0.d)),cI s.init.kind,cPs s.init.r.t.parts,cB s.init.r.t.k.neg,.d (nsl s.init.r.t.k.abs),cB s.init.r.eq,cFs s.init.kids,.d (.sl 3 (s.procs.map za2.d)),.d (.sl 10 (s.acts.map za5.d))]),(6,.box [cIs x.locs,cZs x.vals])] h ?_))))));clear h;intro a w h
   refine wp_block ?_
   replace h:=h.conv (f':=F.of [(2,vp 5 0),(3,vp 6 0),(4,.t (.c (.d (.raw (.string ByteArray.empty))))),(5,.t (.c (.d (.raw (.string (za7 (plN s x x.locs.length++vaN s x 0) (⟨#[32]⟩:ByteArray))))))),(7,vi .i64 0)] [(5,.box [.d (.sl 1 (s.vars.map za3)),.d (.sl 5 (s.bounds.map za0.d)),cI s.init.kind,cPs s.init.r.t.parts,cB s.init.r.t.k.neg,.d (nsl s.init.r.t.k.abs),cB s.init.r.eq,cFs s.init.kids,.d (.sl 3 (s.procs.map za2.d)),.d (.sl 10 (s.acts.map za5.d))]),(6,.box [cIs x.locs,cZs x.vals])]) (by rw [show ((za7 (plN s x j) (⟨#[32]⟩:ByteArray)):ByteArray)=(za7 (plN s x x.locs.length++vaN s x 0) (⟨#[32]⟩:ByteArray)) from (by rw [show j=x.locs.length by have:=of_decide_eq_false hc6;omega,show vaN s x 0=[] from rfl,List.append_nil])])
   refine zci (ι:=(Nat)) (fun (z_:(Nat))=>match z_ with | k=>k≤x.vals.length)
     (fun (z_:(Nat))=>match z_ with | k=>[(2,vp 5 0),(3,vp 6 0),(4,.t (.c (.d (.raw (.string ByteArray.empty))))),(5,.t (.c (.d (.raw (.string (za7 (plN s x x.locs.length++vaN s x k) (⟨#[32]⟩:ByteArray))))))),(7,vi .i64 (k:Int))])
     (fun (z_:(Nat))=>match z_ with | k=>[(5,.box [.d (.sl 1 (s.vars.map za3)),.d (.sl 5 (s.bounds.map za0.d)),cI s.init.kind,cPs s.init.r.t.parts,cB s.init.r.t.k.neg,.d (nsl s.init.r.t.k.abs),cB s.init.r.eq,cFs s.init.kids,.d (.sl 3 (s.procs.map za2.d)),.d (.sl 10 (s.acts.map za5.d))]),(6,.box [cIs x.locs,cZs x.vals])])
     (fun (z_:(Nat))=>match z_ with | k=>x.vals.length - k) 0 ?_ h (by kernel_rfl) (by kernel_rfl) ?_
   ·exact Nat.zero_le _
   ·clear h;rintro k a w hI h
    change St _ (F.of [(2,vp 5 0),(3,vp 6 0),(4,.t (.c (.d (.raw (.string ByteArray.empty))))),(5,.t (.c (.d (.raw (.string (za7 (plN s x x.locs.length++vaN s x k) (⟨#[32]⟩:ByteArray))))))),(7,vi .i64 (k:Int))] [(5,.box [.d (.sl 1 (s.vars.map za3)),.d (.sl 5 (s.bounds.map za0.d)),cI s.init.kind,cPs s.init.r.t.parts,cB s.init.r.t.k.neg,.d (nsl s.init.r.t.k.abs),cB s.init.r.eq,cFs s.init.kids,.d (.sl 3 (s.procs.map za2.d)),.d (.sl 10 (s.acts.map za5.d))]),(6,.box [cIs x.locs,cZs x.vals])]) a w at h
    have lzk:=pvN_sz hz hx (Nat.le_refl _) hI
    refine wp_seq (rq za1 7 [(3,.len (c:=(cZs x.vals)) (n:=x.vals.length) (za8 _ _ _))] [(2,vp 5 0),(3,vp 6 0),(4,.t (.c (.d (.raw (.string ByteArray.empty))))),(5,.t (.c (.d (.raw (.string (za7 (plN s x x.locs.length++vaN s x k) (⟨#[32]⟩:ByteArray))))))),(7,vi .i64 (k:Int)),(34,vb (decide ((k:Int)<(x.vals.length:Int))))] [(5,.box [.d (.sl 1 (s.vars.map za3)),.d (.sl 5 (s.bounds.map za0.d)),cI s.init.kind,cPs s.init.r.t.parts,cB s.init.r.t.k.neg,.d (nsl s.init.r.t.k.abs),cB s.init.r.eq,cFs s.init.kids,.d (.sl 3 (s.procs.map za2.d)),.d (.sl 10 (s.acts.map za5.d))]),(6,.box [cIs x.locs,cZs x.vals])] h ?_);clear h;intro a w h
    refine zac (decide ((k:Int)<(x.vals.length:Int))) h rfl (fun hc=>?_) (fun hc=>?_)
    ·have hc7:=hc;clear hc
     have hc7':=of_decide_eq_true hc7
     refine wp_skip (za4 (wp_seq (wp_block (wp_seq ?_))))
     rcases Bool.eq_false_or_eq_true (decide ((k:Int)>0)) with hc | hc
     ·have hc8:=hc;clear hc
      have hc8':=of_decide_eq_true hc8
      refine rq za1 7 [(1,.cmp (op:=.gtr) (m:=(k:Int)) (n:=0) (b:=true) .i64 hc8)] [(2,vp 5 0),(3,vp 6 0),(4,.t (.c (.d (.raw (.string ByteArray.empty))))),(5,.t (.c (.d (.raw (.string (za7 (plN s x x.locs.length++vaN s x k) (⟨#[32]⟩:ByteArray))))))),(7,vi .i64 (k:Int)),(44,vb true)] [(5,.box [.d (.sl 1 (s.vars.map za3)),.d (.sl 5 (s.bounds.map za0.d)),cI s.init.kind,cPs s.init.r.t.parts,cB s.init.r.t.k.neg,.d (nsl s.init.r.t.k.abs),cB s.init.r.eq,cFs s.init.kids,.d (.sl 3 (s.procs.map za2.d)),.d (.sl 10 (s.acts.map za5.d))]),(6,.box [cIs x.locs,cZs x.vals])] h ?_;clear h;intro a w h
      refine zac true h rfl (fun hc=>?_) (fun hc=>?_)
      ·clear hc
       refine rn za1 7 [(1,.gen _ _ _ fun _ _ _ _=>Op.strAdd (d:=46) (xt:=9) (yt:=9) (s1:=(za7 (plN s x x.locs.length++vaN s x k) (⟨#[32]⟩:ByteArray))) (s2:=(⟨#[32]⟩:ByteArray)) (r:=((za7 (plN s x x.locs.length++vaN s x k) (⟨#[32]⟩:ByteArray))++(⟨#[32]⟩:ByteArray))) (OV.tmp 45 _) (OV.const (.string (⟨#[32]⟩:ByteArray)) rfl) (by (try simp only [ByteArray.size_append]);have:(⟨#[32]⟩:ByteArray).size=1:=rfl;omega) rfl)] [(2,vp 5 0),(3,vp 6 0),(4,.t (.c (.d (.raw (.string ByteArray.empty))))),(5,.t (.c (.d (.raw (.string ((za7 (plN s x x.locs.length++vaN s x k) (⟨#[32]⟩:ByteArray))++(⟨#[32]⟩:ByteArray))))))),(7,vi .i64 (k:Int))] [(5,.box [.d (.sl 1 (s.vars.map za3)),.d (.sl 5 (s.bounds.map za0.d)),cI s.init.kind,cPs s.init.r.t.parts,cB s.init.r.t.k.neg,.d (nsl s.init.r.t.k.abs),cB s.init.r.eq,cFs s.init.kids,.d (.sl 3 (s.procs.map za2.d)),.d (.sl 10 (s.acts.map za5.d))]),(6,.box [cIs x.locs,cZs x.vals])] h ?_;clear h;intro a w h
       refine za4 (rq za1 7 [] [(2,vp 5 0),(3,vp 6 0),(4,.t (.c (.d (.raw (.string ByteArray.empty))))),(5,.t (.c (.d (.raw (.string ((za7 (plN s x x.locs.length++vaN s x k) (⟨#[32]⟩:ByteArray))++(⟨#[32]⟩:ByteArray))))))),(7,vi .i64 (k:Int)),(8,.t (.c (.d (.raw (.string (⟨#[63]⟩:ByteArray))))))] [(5,.box [.d (.sl 1 (s.vars.map za3)),.d (.sl 5 (s.bounds.map za0.d)),cI s.init.kind,cPs s.init.r.t.parts,cB s.init.r.t.k.neg,.d (nsl s.init.r.t.k.abs),cB s.init.r.eq,cFs s.init.kids,.d (.sl 3 (s.procs.map za2.d)),.d (.sl 10 (s.acts.map za5.d))]),(6,.box [cIs x.locs,cZs x.vals])] h ?_);clear h;intro a w h
       refine wp_seq (rq za1 7 [(3,.len (c:=(.d (.sl 1 (s.vars.map za3)))) (n:=s.vars.length) (za8 _ _ _))] [(2,vp 5 0),(3,vp 6 0),(4,.t (.c (.d (.raw (.string ByteArray.empty))))),(5,.t (.c (.d (.raw (.string ((za7 (plN s x x.locs.length++vaN s x k) (⟨#[32]⟩:ByteArray))++(⟨#[32]⟩:ByteArray))))))),(7,vi .i64 (k:Int)),(8,.t (.c (.d (.raw (.string (⟨#[63]⟩:ByteArray)))))),(51,vb (decide ((k:Int)<(s.vars.length:Int))))] [(5,.box [.d (.sl 1 (s.vars.map za3)),.d (.sl 5 (s.bounds.map za0.d)),cI s.init.kind,cPs s.init.r.t.parts,cB s.init.r.t.k.neg,.d (nsl s.init.r.t.k.abs),cB s.init.r.eq,cFs s.init.kids,.d (.sl 3 (s.procs.map za2.d)),.d (.sl 10 (s.acts.map za5.d))]),(6,.box [cIs x.locs,cZs x.vals])] h ?_);clear h;intro a w h
       refine zac (decide ((k:Int)<(s.vars.length:Int))) h rfl (fun hc=>?_) (fun hc=>?_)
       ·have hc9:=hc;clear hc
        have hc9':=of_decide_eq_true hc9
        obtain ⟨x5,hx5⟩:∃ z_:ByteArray,s.vars[k]?=some z_:=⟨_,List.getElem?_eq_getElem (by first | omega | (simp at *;omega))⟩
        have lx5:=hz.vars x5 (List.mem_of_getElem? hx5)
        refine rn za1 7 [(3,.gen _ _ _ fun _ _ _ _=>Op.idxD (d:=55) (t:=53) (k:=.i64) pa1_4 (zam hx5 (f:=za3)) (OV.tmp 54 _))] [(2,vp 5 0),(3,vp 6 0),(4,.t (.c (.d (.raw (.string ByteArray.empty))))),(5,.t (.c (.d (.raw (.string ((za7 (plN s x x.locs.length++vaN s x k) (⟨#[32]⟩:ByteArray))++(⟨#[32]⟩:ByteArray))))))),(7,vi .i64 (k:Int)),(8,.t (.c (.d (.raw (.string x5)))))] [(5,.box [.d (.sl 1 (s.vars.map za3)),.d (.sl 5 (s.bounds.map za0.d)),cI s.init.kind,cPs s.init.r.t.parts,cB s.init.r.t.k.neg,.d (nsl s.init.r.t.k.abs),cB s.init.r.eq,cFs s.init.kids,.d (.sl 3 (s.procs.map za2.d)),.d (.sl 10 (s.acts.map za5.d))]),(6,.box [cIs x.locs,cZs x.vals])] h ?_;clear h;intro a w h
        refine za4 ?_
        obtain ⟨x6,hx6⟩:∃ z_:ZI,x.vals[k]?=some z_:=⟨_,List.getElem?_eq_getElem (by first | omega | (simp at *;omega))⟩
        have gx6:=hx.val x6 (List.mem_of_getElem? hx6)
        have lix6:=zct gx6.1 gx6.2
        refine rn za1 7 [(2,.gen _ _ _ fun _ _ _ _=>Op.strAdd (d:=59) (xt:=9) (yt:=9) (s1:=((za7 (plN s x x.locs.length++vaN s x k) (⟨#[32]⟩:ByteArray))++(⟨#[32]⟩:ByteArray))) (s2:=x5) (r:=(((za7 (plN s x x.locs.length++vaN s x k) (⟨#[32]⟩:ByteArray))++(⟨#[32]⟩:ByteArray))++x5)) (OV.tmp 57 _) (OV.tmp 58 _) (by (try simp only [ByteArray.size_append]);have:(⟨#[32]⟩:ByteArray).size=1:=rfl;omega) rfl),(3,.gen _ _ _ fun _ _ _ _=>Op.strAdd (d:=60) (xt:=9) (yt:=9) (s1:=(((za7 (plN s x x.locs.length++vaN s x k) (⟨#[32]⟩:ByteArray))++(⟨#[32]⟩:ByteArray))++x5)) (s2:=(⟨#[61]⟩:ByteArray)) (r:=((((za7 (plN s x x.locs.length++vaN s x k) (⟨#[32]⟩:ByteArray))++(⟨#[32]⟩:ByteArray))++x5)++(⟨#[61]⟩:ByteArray))) (OV.tmp 59 _) (OV.const (.string (⟨#[61]⟩:ByteArray)) rfl) (by (try simp only [ByteArray.size_append]);have:(⟨#[32]⟩:ByteArray).size=1:=rfl;have:(⟨#[61]⟩:ByteArray).size=1:=rfl;omega) rfl),(7,.gen _ _ _ fun _ _ _ _=>Op.idxD (d:=64) (t:=62) (k:=.i64) tt_6 (zam hx6 (f:=ziD)) (OV.tmp 63 _)),(9,.call (zdc x6 gx6.1 (by have:=gx6.2;omega)) ph1_10),(10,.gen _ _ _ fun _ _ _ _=>Op.strAdd (d:=67) (xt:=9) (yt:=9) (s1:=((((za7 (plN s x x.locs.length++vaN s x k) (⟨#[32]⟩:ByteArray))++(⟨#[32]⟩:ByteArray))++x5)++(⟨#[61]⟩:ByteArray))) (s2:=(itW x6.val)) (r:=(((((za7 (plN s x x.locs.length++vaN s x k) (⟨#[32]⟩:ByteArray))++(⟨#[32]⟩:ByteArray))++x5)++(⟨#[61]⟩:ByteArray))++(itW x6.val))) (OV.tmp 60 _) (OV.tmp 66 _) (by (try simp only [ByteArray.size_append]);have:(⟨#[32]⟩:ByteArray).size=1:=rfl;have:(⟨#[61]⟩:ByteArray).size=1:=rfl;omega) rfl)] [(2,vp 5 0),(3,vp 6 0),(4,.t (.c (.d (.raw (.string ByteArray.empty))))),(5,.t (.c (.d (.raw (.string (((((za7 (plN s x x.locs.length++vaN s x k) (⟨#[32]⟩:ByteArray))++(⟨#[32]⟩:ByteArray))++x5)++(⟨#[61]⟩:ByteArray))++(itW x6.val))))))),(7,vi .i64 (k:Int))] [(5,.box [.d (.sl 1 (s.vars.map za3)),.d (.sl 5 (s.bounds.map za0.d)),cI s.init.kind,cPs s.init.r.t.parts,cB s.init.r.t.k.neg,.d (nsl s.init.r.t.k.abs),cB s.init.r.eq,cFs s.init.kids,.d (.sl 3 (s.procs.map za2.d)),.d (.sl 10 (s.acts.map za5.d))]),(6,.box [cIs x.locs,cZs x.vals])] h ?_;clear h;intro a w h
        refine zai (za4 (rn za1 7 [(1,.add .i64 (m:=(k:Int)) (n:=1) (zaj (by omega) (by omega)))] [(2,vp 5 0),(3,vp 6 0),(4,.t (.c (.d (.raw (.string ByteArray.empty))))),(5,.t (.c (.d (.raw (.string (((((za7 (plN s x x.locs.length++vaN s x k) (⟨#[32]⟩:ByteArray))++(⟨#[32]⟩:ByteArray))++x5)++(⟨#[61]⟩:ByteArray))++(itW x6.val))))))),(7,vi .i64 ((k:Int)+1))] [(5,.box [.d (.sl 1 (s.vars.map za3)),.d (.sl 5 (s.bounds.map za0.d)),cI s.init.kind,cPs s.init.r.t.parts,cB s.init.r.t.k.neg,.d (nsl s.init.r.t.k.abs),cB s.init.r.eq,cFs s.init.kids,.d (.sl 3 (s.procs.map za2.d)),.d (.sl 10 (s.acts.map za5.d))]),(6,.box [cIs x.locs,cZs x.vals])] h ?_));clear h;intro a w h
        refine za4 ?_
        replace h:=h.conv (f':=F.of [(2,vp 5 0),(3,vp 6 0),(4,.t (.c (.d (.raw (.string ByteArray.empty))))),(5,.t (.c (.d (.raw (.string (za7 (plN s x x.locs.length++vaN s x (k+1)) (⟨#[32]⟩:ByteArray))))))),(7,vi .i64 ((k:Int)+1))] [(5,.box [.d (.sl 1 (s.vars.map za3)),.d (.sl 5 (s.bounds.map za0.d)),cI s.init.kind,cPs s.init.r.t.parts,cB s.init.r.t.k.neg,.d (nsl s.init.r.t.k.abs),cB s.init.r.eq,cFs s.init.kids,.d (.sl 3 (s.procs.map za2.d)),.d (.sl 10 (s.acts.map za5.d))]),(6,.box [cIs x.locs,cZs x.vals])]) (by rw [show ((((((za7 (plN s x x.locs.length++vaN s x k) (⟨#[32]⟩:ByteArray))++(⟨#[32]⟩:ByteArray))++x5)++(⟨#[61]⟩:ByteArray))++(itW x6.val)):ByteArray)=(za7 (plN s x x.locs.length++vaN s x (k+1)) (⟨#[32]⟩:ByteArray)) from (pv_more hx6 (by have:=of_decide_eq_true hc8;omega) (vaW_s hx5))])
        refine zas (x:=k) (y:=k+1) h ?_ ?_
        ·have:=zao hx6
         show k+1≤x.vals.length
         omega
        ·show x.vals.length - (k+1)<x.vals.length - k
         have:=zao hx6;omega
       ·have hc10:=hc;clear hc
        have hc10':=of_decide_eq_false hc10
        refine wp_skip (za4 ?_)
        obtain ⟨x8,hx8⟩:∃ z_:ZI,x.vals[k]?=some z_:=⟨_,List.getElem?_eq_getElem (by first | omega | (simp at *;omega))⟩
        have gx8:=hx.val x8 (List.mem_of_getElem? hx8)
        have lix8:=zct gx8.1 gx8.2
        refine rn za1 7 [(2,.gen _ _ _ fun _ _ _ _=>Op.strAdd (d:=59) (xt:=9) (yt:=9) (s1:=((za7 (plN s x x.locs.length++vaN s x k) (⟨#[32]⟩:ByteArray))++(⟨#[32]⟩:ByteArray))) (s2:=(⟨#[63]⟩:ByteArray)) (r:=(((za7 (plN s x x.locs.length++vaN s x k) (⟨#[32]⟩:ByteArray))++(⟨#[32]⟩:ByteArray))++(⟨#[63]⟩:ByteArray))) (OV.tmp 57 _) (OV.tmp 58 _) (by (try simp only [ByteArray.size_append]);have:(⟨#[32]⟩:ByteArray).size=1:=rfl;have:(⟨#[63]⟩:ByteArray).size=1:=rfl;omega) rfl),(3,.gen _ _ _ fun _ _ _ _=>Op.strAdd (d:=60) (xt:=9) (yt:=9) (s1:=(((za7 (plN s x x.locs.length++vaN s x k) (⟨#[32]⟩:ByteArray))++(⟨#[32]⟩:ByteArray))++(⟨#[63]⟩:ByteArray))) (s2:=(⟨#[61]⟩:ByteArray)) (r:=((((za7 (plN s x x.locs.length++vaN s x k) (⟨#[32]⟩:ByteArray))++(⟨#[32]⟩:ByteArray))++(⟨#[63]⟩:ByteArray))++(⟨#[61]⟩:ByteArray))) (OV.tmp 59 _) (OV.const (.string (⟨#[61]⟩:ByteArray)) rfl) (by (try simp only [ByteArray.size_append]);have:(⟨#[32]⟩:ByteArray).size=1:=rfl;have:(⟨#[63]⟩:ByteArray).size=1:=rfl;have:(⟨#[61]⟩:ByteArray).size=1:=rfl;omega) rfl),(7,.gen _ _ _ fun _ _ _ _=>Op.idxD (d:=64) (t:=62) (k:=.i64) tt_6 (zam hx8 (f:=ziD)) (OV.tmp 63 _)),(9,.call (zdc x8 gx8.1 (by have:=gx8.2;omega)) ph1_10),(10,.gen _ _ _ fun _ _ _ _=>Op.strAdd (d:=67) (xt:=9) (yt:=9) (s1:=((((za7 (plN s x x.locs.length++vaN s x k) (⟨#[32]⟩:ByteArray))++(⟨#[32]⟩:ByteArray))++(⟨#[63]⟩:ByteArray))++(⟨#[61]⟩:ByteArray))) (s2:=(itW x8.val)) (r:=(((((za7 (plN s x x.locs.length++vaN s x k) (⟨#[32]⟩:ByteArray))++(⟨#[32]⟩:ByteArray))++(⟨#[63]⟩:ByteArray))++(⟨#[61]⟩:ByteArray))++(itW x8.val))) (OV.tmp 60 _) (OV.tmp 66 _) (by (try simp only [ByteArray.size_append]);have:(⟨#[32]⟩:ByteArray).size=1:=rfl;have:(⟨#[63]⟩:ByteArray).size=1:=rfl;have:(⟨#[61]⟩:ByteArray).size=1:=rfl;omega) rfl)] [(2,vp 5 0),(3,vp 6 0),(4,.t (.c (.d (.raw (.string ByteArray.empty))))),(5,.t (.c (.d (.raw (.string (((((za7 (plN s x x.locs.length++vaN s x k) (⟨#[32]⟩:ByteArray))++(⟨#[32]⟩:ByteArray))++(⟨#[63]⟩:ByteArray))++(⟨#[61]⟩:ByteArray))++(itW x8.val))))))),(7,vi .i64 (k:Int))] [(5,.box [.d (.sl 1 (s.vars.map za3)),.d (.sl 5 (s.bounds.map za0.d)),cI s.init.kind,cPs s.init.r.t.parts,cB s.init.r.t.k.neg,.d (nsl s.init.r.t.k.abs),cB s.init.r.eq,cFs s.init.kids,.d (.sl 3 (s.procs.map za2.d)),.d (.sl 10 (s.acts.map za5.d))]),(6,.box [cIs x.locs,cZs x.vals])] h ?_;clear h;intro a w h
        refine zai (za4 (rn za1 7 [(1,.add .i64 (m:=(k:Int)) (n:=1) (zaj (by omega) (by omega)))] [(2,vp 5 0),(3,vp 6 0),(4,.t (.c (.d (.raw (.string ByteArray.empty))))),(5,.t (.c (.d (.raw (.string (((((za7 (plN s x x.locs.length++vaN s x k) (⟨#[32]⟩:ByteArray))++(⟨#[32]⟩:ByteArray))++(⟨#[63]⟩:ByteArray))++(⟨#[61]⟩:ByteArray))++(itW x8.val))))))),(7,vi .i64 ((k:Int)+1))] [(5,.box [.d (.sl 1 (s.vars.map za3)),.d (.sl 5 (s.bounds.map za0.d)),cI s.init.kind,cPs s.init.r.t.parts,cB s.init.r.t.k.neg,.d (nsl s.init.r.t.k.abs),cB s.init.r.eq,cFs s.init.kids,.d (.sl 3 (s.procs.map za2.d)),.d (.sl 10 (s.acts.map za5.d))]),(6,.box [cIs x.locs,cZs x.vals])] h ?_));clear h;intro a w h
        refine za4 ?_
        replace h:=h.conv (f':=F.of [(2,vp 5 0),(3,vp 6 0),(4,.t (.c (.d (.raw (.string ByteArray.empty))))),(5,.t (.c (.d (.raw (.string (za7 (plN s x x.locs.length++vaN s x (k+1)) (⟨#[32]⟩:ByteArray))))))),(7,vi .i64 ((k:Int)+1))] [(5,.box [.d (.sl 1 (s.vars.map za3)),.d (.sl 5 (s.bounds.map za0.d)),cI s.init.kind,cPs s.init.r.t.parts,cB s.init.r.t.k.neg,.d (nsl s.init.r.t.k.abs),cB s.init.r.eq,cFs s.init.kids,.d (.sl 3 (s.procs.map za2.d)),.d (.sl 10 (s.acts.map za5.d))]),(6,.box [cIs x.locs,cZs x.vals])]) (by rw [show ((((((za7 (plN s x x.locs.length++vaN s x k) (⟨#[32]⟩:ByteArray))++(⟨#[32]⟩:ByteArray))++(⟨#[63]⟩:ByteArray))++(⟨#[61]⟩:ByteArray))++(itW x8.val)):ByteArray)=(za7 (plN s x x.locs.length++vaN s x (k+1)) (⟨#[32]⟩:ByteArray)) from (pv_more hx8 (by have:=of_decide_eq_true hc8;omega) (vaW_n (List.getElem?_eq_none (by have:=of_decide_eq_false hc10;omega))))])
        refine zas (x:=k) (y:=k+1) h ?_ ?_
        ·have:=zao hx8
         show k+1≤x.vals.length
         omega
        ·show x.vals.length - (k+1)<x.vals.length - k
         have:=zao hx8;omega
      ·cases hc
     ·have hc11:=hc;clear hc
      have hc11':=of_decide_eq_false hc11
      refine rq za1 7 [(1,.cmp (op:=.gtr) (m:=(k:Int)) (n:=0) (b:=false) .i64 hc11),(5,.len (c:=(cIs x.locs)) (n:=x.locs.length) (za8 _ _ _))] [(2,vp 5 0),(3,vp 6 0),(4,.t (.c (.d (.raw (.string ByteArray.empty))))),(5,.t (.c (.d (.raw (.string (za7 (plN s x x.locs.length++vaN s x k) (⟨#[32]⟩:ByteArray))))))),(7,vi .i64 (k:Int)),(44,vb (decide ((x.locs.length:Int)>0)))] [(5,.box [.d (.sl 1 (s.vars.map za3)),.d (.sl 5 (s.bounds.map za0.d)),cI s.init.kind,cPs s.init.r.t.parts,cB s.init.r.t.k.neg,.d (nsl s.init.r.t.k.abs),cB s.init.r.eq,cFs s.init.kids,.d (.sl 3 (s.procs.map za2.d)),.d (.sl 10 (s.acts.map za5.d))]),(6,.box [cIs x.locs,cZs x.vals])] h ?_;clear h;intro a w h
      refine zac (decide ((x.locs.length:Int)>0)) h rfl (fun hc=>?_) (fun hc=>?_)
      ·have hc12:=hc;clear hc
       have hc12':=of_decide_eq_true hc12
       refine rn za1 7 [(1,.gen _ _ _ fun _ _ _ _=>Op.strAdd (d:=46) (xt:=9) (yt:=9) (s1:=(za7 (plN s x x.locs.length++vaN s x k) (⟨#[32]⟩:ByteArray))) (s2:=(⟨#[32]⟩:ByteArray)) (r:=((za7 (plN s x x.locs.length++vaN s x k) (⟨#[32]⟩:ByteArray))++(⟨#[32]⟩:ByteArray))) (OV.tmp 45 _) (OV.const (.string (⟨#[32]⟩:ByteArray)) rfl) (by (try simp only [ByteArray.size_append]);have:(⟨#[32]⟩:ByteArray).size=1:=rfl;omega) rfl)] [(2,vp 5 0),(3,vp 6 0),(4,.t (.c (.d (.raw (.string ByteArray.empty))))),(5,.t (.c (.d (.raw (.string ((za7 (plN s x x.locs.length++vaN s x k) (⟨#[32]⟩:ByteArray))++(⟨#[32]⟩:ByteArray))))))),(7,vi .i64 (k:Int))] [(5,.box [.d (.sl 1 (s.vars.map za3)),.d (.sl 5 (s.bounds.map za0.d)),cI s.init.kind,cPs s.init.r.t.parts,cB s.init.r.t.k.neg,.d (nsl s.init.r.t.k.abs),cB s.init.r.eq,cFs s.init.kids,.d (.sl 3 (s.procs.map za2.d)),.d (.sl 10 (s.acts.map za5.d))]),(6,.box [cIs x.locs,cZs x.vals])] h ?_;clear h;intro a w h
       refine za4 (rq za1 7 [] [(2,vp 5 0),(3,vp 6 0),(4,.t (.c (.d (.raw (.string ByteArray.empty))))),(5,.t (.c (.d (.raw (.string ((za7 (plN s x x.locs.length++vaN s x k) (⟨#[32]⟩:ByteArray))++(⟨#[32]⟩:ByteArray))))))),(7,vi .i64 (k:Int)),(8,.t (.c (.d (.raw (.string (⟨#[63]⟩:ByteArray))))))] [(5,.box [.d (.sl 1 (s.vars.map za3)),.d (.sl 5 (s.bounds.map za0.d)),cI s.init.kind,cPs s.init.r.t.parts,cB s.init.r.t.k.neg,.d (nsl s.init.r.t.k.abs),cB s.init.r.eq,cFs s.init.kids,.d (.sl 3 (s.procs.map za2.d)),.d (.sl 10 (s.acts.map za5.d))]),(6,.box [cIs x.locs,cZs x.vals])] h ?_);clear h;intro a w h
       refine wp_seq (rq za1 7 [(3,.len (c:=(.d (.sl 1 (s.vars.map za3)))) (n:=s.vars.length) (za8 _ _ _))] [(2,vp 5 0),(3,vp 6 0),(4,.t (.c (.d (.raw (.string ByteArray.empty))))),(5,.t (.c (.d (.raw (.string ((za7 (plN s x x.locs.length++vaN s x k) (⟨#[32]⟩:ByteArray))++(⟨#[32]⟩:ByteArray))))))),(7,vi .i64 (k:Int)),(8,.t (.c (.d (.raw (.string (⟨#[63]⟩:ByteArray)))))),(51,vb (decide ((k:Int)<(s.vars.length:Int))))] [(5,.box [.d (.sl 1 (s.vars.map za3)),.d (.sl 5 (s.bounds.map za0.d)),cI s.init.kind,cPs s.init.r.t.parts,cB s.init.r.t.k.neg,.d (nsl s.init.r.t.k.abs),cB s.init.r.eq,cFs s.init.kids,.d (.sl 3 (s.procs.map za2.d)),.d (.sl 10 (s.acts.map za5.d))]),(6,.box [cIs x.locs,cZs x.vals])] h ?_);clear h;intro a w h
       refine zac (decide ((k:Int)<(s.vars.length:Int))) h rfl (fun hc=>?_) (fun hc=>?_)
       ·have hc13:=hc;clear hc
        have hc13':=of_decide_eq_true hc13
        obtain ⟨x10,hx10⟩:∃ z_:ByteArray,s.vars[k]?=some z_:=⟨_,List.getElem?_eq_getElem (by first | omega | (simp at *;omega))⟩
        have lx10:=hz.vars x10 (List.mem_of_getElem? hx10)
        refine rn za1 7 [(3,.gen _ _ _ fun _ _ _ _=>Op.idxD (d:=55) (t:=53) (k:=.i64) pa1_4 (zam hx10 (f:=za3)) (OV.tmp 54 _))] [(2,vp 5 0),(3,vp 6 0),(4,.t (.c (.d (.raw (.string ByteArray.empty))))),(5,.t (.c (.d (.raw (.string ((za7 (plN s x x.locs.length++vaN s x k) (⟨#[32]⟩:ByteArray))++(⟨#[32]⟩:ByteArray))))))),(7,vi .i64 (k:Int)),(8,.t (.c (.d (.raw (.string x10)))))] [(5,.box [.d (.sl 1 (s.vars.map za3)),.d (.sl 5 (s.bounds.map za0.d)),cI s.init.kind,cPs s.init.r.t.parts,cB s.init.r.t.k.neg,.d (nsl s.init.r.t.k.abs),cB s.init.r.eq,cFs s.init.kids,.d (.sl 3 (s.procs.map za2.d)),.d (.sl 10 (s.acts.map za5.d))]),(6,.box [cIs x.locs,cZs x.vals])] h ?_;clear h;intro a w h
        refine za4 ?_
        obtain ⟨x11,hx11⟩:∃ z_:ZI,x.vals[k]?=some z_:=⟨_,List.getElem?_eq_getElem (by first | omega | (simp at *;omega))⟩
        have gx11:=hx.val x11 (List.mem_of_getElem? hx11)
        have lix11:=zct gx11.1 gx11.2
        refine rn za1 7 [(2,.gen _ _ _ fun _ _ _ _=>Op.strAdd (d:=59) (xt:=9) (yt:=9) (s1:=((za7 (plN s x x.locs.length++vaN s x k) (⟨#[32]⟩:ByteArray))++(⟨#[32]⟩:ByteArray))) (s2:=x10) (r:=(((za7 (plN s x x.locs.length++vaN s x k) (⟨#[32]⟩:ByteArray))++(⟨#[32]⟩:ByteArray))++x10)) (OV.tmp 57 _) (OV.tmp 58 _) (by (try simp only [ByteArray.size_append]);have:(⟨#[32]⟩:ByteArray).size=1:=rfl;omega) rfl),(3,.gen _ _ _ fun _ _ _ _=>Op.strAdd (d:=60) (xt:=9) (yt:=9) (s1:=(((za7 (plN s x x.locs.length++vaN s x k) (⟨#[32]⟩:ByteArray))++(⟨#[32]⟩:ByteArray))++x10)) (s2:=(⟨#[61]⟩:ByteArray)) (r:=((((za7 (plN s x x.locs.length++vaN s x k) (⟨#[32]⟩:ByteArray))++(⟨#[32]⟩:ByteArray))++x10)++(⟨#[61]⟩:ByteArray))) (OV.tmp 59 _) (OV.const (.string (⟨#[61]⟩:ByteArray)) rfl) (by (try simp only [ByteArray.size_append]);have:(⟨#[32]⟩:ByteArray).size=1:=rfl;have:(⟨#[61]⟩:ByteArray).size=1:=rfl;omega) rfl),(7,.gen _ _ _ fun _ _ _ _=>Op.idxD (d:=64) (t:=62) (k:=.i64) tt_6 (zam hx11 (f:=ziD)) (OV.tmp 63 _)),(9,.call (zdc x11 gx11.1 (by have:=gx11.2;omega)) ph1_10),(10,.gen _ _ _ fun _ _ _ _=>Op.strAdd (d:=67) (xt:=9) (yt:=9) (s1:=((((za7 (plN s x x.locs.length++vaN s x k) (⟨#[32]⟩:ByteArray))++(⟨#[32]⟩:ByteArray))++x10)++(⟨#[61]⟩:ByteArray))) (s2:=(itW x11.val)) (r:=(((((za7 (plN s x x.locs.length++vaN s x k) (⟨#[32]⟩:ByteArray))++(⟨#[32]⟩:ByteArray))++x10)++(⟨#[61]⟩:ByteArray))++(itW x11.val))) (OV.tmp 60 _) (OV.tmp 66 _) (by (try simp only [ByteArray.size_append]);have:(⟨#[32]⟩:ByteArray).size=1:=rfl;have:(⟨#[61]⟩:ByteArray).size=1:=rfl;omega) rfl)] [(2,vp 5 0),(3,vp 6 0),(4,.t (.c (.d (.raw (.string ByteArray.empty))))),(5,.t (.c (.d (.raw (.string (((((za7 (plN s x x.locs.length++vaN s x k) (⟨#[32]⟩:ByteArray))++(⟨#[32]⟩:ByteArray))++x10)++(⟨#[61]⟩:ByteArray))++(itW x11.val))))))),(7,vi .i64 (k:Int))] [(5,.box [.d (.sl 1 (s.vars.map za3)),.d (.sl 5 (s.bounds.map za0.d)),cI s.init.kind,cPs s.init.r.t.parts,cB s.init.r.t.k.neg,.d (nsl s.init.r.t.k.abs),cB s.init.r.eq,cFs s.init.kids,.d (.sl 3 (s.procs.map za2.d)),.d (.sl 10 (s.acts.map za5.d))]),(6,.box [cIs x.locs,cZs x.vals])] h ?_;clear h;intro a w h
        refine zai (za4 (rn za1 7 [(1,.add .i64 (m:=(k:Int)) (n:=1) (zaj (by omega) (by omega)))] [(2,vp 5 0),(3,vp 6 0),(4,.t (.c (.d (.raw (.string ByteArray.empty))))),(5,.t (.c (.d (.raw (.string (((((za7 (plN s x x.locs.length++vaN s x k) (⟨#[32]⟩:ByteArray))++(⟨#[32]⟩:ByteArray))++x10)++(⟨#[61]⟩:ByteArray))++(itW x11.val))))))),(7,vi .i64 ((k:Int)+1))] [(5,.box [.d (.sl 1 (s.vars.map za3)),.d (.sl 5 (s.bounds.map za0.d)),cI s.init.kind,cPs s.init.r.t.parts,cB s.init.r.t.k.neg,.d (nsl s.init.r.t.k.abs),cB s.init.r.eq,cFs s.init.kids,.d (.sl 3 (s.procs.map za2.d)),.d (.sl 10 (s.acts.map za5.d))]),(6,.box [cIs x.locs,cZs x.vals])] h ?_));clear h;intro a w h
        refine za4 ?_
        replace h:=h.conv (f':=F.of [(2,vp 5 0),(3,vp 6 0),(4,.t (.c (.d (.raw (.string ByteArray.empty))))),(5,.t (.c (.d (.raw (.string (za7 (plN s x x.locs.length++vaN s x (k+1)) (⟨#[32]⟩:ByteArray))))))),(7,vi .i64 ((k:Int)+1))] [(5,.box [.d (.sl 1 (s.vars.map za3)),.d (.sl 5 (s.bounds.map za0.d)),cI s.init.kind,cPs s.init.r.t.parts,cB s.init.r.t.k.neg,.d (nsl s.init.r.t.k.abs),cB s.init.r.eq,cFs s.init.kids,.d (.sl 3 (s.procs.map za2.d)),.d (.sl 10 (s.acts.map za5.d))]),(6,.box [cIs x.locs,cZs x.vals])]) (by rw [show ((((((za7 (plN s x x.locs.length++vaN s x k) (⟨#[32]⟩:ByteArray))++(⟨#[32]⟩:ByteArray))++x10)++(⟨#[61]⟩:ByteArray))++(itW x11.val)):ByteArray)=(za7 (plN s x x.locs.length++vaN s x (k+1)) (⟨#[32]⟩:ByteArray)) from (pv_more hx11 (by have:=of_decide_eq_true hc12;omega) (vaW_s hx10))])
        refine zas (x:=k) (y:=k+1) h ?_ ?_
        ·have:=zao hx11
         show k+1≤x.vals.length
         omega
        ·show x.vals.length - (k+1)<x.vals.length - k
         have:=zao hx11;omega
       ·have hc14:=hc;clear hc
        have hc14':=of_decide_eq_false hc14
        refine wp_skip (za4 ?_)
        obtain ⟨x13,hx13⟩:∃ z_:ZI,x.vals[k]?=some z_:=⟨_,List.getElem?_eq_getElem (by first | omega | (simp at *;omega))⟩
        have gx13:=hx.val x13 (List.mem_of_getElem? hx13)
        have lix13:=zct gx13.1 gx13.2
        refine rn za1 7 [(2,.gen _ _ _ fun _ _ _ _=>Op.strAdd (d:=59) (xt:=9) (yt:=9) (s1:=((za7 (plN s x x.locs.length++vaN s x k) (⟨#[32]⟩:ByteArray))++(⟨#[32]⟩:ByteArray))) (s2:=(⟨#[63]⟩:ByteArray)) (r:=(((za7 (plN s x x.locs.length++vaN s x k) (⟨#[32]⟩:ByteArray))++(⟨#[32]⟩:ByteArray))++(⟨#[63]⟩:ByteArray))) (OV.tmp 57 _) (OV.tmp 58 _) (by (try simp only [ByteArray.size_append]);have:(⟨#[32]⟩:ByteArray).size=1:=rfl;have:(⟨#[63]⟩:ByteArray).size=1:=rfl;omega) rfl),(3,.gen _ _ _ fun _ _ _ _=>Op.strAdd (d:=60) (xt:=9) (yt:=9) (s1:=(((za7 (plN s x x.locs.length++vaN s x k) (⟨#[32]⟩:ByteArray))++(⟨#[32]⟩:ByteArray))++(⟨#[63]⟩:ByteArray))) (s2:=(⟨#[61]⟩:ByteArray)) (r:=((((za7 (plN s x x.locs.length++vaN s x k) (⟨#[32]⟩:ByteArray))++(⟨#[32]⟩:ByteArray))++(⟨#[63]⟩:ByteArray))++(⟨#[61]⟩:ByteArray))) (OV.tmp 59 _) (OV.const (.string (⟨#[61]⟩:ByteArray)) rfl) (by (try simp only [ByteArray.size_append]);have:(⟨#[32]⟩:ByteArray).size=1:=rfl;have:(⟨#[63]⟩:ByteArray).size=1:=rfl;have:(⟨#[61]⟩:ByteArray).size=1:=rfl;omega) rfl),(7,.gen _ _ _ fun _ _ _ _=>Op.idxD (d:=64) (t:=62) (k:=.i64) tt_6 (zam hx13 (f:=ziD)) (OV.tmp 63 _)),(9,.call (zdc x13 gx13.1 (by have:=gx13.2;omega)) ph1_10),(10,.gen _ _ _ fun _ _ _ _=>Op.strAdd (d:=67) (xt:=9) (yt:=9) (s1:=((((za7 (plN s x x.locs.length++vaN s x k) (⟨#[32]⟩:ByteArray))++(⟨#[32]⟩:ByteArray))++(⟨#[63]⟩:ByteArray))++(⟨#[61]⟩:ByteArray))) (s2:=(itW x13.val)) (r:=(((((za7 (plN s x x.locs.length++vaN s x k) (⟨#[32]⟩:ByteArray))++(⟨#[32]⟩:ByteArray))++(⟨#[63]⟩:ByteArray))++(⟨#[61]⟩:ByteArray))++(itW x13.val))) (OV.tmp 60 _) (OV.tmp 66 _) (by (try simp only [ByteArray.size_append]);have:(⟨#[32]⟩:ByteArray).size=1:=rfl;have:(⟨#[63]⟩:ByteArray).size=1:=rfl;have:(⟨#[61]⟩:ByteArray).size=1:=rfl;omega) rfl)] [(2,vp 5 0),(3,vp 6 0),(4,.t (.c (.d (.raw (.string ByteArray.empty))))),(5,.t (.c (.d (.raw (.string (((((za7 (plN s x x.locs.length++vaN s x k) (⟨#[32]⟩:ByteArray))++(⟨#[32]⟩:ByteArray))++(⟨#[63]⟩:ByteArray))++(⟨#[61]⟩:ByteArray))++(itW x13.val))))))),(7,vi .i64 (k:Int))] [(5,.box [.d (.sl 1 (s.vars.map za3)),.d (.sl 5 (s.bounds.map za0.d)),cI s.init.kind,cPs s.init.r.t.parts,cB s.init.r.t.k.neg,.d (nsl s.init.r.t.k.abs),cB s.init.r.eq,cFs s.init.kids,.d (.sl 3 (s.procs.map za2.d)),.d (.sl 10 (s.acts.map za5.d))]),(6,.box [cIs x.locs,cZs x.vals])] h ?_;clear h;intro a w h
        refine zai (za4 (rn za1 7 [(1,.add .i64 (m:=(k:Int)) (n:=1) (zaj (by omega) (by omega)))] [(2,vp 5 0),(3,vp 6 0),(4,.t (.c (.d (.raw (.string ByteArray.empty))))),(5,.t (.c (.d (.raw (.string (((((za7 (plN s x x.locs.length++vaN s x k) (⟨#[32]⟩:ByteArray))++(⟨#[32]⟩:ByteArray))++(⟨#[63]⟩:ByteArray))++(⟨#[61]⟩:ByteArray))++(itW x13.val))))))),(7,vi .i64 ((k:Int)+1))] [(5,.box [.d (.sl 1 (s.vars.map za3)),.d (.sl 5 (s.bounds.map za0.d)),cI s.init.kind,cPs s.init.r.t.parts,cB s.init.r.t.k.neg,.d (nsl s.init.r.t.k.abs),cB s.init.r.eq,cFs s.init.kids,.d (.sl 3 (s.procs.map za2.d)),.d (.sl 10 (s.acts.map za5.d))]),(6,.box [cIs x.locs,cZs x.vals])] h ?_));clear h;intro a w h
        refine za4 ?_
        replace h:=h.conv (f':=F.of [(2,vp 5 0),(3,vp 6 0),(4,.t (.c (.d (.raw (.string ByteArray.empty))))),(5,.t (.c (.d (.raw (.string (za7 (plN s x x.locs.length++vaN s x (k+1)) (⟨#[32]⟩:ByteArray))))))),(7,vi .i64 ((k:Int)+1))] [(5,.box [.d (.sl 1 (s.vars.map za3)),.d (.sl 5 (s.bounds.map za0.d)),cI s.init.kind,cPs s.init.r.t.parts,cB s.init.r.t.k.neg,.d (nsl s.init.r.t.k.abs),cB s.init.r.eq,cFs s.init.kids,.d (.sl 3 (s.procs.map za2.d)),.d (.sl 10 (s.acts.map za5.d))]),(6,.box [cIs x.locs,cZs x.vals])]) (by rw [show ((((((za7 (plN s x x.locs.length++vaN s x k) (⟨#[32]⟩:ByteArray))++(⟨#[32]⟩:ByteArray))++(⟨#[63]⟩:ByteArray))++(⟨#[61]⟩:ByteArray))++(itW x13.val)):ByteArray)=(za7 (plN s x x.locs.length++vaN s x (k+1)) (⟨#[32]⟩:ByteArray)) from (pv_more hx13 (by have:=of_decide_eq_true hc12;omega) (vaW_n (List.getElem?_eq_none (by have:=of_decide_eq_false hc14;omega))))])
        refine zas (x:=k) (y:=k+1) h ?_ ?_
        ·have:=zao hx13
         show k+1≤x.vals.length
         omega
        ·show x.vals.length - (k+1)<x.vals.length - k
         have:=zao hx13;omega
      ·have hc15:=hc;clear hc
       have hc15':=of_decide_eq_false hc15
       refine wp_skip (za4 (rq za1 7 [] [(2,vp 5 0),(3,vp 6 0),(4,.t (.c (.d (.raw (.string ByteArray.empty))))),(5,.t (.c (.d (.raw (.string (za7 (plN s x x.locs.length++vaN s x k) (⟨#[32]⟩:ByteArray))))))),(7,vi .i64 (k:Int)),(8,.t (.c (.d (.raw (.string (⟨#[63]⟩:ByteArray))))))] [(5,.box [.d (.sl 1 (s.vars.map za3)),.d (.sl 5 (s.bounds.map za0.d)),cI s.init.kind,cPs s.init.r.t.parts,cB s.init.r.t.k.neg,.d (nsl s.init.r.t.k.abs),cB s.init.r.eq,cFs s.init.kids,.d (.sl 3 (s.procs.map za2.d)),.d (.sl 10 (s.acts.map za5.d))]),(6,.box [cIs x.locs,cZs x.vals])] h ?_));clear h;intro a w h
       refine wp_seq (rq za1 7 [(3,.len (c:=(.d (.sl 1 (s.vars.map za3)))) (n:=s.vars.length) (za8 _ _ _))] [(2,vp 5 0),(3,vp 6 0),(4,.t (.c (.d (.raw (.string ByteArray.empty))))),(5,.t (.c (.d (.raw (.string (za7 (plN s x x.locs.length++vaN s x k) (⟨#[32]⟩:ByteArray))))))),(7,vi .i64 (k:Int)),(8,.t (.c (.d (.raw (.string (⟨#[63]⟩:ByteArray)))))),(51,vb (decide ((k:Int)<(s.vars.length:Int))))] [(5,.box [.d (.sl 1 (s.vars.map za3)),.d (.sl 5 (s.bounds.map za0.d)),cI s.init.kind,cPs s.init.r.t.parts,cB s.init.r.t.k.neg,.d (nsl s.init.r.t.k.abs),cB s.init.r.eq,cFs s.init.kids,.d (.sl 3 (s.procs.map za2.d)),.d (.sl 10 (s.acts.map za5.d))]),(6,.box [cIs x.locs,cZs x.vals])] h ?_);clear h;intro a w h
       refine zac (decide ((k:Int)<(s.vars.length:Int))) h rfl (fun hc=>?_) (fun hc=>?_)
       ·have hc16:=hc;clear hc
        have hc16':=of_decide_eq_true hc16
        obtain ⟨x15,hx15⟩:∃ z_:ByteArray,s.vars[k]?=some z_:=⟨_,List.getElem?_eq_getElem (by first | omega | (simp at *;omega))⟩
        have lx15:=hz.vars x15 (List.mem_of_getElem? hx15)
        refine rn za1 7 [(3,.gen _ _ _ fun _ _ _ _=>Op.idxD (d:=55) (t:=53) (k:=.i64) pa1_4 (zam hx15 (f:=za3)) (OV.tmp 54 _))] [(2,vp 5 0),(3,vp 6 0),(4,.t (.c (.d (.raw (.string ByteArray.empty))))),(5,.t (.c (.d (.raw (.string (za7 (plN s x x.locs.length++vaN s x k) (⟨#[32]⟩:ByteArray))))))),(7,vi .i64 (k:Int)),(8,.t (.c (.d (.raw (.string x15)))))] [(5,.box [.d (.sl 1 (s.vars.map za3)),.d (.sl 5 (s.bounds.map za0.d)),cI s.init.kind,cPs s.init.r.t.parts,cB s.init.r.t.k.neg,.d (nsl s.init.r.t.k.abs),cB s.init.r.eq,cFs s.init.kids,.d (.sl 3 (s.procs.map za2.d)),.d (.sl 10 (s.acts.map za5.d))]),(6,.box [cIs x.locs,cZs x.vals])] h ?_;clear h;intro a w h
        refine za4 ?_
        obtain ⟨x16,hx16⟩:∃ z_:ZI,x.vals[k]?=some z_:=⟨_,List.getElem?_eq_getElem (by first | omega | (simp at *;omega))⟩
        have gx16:=hx.val x16 (List.mem_of_getElem? hx16)
        have lix16:=zct gx16.1 gx16.2
        refine rn za1 7 [(2,.gen _ _ _ fun _ _ _ _=>Op.strAdd (d:=59) (xt:=9) (yt:=9) (s1:=(za7 (plN s x x.locs.length++vaN s x k) (⟨#[32]⟩:ByteArray))) (s2:=x15) (r:=((za7 (plN s x x.locs.length++vaN s x k) (⟨#[32]⟩:ByteArray))++x15)) (OV.tmp 57 _) (OV.tmp 58 _) (by (try simp only [ByteArray.size_append]);have:(⟨#[32]⟩:ByteArray).size=1:=rfl;omega) rfl),(3,.gen _ _ _ fun _ _ _ _=>Op.strAdd (d:=60) (xt:=9) (yt:=9) (s1:=((za7 (plN s x x.locs.length++vaN s x k) (⟨#[32]⟩:ByteArray))++x15)) (s2:=(⟨#[61]⟩:ByteArray)) (r:=(((za7 (plN s x x.locs.length++vaN s x k) (⟨#[32]⟩:ByteArray))++x15)++(⟨#[61]⟩:ByteArray))) (OV.tmp 59 _) (OV.const (.string (⟨#[61]⟩:ByteArray)) rfl) (by (try simp only [ByteArray.size_append]);have:(⟨#[32]⟩:ByteArray).size=1:=rfl;have:(⟨#[61]⟩:ByteArray).size=1:=rfl;omega) rfl),(7,.gen _ _ _ fun _ _ _ _=>Op.idxD (d:=64) (t:=62) (k:=.i64) tt_6 (zam hx16 (f:=ziD)) (OV.tmp 63 _)),(9,.call (zdc x16 gx16.1 (by have:=gx16.2;omega)) ph1_10),(10,.gen _ _ _ fun _ _ _ _=>Op.strAdd (d:=67) (xt:=9) (yt:=9) (s1:=(((za7 (plN s x x.locs.length++vaN s x k) (⟨#[32]⟩:ByteArray))++x15)++(⟨#[61]⟩:ByteArray))) (s2:=(itW x16.val)) (r:=((((za7 (plN s x x.locs.length++vaN s x k) (⟨#[32]⟩:ByteArray))++x15)++(⟨#[61]⟩:ByteArray))++(itW x16.val))) (OV.tmp 60 _) (OV.tmp 66 _) (by (try simp only [ByteArray.size_append]);have:(⟨#[32]⟩:ByteArray).size=1:=rfl;have:(⟨#[61]⟩:ByteArray).size=1:=rfl;omega) rfl)] [(2,vp 5 0),(3,vp 6 0),(4,.t (.c (.d (.raw (.string ByteArray.empty))))),(5,.t (.c (.d (.raw (.string ((((za7 (plN s x x.locs.length++vaN s x k) (⟨#[32]⟩:ByteArray))++x15)++(⟨#[61]⟩:ByteArray))++(itW x16.val))))))),(7,vi .i64 (k:Int))] [(5,.box [.d (.sl 1 (s.vars.map za3)),.d (.sl 5 (s.bounds.map za0.d)),cI s.init.kind,cPs s.init.r.t.parts,cB s.init.r.t.k.neg,.d (nsl s.init.r.t.k.abs),cB s.init.r.eq,cFs s.init.kids,.d (.sl 3 (s.procs.map za2.d)),.d (.sl 10 (s.acts.map za5.d))]),(6,.box [cIs x.locs,cZs x.vals])] h ?_;clear h;intro a w h
        refine zai (za4 (rn za1 7 [(1,.add .i64 (m:=(k:Int)) (n:=1) (zaj (by omega) (by omega)))] [(2,vp 5 0),(3,vp 6 0),(4,.t (.c (.d (.raw (.string ByteArray.empty))))),(5,.t (.c (.d (.raw (.string ((((za7 (plN s x x.locs.length++vaN s x k) (⟨#[32]⟩:ByteArray))++x15)++(⟨#[61]⟩:ByteArray))++(itW x16.val))))))),(7,vi .i64 ((k:Int)+1))] [(5,.box [.d (.sl 1 (s.vars.map za3)),.d (.sl 5 (s.bounds.map za0.d)),cI s.init.kind,cPs s.init.r.t.parts,cB s.init.r.t.k.neg,.d (nsl s.init.r.t.k.abs),cB s.init.r.eq,cFs s.init.kids,.d (.sl 3 (s.procs.map za2.d)),.d (.sl 10 (s.acts.map za5.d))]),(6,.box [cIs x.locs,cZs x.vals])] h ?_));clear h;intro a w h
        refine za4 ?_
        replace h:=h.conv (f':=F.of [(2,vp 5 0),(3,vp 6 0),(4,.t (.c (.d (.raw (.string ByteArray.empty))))),(5,.t (.c (.d (.raw (.string (za7 (plN s x x.locs.length++vaN s x (k+1)) (⟨#[32]⟩:ByteArray))))))),(7,vi .i64 ((k:Int)+1))] [(5,.box [.d (.sl 1 (s.vars.map za3)),.d (.sl 5 (s.bounds.map za0.d)),cI s.init.kind,cPs s.init.r.t.parts,cB s.init.r.t.k.neg,.d (nsl s.init.r.t.k.abs),cB s.init.r.eq,cFs s.init.kids,.d (.sl 3 (s.procs.map za2.d)),.d (.sl 10 (s.acts.map za5.d))]),(6,.box [cIs x.locs,cZs x.vals])]) (by rw [show (((((za7 (plN s x x.locs.length++vaN s x k) (⟨#[32]⟩:ByteArray))++x15)++(⟨#[61]⟩:ByteArray))++(itW x16.val)):ByteArray)=(za7 (plN s x x.locs.length++vaN s x (k+1)) (⟨#[32]⟩:ByteArray)) from (pv_first hx16 (by have:=of_decide_eq_false hc15;omega) (by have:=of_decide_eq_false hc11;omega) (vaW_s hx15))])
        refine zas (x:=k) (y:=k+1) h ?_ ?_
        ·have:=zao hx16
         show k+1≤x.vals.length
         omega
        ·show x.vals.length - (k+1)<x.vals.length - k
         have:=zao hx16;omega
       ·have hc17:=hc;clear hc
        have hc17':=of_decide_eq_false hc17
        refine wp_skip (za4 ?_)
        obtain ⟨x18,hx18⟩:∃ z_:ZI,x.vals[k]?=some z_:=⟨_,List.getElem?_eq_getElem (by first | omega | (simp at *;omega))⟩
        have gx18:=hx.val x18 (List.mem_of_getElem? hx18)
        have lix18:=zct gx18.1 gx18.2
        refine rn za1 7 [(2,.gen _ _ _ fun _ _ _ _=>Op.strAdd (d:=59) (xt:=9) (yt:=9) (s1:=(za7 (plN s x x.locs.length++vaN s x k) (⟨#[32]⟩:ByteArray))) (s2:=(⟨#[63]⟩:ByteArray)) (r:=((za7 (plN s x x.locs.length++vaN s x k) (⟨#[32]⟩:ByteArray))++(⟨#[63]⟩:ByteArray))) (OV.tmp 57 _) (OV.tmp 58 _) (by (try simp only [ByteArray.size_append]);have:(⟨#[32]⟩:ByteArray).size=1:=rfl;have:(⟨#[63]⟩:ByteArray).size=1:=rfl;omega) rfl),(3,.gen _ _ _ fun _ _ _ _=>Op.strAdd (d:=60) (xt:=9) (yt:=9) (s1:=((za7 (plN s x x.locs.length++vaN s x k) (⟨#[32]⟩:ByteArray))++(⟨#[63]⟩:ByteArray))) (s2:=(⟨#[61]⟩:ByteArray)) (r:=(((za7 (plN s x x.locs.length++vaN s x k) (⟨#[32]⟩:ByteArray))++(⟨#[63]⟩:ByteArray))++(⟨#[61]⟩:ByteArray))) (OV.tmp 59 _) (OV.const (.string (⟨#[61]⟩:ByteArray)) rfl) (by (try simp only [ByteArray.size_append]);have:(⟨#[32]⟩:ByteArray).size=1:=rfl;have:(⟨#[63]⟩:ByteArray).size=1:=rfl;have:(⟨#[61]⟩:ByteArray).size=1:=rfl;omega) rfl),(7,.gen _ _ _ fun _ _ _ _=>Op.idxD (d:=64) (t:=62) (k:=.i64) tt_6 (zam hx18 (f:=ziD)) (OV.tmp 63 _)),(9,.call (zdc x18 gx18.1 (by have:=gx18.2;omega)) ph1_10),(10,.gen _ _ _ fun _ _ _ _=>Op.strAdd (d:=67) (xt:=9) (yt:=9) (s1:=(((za7 (plN s x x.locs.length++vaN s x k) (⟨#[32]⟩:ByteArray))++(⟨#[63]⟩:ByteArray))++(⟨#[61]⟩:ByteArray))) (s2:=(itW x18.val)) (r:=((((za7 (plN s x x.locs.length++vaN s x k) (⟨#[32]⟩:ByteArray))++(⟨#[63]⟩:ByteArray))++(⟨#[61]⟩:ByteArray))++(itW x18.val))) (OV.tmp 60 _) (OV.tmp 66 _) (by (try simp only [ByteArray.size_append]);have:(⟨#[32]⟩:ByteArray).size=1:=rfl;have:(⟨#[63]⟩:ByteArray).size=1:=rfl;have:(⟨#[61]⟩:ByteArray).size=1:=rfl;omega) rfl)] [(2,vp 5 0),(3,vp 6 0),(4,.t (.c (.d (.raw (.string ByteArray.empty))))),(5,.t (.c (.d (.raw (.string ((((za7 (plN s x x.locs.length++vaN s x k) (⟨#[32]⟩:ByteArray))++(⟨#[63]⟩:ByteArray))++(⟨#[61]⟩:ByteArray))++(itW x18.val))))))),(7,vi .i64 (k:Int))] [(5,.box [.d (.sl 1 (s.vars.map za3)),.d (.sl 5 (s.bounds.map za0.d)),cI s.init.kind,cPs s.init.r.t.parts,cB s.init.r.t.k.neg,.d (nsl s.init.r.t.k.abs),cB s.init.r.eq,cFs s.init.kids,.d (.sl 3 (s.procs.map za2.d)),.d (.sl 10 (s.acts.map za5.d))]),(6,.box [cIs x.locs,cZs x.vals])] h ?_;clear h;intro a w h
        refine zai (za4 (rn za1 7 [(1,.add .i64 (m:=(k:Int)) (n:=1) (zaj (by omega) (by omega)))] [(2,vp 5 0),(3,vp 6 0),(4,.t (.c (.d (.raw (.string ByteArray.empty))))),(5,.t (.c (.d (.raw (.string ((((za7 (plN s x x.locs.length++vaN s x k) (⟨#[32]⟩:ByteArray))++(⟨#[63]⟩:ByteArray))++(⟨#[61]⟩:ByteArray))++(itW x18.val))))))),(7,vi .i64 ((k:Int)+1))] [(5,.box [.d (.sl 1 (s.vars.map za3)),.d (.sl 5 (s.bounds.map za0.d)),cI s.init.kind,cPs s.init.r.t.parts,cB s.init.r.t.k.neg,.d (nsl s.init.r.t.k.abs),cB s.init.r.eq,cFs s.init.kids,.d (.sl 3 (s.procs.map za2.d)),.d (.sl 10 (s.acts.map za5.d))]),(6,.box [cIs x.locs,cZs x.vals])] h ?_));clear h;intro a w h
        refine za4 ?_
        replace h:=h.conv (f':=F.of [(2,vp 5 0),(3,vp 6 0),(4,.t (.c (.d (.raw (.string ByteArray.empty))))),(5,.t (.c (.d (.raw (.string (za7 (plN s x x.locs.length++vaN s x (k+1)) (⟨#[32]⟩:ByteArray))))))),(7,vi .i64 ((k:Int)+1))] [(5,.box [.d (.sl 1 (s.vars.map za3)),.d (.sl 5 (s.bounds.map za0.d)),cI s.init.kind,cPs s.init.r.t.parts,cB s.init.r.t.k.neg,.d (nsl s.init.r.t.k.abs),cB s.init.r.eq,cFs s.init.kids,.d (.sl 3 (s.procs.map za2.d)),.d (.sl 10 (s.acts.map za5.d))]),(6,.box [cIs x.locs,cZs x.vals])]) (by rw [show (((((za7 (plN s x x.locs.length++vaN s x k) (⟨#[32]⟩:ByteArray))++(⟨#[63]⟩:ByteArray))++(⟨#[61]⟩:ByteArray))++(itW x18.val)):ByteArray)=(za7 (plN s x x.locs.length++vaN s x (k+1)) (⟨#[32]⟩:ByteArray)) from (pv_first hx18 (by have:=of_decide_eq_false hc15;omega) (by have:=of_decide_eq_false hc11;omega) (vaW_n (List.getElem?_eq_none (by have:=of_decide_eq_false hc17;omega))))])
        refine zas (x:=k) (y:=k+1) h ?_ ?_
        ·have:=zao hx18
         show k+1≤x.vals.length
         omega
        ·show x.vals.length - (k+1)<x.vals.length - k
         have:=zao hx18;omega
    ·have hc18:=hc;clear hc
     have hc18':=of_decide_eq_false hc18
     refine wp_exit (zar (zar (zag (za4 ?_))))
     replace h:=h.conv (f':=F.of [(2,vp 5 0),(3,vp 6 0),(4,.t (.c (.d (.raw (.string ByteArray.empty))))),(5,.t (.c (.d (.raw (.string (stW s x)))))),(7,vi .i64 (k:Int)),(34,vb (decide ((k:Int)<(x.vals.length:Int))))] [(5,.box [.d (.sl 1 (s.vars.map za3)),.d (.sl 5 (s.bounds.map za0.d)),cI s.init.kind,cPs s.init.r.t.parts,cB s.init.r.t.k.neg,.d (nsl s.init.r.t.k.abs),cB s.init.r.eq,cFs s.init.kids,.d (.sl 3 (s.procs.map za2.d)),.d (.sl 10 (s.acts.map za5.d))]),(6,.box [cIs x.locs,cZs x.vals])]) (by rw [show ((za7 (plN s x x.locs.length++vaN s x k) (⟨#[32]⟩:ByteArray)):ByteArray)=(stW s x) from (by rw [show k=x.vals.length by have:=of_decide_eq_false hc18;omega];rfl)])
     refine rq za1 7 [] [(4,.t (.c (.d (.raw (.string (stW s x))))))] [] h ?_;clear h;intro a w h
     refine wp_ret ?_
     refine zaz [.c (.d (.raw (.string (stW s x))))] h Exit.ret (.inl rfl)  rfl ⟨RV.tmp _ _ rfl,trivial⟩ ?_
     rfl
section
open Go.RowKit Go.Shelf
section
variable {P:Program} {ρ:Ren}
def CapOk (v:Value):Prop:=v = .slice none 0 0∨∃ g n c,v = .slice (some ⟨g,0,none⟩) n c∧0<c
theorem str_fresh {w:World} {t u ty e:TypeId} {i:TypeInfo} (ht:P.underlying t=some (.slice e)) (hu:P.underlying u=some .string) (hi:P.info? e=some i) (hz:i.zero=some (.int .u8 0)) (hsize:i.size=1) (hby:i.bytes=1)
  {v:Value} {n:Nat} {xs:List Value} (hown:w.ownsRow 0 e 1 v n xs) {s:ByteArray} (h63:n+s.size≤maxLen) (hb:n+s.size≤140737488355328)
  (hc0:CapOk v) {v':Value} {w':World} (hr:(Builtin.append_ #[t,u] ty #[v,.string s]).run P w = .ok v' w'):(∀ g,v'.ownBlock=some g→v.ownBlock=some g∨w.heap.size≤g)∧CapOk v':=by
 have hsmall:n+s.size≤9223372036854775807:=by simp only [maxLen] at h63;omega
 have hxl:xs.length=n:=by simpa using hown.1
 rcases hown.2 with ⟨rfl,rfl⟩ | ⟨g2,cap,cur,rfl,_,hg2,hnc,hcm,hcs,htake⟩
 ·by_cases hm:s.size=0
  ·obtain ⟨a,b,c,_,_,hnil⟩:=Lib.run_append_own_string (P:=P) w 0 t u ty e i ht hu hi hz hsize hby _ 0 xs hown s (by omega) (by omega) (Nat.zero_le _)
   rw [c] at hr
   injection hr with hr _
   subst hr
   have e1:=hnil.2 ⟨rfl,hm⟩
   exact ⟨fun g hg=>by rw [e1] at hg;simp [Value.ownBlock] at hg,.inl e1⟩
  ·have h2:=run_append_nil_string (P:=P) w t u ty e i (.int .u8 0) ht hu hi hz s (by omega) (by omega) (by rw [hby];omega)
   rw [h2] at hr
   injection hr with hr _
   subst hr
   exact ⟨fun g hg=>by simp [Value.ownBlock] at hg;exact .inr (by omega),.inr ⟨_,_,_,rfl,by have:=grownCap_ge w s.size 0 e;omega⟩⟩
 ·by_cases hroom:n+s.size≤cap
  ·have h2:=Lib.run_append_room_string (P:=P) w t u ty e i ht hu hi hsize g2 n cap cur hg2 s hroom (by omega)
   rw [h2] at hr
   injection hr with hr _
   subst hr
   refine ⟨fun g hg => .inl hg,?_⟩
   rcases hc0 with h0 | ⟨_,_,_,h0,hc⟩
   ·cases h0
   ·injection h0 with _ _ h0;subst h0;exact .inr ⟨_,_,_,rfl,hc⟩
  ·have h2:=Lib.run_append_grow_string (P:=P) w t u ty e i (.int .u8 0) ht hu hi hz ⟨g2,0,none⟩ n cap xs (by rw [hsize];simpa using hxl) (hown.cells (g:=g2) rfl) s (by omega) (by omega) (by rw [hby];exact growslice_fits (by omega) (by omega))
   rw [h2] at hr
   injection hr with hr _
   subst hr
   exact ⟨fun g hg=>by simp [Value.ownBlock] at hg;exact .inr (by omega),.inr ⟨_,_,_,rfl,by have:=grownCap_ge w (n+s.size) cap e;omega⟩⟩
theorem wpl_str {ops:Array Oper} {rest:List Oper} {o:Oper} {a:Act} {w:World} {Q:Exit→Act→World→Prop} (hgd:o.guard=none) (sl x:Operand) (t u:TypeId)
  (ho:o.op = .call { callee:=.builtin .append,args:=#[sl,x],argTypes:=#[t,u] })
  (e:TypeId) (i:TypeInfo) (ht:P.underlying t=some (.slice e)) (hu:P.underlying u=some .string) (hi:P.info? e=some i) (hz:i.zero=some (.int .u8 0)) (hsize:i.size=1) (hby:i.bytes=1)
  (v:Value) (n:Nat) (xs:List Value) (hs:a.eval sl=v) (hown:w.ownsRow 0 e 1 v n xs) (s:ByteArray) (hx:a.eval x = .string s) (h63:n+s.size≤maxLen) (hb:n+s.size≤140737488355328) (hc0:CapOk v)
  (h:∀ v' w', w'.ownsRow 0 e 1 v' (n+s.size) (xs++Lib.strCells s)→w.grownBy w' v.ownBlock→(∀ g,v'.ownBlock=some g→v.ownBlock=some g∨w.heap.size≤g)→CapOk v'→wpList P ops Q rest (a.put o.dst v') w'):wpList P ops Q (o :: rest) a w:=by
 refine wpList_plain hgd fun K hK=>?_
 obtain ⟨v', w', hr,h2,h3,_⟩:=Lib.run_append_own_string (P:=P) w 0 t u o.type e i ht hu hi hz hsize hby v n xs hown s h63 hb (Nat.zero_le _)
 have hf:=str_fresh ht hu hi hz hsize hby hown h63 hb hc0 hr
 unfold Oper.wp execOp
 simp only [ho,resolve,invoke,builtin,Sem.run_bind,Sem.run_pure,Result.andThen_ok,List.map_toArray,List.map_cons,List.map_nil,hs,hx,hr]
 exact hK _ _ (h v' w' h2 h3 hf.1 hf.2)
/-- a builder in block b: where its own address is noted, or nothing yet; its row -/
structure BldW (T e:TypeId) (b:Nat) (v:Value) (vr:List Value) (xs:List Value) (w:World):Prop where
  blk:∃ p,w.heap[b]?=some (.cells ⟨p :: v :: vr⟩ T (0,0))∧(p = .pointer none∨p = .pointer (some ⟨b,0,none⟩))
  own:w.ownsRow 0 e 1 v xs.length xs
  ne:v.ownBlock≠some b
  cap:CapOk v
theorem zcn {w:World} {e:TypeId} {v:Value} {n:Nat} {xs:List Value} (h:w.ownsRow 0 e 1 v n xs) {b j:Nat} (hb:v.ownBlock≠some b) (q:Value):(w.setCell ⟨b,j,none⟩ q).ownsRow 0 e 1 v n xs:=by
 refine ⟨h.1,?_⟩
 rcases h.2 with h2 | ⟨g,cap,cur,rfl,h3,h4,h5⟩
 ·exact .inl h2
 ·refine .inr ⟨g,cap,cur,rfl,h3,?_,h5⟩
  rw [Below.heap_setCell w ⟨b,j,none⟩ q g (fun e=>hb (by simp [Value.ownBlock,e]))]
  exact h4
def CcOk (P:Program) (ρ:Ren) (T:TypeId) (k:Nat):Prop:=∀ (b:Nat) (w:World),w.cell? ⟨b,0,none⟩=some (.pointer none)→w.shape? b=some (T,k)→w.frozen? ⟨b,0,none⟩=false →
  Calls P (ρ.f 240) #[.pointer (some ⟨b,0,none⟩)] w fun e w'=>e = .returned (.tuple #[])∧w'=w.setCell ⟨b,0,none⟩ (.pointer (some ⟨b,0,none⟩))
theorem ccx (L:Lays.n240 P ρ) (X:Builder.X72 P ρ) {T:TypeId} {b:Nat} {v:Value} {vr xs:List Value} {w:World} (hcc:CcOk P ρ T (vr.length+2)) (h:BldW T (ρ.t 5) b v vr xs w) :
  Calls P (ρ.f 240) #[.pointer (some ⟨b,0,none⟩)] w fun e w'=>e = .returned (.tuple #[])∧w'.heap[b]?=some (.cells ⟨.pointer (some ⟨b,0,none⟩) :: v :: vr⟩ T (0,0))∧w'.ownsRow 0 (ρ.t 5) 1 v xs.length xs ∧
   (∀ k,k≠b→w'.heap[k]?=w.heap[k]?)∧w'.os=w.os∧w'.tape=w.tape∧w'.output=w.output∧w'.heap.size=w.heap.size:=by
 obtain ⟨p,h1,rfl | rfl⟩:=h.blk
 ·refine (hcc b w (by rw [Lib.cell_of_heap h1];rfl) (by simp [World.shape?, h1]) (Lib.frozen_of_heap h1 0)).mono ?_
  rintro e w' ⟨rfl,rfl⟩
  refine ⟨rfl,by simp [World.setCell,Array.getElem?_modify,h1],zcn h.own h.ne _,fun k hk=>Below.heap_setCell w _ _ k hk,rfl,rfl,rfl,by simp [World.setCell]⟩
 ·refine (Any.Builder_copyCheck_used L X b w (by rw [Lib.cell_of_heap h1];rfl)).mono ?_
  rintro e w' ⟨rfl,rfl⟩
  exact ⟨rfl,h1,h.own,fun _ _=>rfl,rfl,rfl,rfl,rfl⟩
set_option maxHeartbeats 2000000 in
/-- WriteString: the bytes come behind, and nothing else turns -/
theorem wsx (L:Lays.n166 P ρ) (X:Builder.Extra P ρ) {T:TypeId} {b:Nat} {v:Value} {vr xs:List Value} {w:World} (hcc:CcOk P ρ T (vr.length+2)) (h:BldW T (ρ.t 5) b v vr xs w) (s:ByteArray) (hlen:xs.length+s.size≤140737488355328) :
  Calls P (ρ.f 166) #[.pointer (some ⟨b,0,none⟩),.string s] w fun e w'=>e = .returned (.tuple #[.int .i64 s.size,.nilIface])∧∃ v', BldW T (ρ.t 5) b v' vr (xs++Lib.strCells s) w'∧(∀ g,v'.ownBlock=some g→v.ownBlock=some g∨w.heap.size≤g) ∧
   (∀ k,k<w.heap.size→k≠b→some k≠v.ownBlock→w'.heap[k]?=w.heap[k]?)∧w'.os=w.os∧w'.tape=w.tape∧w'.output=w.output∧w.heap.size≤w'.heap.size:=by
 obtain ⟨i0,hi,hz0,hz1,hz2⟩:=info_parts X.infoByte
 have mixed:=L.mixed
 have t72:=L.t72;have a72:=L.a72;have z72:=L.z72;have v72:=L.v72;have u72:=run_underlying L.t72
 have t70:=L.t70;have a70:=L.a70;have z70:=L.z70;have v70:=L.v70;have u70:=run_underlying L.t70
 have t37:=L.t37;have a37:=L.a37;have z37:=L.z37;have v37:=L.v37;have u37:=run_underlying L.t37
 have t3:=L.t3;have a3:=L.a3;have z3:=L.z3;have v3:=L.v3;have u3:=run_underlying L.t3
 have t9:=L.t9;have a9:=L.a9;have z9:=L.z9;have v9:=L.v9;have u9:=run_underlying L.t9
 have t4:=L.t4;have a4:=L.a4;have z4:=L.z4;have v4:=L.v4;have u4:=run_underlying L.t4
 have t164:=L.t164;have a164:=L.a164;have z164:=L.z164;have v164:=L.v164;have u164:=run_underlying L.t164
 have t5:=X.t5;have a5:=X.a5;have z5:=X.z5;have v5:=X.v5;have u5:=run_underlying X.t5
 have e240:∀ args w,(callFunc (ρ.f 240) args).run P w = .ok (.enter (ρ.f 240) args) w:=enters_of L.f240 (by kernel_rfl) rfl
 have hltb:b<w.heap.size:=by obtain ⟨p,h1,_⟩:=h.blk;exact (Array.getElem?_eq_some_iff.1 h1).1
 have hne:=h.ne
 go_enter L.f166,Body.n166_ntmps ρ
 go_wp2_with (go_at_fn (ρ.f 240);refine (ccx { L with } X.toX72 hcc h).mono ?_)
 rintro e w1 ⟨rfl,hbk,hown,k1,k2,k3,k4,k5⟩
 have c0:w1.cell? ⟨b,0,none⟩=some (.pointer (some ⟨b,0,none⟩)):=by rw [Lib.cell_of_heap hbk];rfl
 have c1:w1.cell? ⟨b,1,none⟩=some v:=by rw [Lib.cell_of_heap hbk];rfl
 go_wp2_with (at_builtin;refine wpl_str rfl _ _ (ρ.t 37) (ρ.t 9) rfl (ρ.t 5) i0 L.t37 L.t9 hi hz0 hz1 hz2 _ _ _ rfl hown s rfl ?c3 ?c4 h.cap ?_)
 case c3=>unfold maxLen;omega
 case c4=>omega
 intro v' w2 hown' hgrow hfr hcap'
 have hb2:w2.heap[b]?=some (.cells ⟨.pointer (some ⟨b,0,none⟩) :: v :: vr⟩ T (0,0)):=by
  rw [hgrow.block b (by omega) (fun e=>hne e.symm)]
  exact hbk
 have d0:w2.cell? ⟨b,0,none⟩=some (.pointer (some ⟨b,0,none⟩)):=by rw [Lib.cell_of_heap hb2];rfl
 have d1:w2.cell? ⟨b,1,none⟩=some v:=by rw [Lib.cell_of_heap hb2];rfl
 have f1:w2.frozen? ⟨b,1,none⟩=false:=Lib.frozen_of_heap hb2 1
 have hne':v'.ownBlock≠some b:=fun e=>by
  rcases hfr b e with h1 | h1
  ·exact hne h1
  ·omega
 obtain ⟨ao,n', cap,rfl⟩:∃ ao n' cap,v' = .slice ao n' cap:=by
  rcases hown'.2 with ⟨hv,_⟩ | ⟨g,cap,cur,hv,_⟩
  ·exact ⟨_,_,_,hv⟩
  ·exact ⟨_,_,_,hv⟩
 go_wp2
 go_ret2
 refine ⟨rfl,_,⟨⟨_,by simp [World.setCell,Array.getElem?_modify,hb2],.inr rfl⟩,?_,hne', hcap'⟩,fun g hg=>(hfr g hg).imp id fun h=>by omega,fun k h1 h2 h3=>?_,?_,?_,?_,?_⟩
 ·exact zcn (by simpa [Lib.strCells_length] using hown') hne' _
 ·rw [Below.heap_setCell _ _ _ k h2,hgrow.block k (by omega) h3,k1 k h2]
 ·exact hgrow.os.trans k2
 ·exact hgrow.tape.trans k3
 ·exact hgrow.output.trans k4
 ·have:=hgrow.size;simp [World.setCell];omega
set_option maxHeartbeats 2000000 in
/-- String: the bytes; of all blocks only the row's own turns -/
theorem strx (L:Lays.n169 P ρ) (X:Builder.Extra P ρ) {T:TypeId} {b g cap:Nat} {p:Value} {vr:List Value} {cur:Array Value} {l:List UInt8} {w:World} (hbk:w.heap[b]?=some (.cells ⟨p :: .slice (some ⟨g,0,none⟩) l.length cap :: vr⟩ T (0,0)))
  (hg:w.heap[g]?=some (.cells cur (ρ.t 5) (0,0))) (h0:l≠[]) (hnc:l.length≤cap) (hcm:cap≤maxLen) (hcs:cur.size=cap) (htake:cur.toList.take l.length=Lib.byteCells l) :
  Calls P (ρ.f 169) #[.pointer (some ⟨b,0,none⟩)] w fun e w'=>e = .returned (.string ⟨l.toArray⟩)∧w'=w.drew.freeze ⟨g,0,none⟩ l.length:=by
 have hl0:l.length≠0:=by simpa using h0
 have c1:w.drew.cell? ⟨b,1,none⟩=some (.slice (some ⟨g,0,none⟩) l.length cap):=by
  have:w.drew.heap[b]?=some (.cells ⟨p :: .slice (some ⟨g,0,none⟩) l.length cap :: vr⟩ T (0,0)):=hbk
  rw [Lib.cell_of_heap this];rfl
 have hSD:(Builtin.unsafeSliceData_ #[(ρ.t 37)] (ρ.t 127) #[.slice (some ⟨g,0,none⟩) l.length cap]).run P w.drew = .ok (.pointer (some ⟨g,0,none⟩)) w.drew :=
  Lib.run_unsafeSliceData_row _ _ _ _ _ _ (by omega)
 have hUS:(Builtin.unsafeString_ #[(ρ.t 127),(ρ.t 3)] (ρ.t 9) #[.pointer (some ⟨g,0,none⟩),.int .i64 l.length]).run P w.drew = .ok (.string ⟨l.toArray⟩) (w.drew.freeze ⟨g,0,none⟩ l.length):=by
  refine Lib.run_unsafeString_row w.drew (ρ.t 127) (ρ.t 3) (ρ.t 9) (ρ.t 5) L.t127 X.cellsByte g cur.size (by have hg':w.drew.heap[g]?=some (.cells cur (ρ.t 5) (0,0)):=hg;simp [World.shape?, hg']) l h0 (by omega) (by unfold maxLen at hcm;omega) ?_
  intro j x hx
  have hg':w.drew.heap[g]?=some (.cells cur (ρ.t 5) (0,0)):=hg
  have e1:(Lib.byteCells l)[j]?=some (.int .u8 x.toNat):=by simp [Lib.byteCells,hx]
  have hjl:j<l.length:=(List.getElem?_eq_some_iff.1 hx).1
  rw [← htake,List.getElem?_take,if_pos hjl] at e1
  have e2:cur[j]?=some (.int .u8 x.toNat):=by rw [← Array.getElem?_toList];exact e1
  rw [Addr.add_mid,Lib.cell_of_heap hg', Nat.zero_add];exact e2
 have mixed:=L.mixed
 have t72:=L.t72;have a72:=L.a72;have z72:=L.z72;have v72:=L.v72;have u72:=run_underlying L.t72
 have t70:=L.t70;have a70:=L.a70;have z70:=L.z70;have v70:=L.v70;have u70:=run_underlying L.t70
 have t37:=L.t37;have a37:=L.a37;have z37:=L.z37;have v37:=L.v37;have u37:=run_underlying L.t37
 have t127:=L.t127;have a127:=L.a127;have z127:=L.z127;have v127:=L.v127;have u127:=run_underlying L.t127
 have t3:=L.t3;have a3:=L.a3;have z3:=L.z3;have v3:=L.v3;have u3:=run_underlying L.t3
 have t9:=L.t9;have a9:=L.a9;have z9:=L.z9;have v9:=L.v9;have u9:=run_underlying L.t9
 have t5:=X.t5;have a5:=X.a5;have z5:=X.z5;have v5:=X.v5;have u5:=run_underlying X.t5
 go_enter L.f169,Body.n169_ntmps ρ
 go_wp2
 go_region_o
 all_goals (go_wp2;go_ret;exact ⟨rfl,rfl⟩)
def bw (l:List UInt8):List (List D):=l.map fun c=>[.raw (.int .u8 (c.toNat:Int))]
theorem bw_length (l:List UInt8):(bw l).length=l.length:=by simp [bw]
theorem bw_one (l:List UInt8):∀ r ∈ bw l,r.length=1:=by
 intro r hr;obtain ⟨c,_,rfl⟩:=List.mem_map.1 hr;rfl
theorem bw_flat (l:List UInt8):(bw l).flatten=l.map fun c=>D.raw (.int .u8 (c.toNat:Int)):=by
 induction l with
 | nil=>rfl
 | cons x l ih=>show _ :: (bw l).flatten=_;rw [ih];rfl
theorem raws_eq {H:Im}:∀ {l:List UInt8} {vs:List Value}, zal (DR H) (l.map fun c=>D.raw (.int .u8 (c.toNat:Int))) vs→vs=Lib.byteCells l
 | [],[],_=>rfl
 | _ :: l,_ :: vs,h=>by
  have h1:=h.1
  cases h1
  rw [raws_eq h.2];rfl
 | [],_ :: _,h=>h.elim
 | _ :: _,[],h=>h.elim
theorem raws_mk {H:Im}:∀ (l:List UInt8),zal (DR H) (l.map fun c=>D.raw (.int .u8 (c.toNat:Int))) (Lib.byteCells l)
 | []=>trivial
 | _x :: l=>⟨DR.raw _ rfl,raws_mk l⟩
theorem strCells_bytes (s:ByteArray):Lib.strCells s=Lib.byteCells s.data.toList:=by simp [Lib.strCells,Lib.byteCells]
theorem byteCells_app (l m:List UInt8):Lib.byteCells (l++m)=Lib.byteCells l++Lib.byteCells m:=by simp [Lib.byteCells]
theorem all2_d {H:Im} {B:Bl}:∀ {ds:List D} {vs:List Value}, zal (CR H B) (ds.map C.d) vs→zal (DR H) ds vs
 | [],[],_=>trivial
 | _ :: _,_ :: _,h=>⟨h.1,all2_d h.2⟩
 | [],_ :: _,h=>h.elim
 | _ :: _,[],h=>h.elim
theorem d_all2 {H:Im} {B:Bl}:∀ {ds:List D} {vs:List Value}, zal (DR H) ds vs→zal (CR H B) (ds.map C.d) vs
 | [],[],_=>trivial
 | _ :: _,_ :: _,h=>⟨h.1,d_all2 h.2⟩
 | [],_ :: _,h=>h.elim
 | _ :: _,[],h=>h.elim
theorem bldW_of {H:Im} {B:Bl} {w:World} {n m:Nat} {T e:TypeId} {l:List UInt8} {ds:List D} (hnm:n≠m) (h7:LR H B w n (.bld T (.own m l.length) (ds.map C.d))) (h8:LR H B w m (.row e 1 (bw l))) (hi:∀ b c c', B n=some (b,c)→B m=some (b,c')→n=m) :
  ∃ b c v vr,B n=some (b,c)∧BldW T e b v vr (Lib.byteCells l) w∧v.ownBlock=(B m).map (·.1)∧zal (DR H) ds vr:=by
 obtain ⟨b,c,v1,v2,vr,hb,hc,hp,hz,hv,hr⟩:=h7
 refine ⟨b,c,v2,vr,hb,⟨⟨v1,hc,hp⟩,?_,?_,?_⟩,?_,all2_d hr⟩
 ·refine ⟨by simp,?_⟩
  simp only [CR] at hv
  simp only [LR] at h8
  cases hB:B m with
  | none =>
   rw [hB] at hv h8
   obtain ⟨h1,ao,rfl⟩:=hv
   rcases hz with hz | ⟨g,k,c', hz,hc'⟩
   ·exact .inl ⟨hz,by simp [Lib.byteCells_length,h1]⟩
   ·injection hz with _ _ hz;omega
  | some q =>
   obtain ⟨g,cap⟩:=q
   rw [hB] at hv h8
   obtain ⟨arr,g1,g2,g3,g4,_,g6⟩:=h8
   rw [bw_length] at g3 g6
   rw [bw_flat] at g6
   have g7:=raws_eq g6
   exact .inr ⟨g,cap,⟨arr⟩,by rw [Lib.byteCells_length];exact hv,Nat.zero_le _,g1,by rw [Lib.byteCells_length];exact g3,g4,by simpa using g2,by rw [Lib.byteCells_length];exact g7⟩
 ·simp only [CR] at hv
  cases hB:B m with
  | none =>
   rw [hB] at hv
   obtain ⟨h1,ao,rfl⟩:=hv
   rcases hz with hz | ⟨g,k,c', hz,hc'⟩
   ·rw [hz];simp [Value.ownBlock]
   ·injection hz with _ _ hz;omega
  | some q =>
   obtain ⟨g,cap⟩:=q
   rw [hB] at hv
   rw [hv]
   intro e1
   simp only [Value.ownBlock,Option.some.injEq] at e1
   subst e1
   exact hnm (hi _ _ _ hb hB)
 ·exact hz
 ·simp only [CR] at hv
  cases hB:B m with
  | none =>
   rw [hB] at hv
   obtain ⟨h1,ao,rfl⟩:=hv
   rcases hz with hz | ⟨g,k,c', hz,hc'⟩
   ·rw [hz];rfl
   ·injection hz with _ _ hz;omega
  | some q =>
   obtain ⟨g,cap⟩:=q
   rw [hB] at hv
   rw [hv];rfl
def zcr (v:Value):Option (Nat × Nat):=match v with | .slice (some a) _ c=>some (a.block,c) | _=>none
theorem bldW_to {H:Im} {B:Bl} {w:World} {n m b c:Nat} {T e:TypeId} {v:Value} {vr:List Value} {l:List UInt8} {ds:List D} (hB:B n=some (b,c)) (hm:B m=zcr v) (hr:zal (DR H) ds vr) (h:BldW T e b v vr (Lib.byteCells l) w) :
  LR H B w n (.bld T (.own m l.length) (ds.map C.d))∧LR H B w m (.row e 1 (bw l)):=by
 obtain ⟨⟨p,h1,h2⟩,h3,h4,h5⟩:=h
 rw [Lib.byteCells_length] at h3
 constructor
 ·refine ⟨b,c,p,v,vr,hB,h1,h2,h5,?_,d_all2 hr⟩
  simp only [CR,hm]
  rcases h3.2 with ⟨rfl,h6⟩ | ⟨g,cap,cur,rfl,_⟩
  ·exact ⟨h6,none,rfl⟩
  ·rfl
 ·simp only [LR,hm]
  rcases h3.2 with ⟨rfl,h6⟩ | ⟨g,cap,cur,rfl,_,g1,g2,g3,g4,g5⟩
  ·show bw l=[]
   rw [List.length_eq_zero_iff.1 h6];rfl
  ·refine ⟨cur.toList,g1,by simpa using g4,by rw [bw_length];exact g2,g3,bw_one l,?_⟩
   rw [bw_flat,bw_length,g5]
   exact raws_mk l
theorem frz (w:World) (g n:Nat):(w.freeze ⟨g,0,none⟩ n).os=w.os∧(w.freeze ⟨g,0,none⟩ n).tape=w.tape∧(w.freeze ⟨g,0,none⟩ n).output=w.output∧(w.freeze ⟨g,0,none⟩ n).heap.size=w.heap.size∧∀ k,k≠g→(w.freeze ⟨g,0,none⟩ n).heap[k]?=w.heap[k]?:=by
 unfold World.freeze
 split
 ·exact ⟨rfl,rfl,rfl,rfl,fun _ _=>rfl⟩
 ·refine ⟨rfl,rfl,rfl,by simp,fun k hk=>?_⟩
  simp only [Array.getElem?_modify]
  rw [if_neg (Ne.symm hk)]
theorem SBWrite (La:Lays.n166 P ρ) (X:Builder.Extra P ρ) {T:TypeId} {ds:List D} (hcc:CcOk P ρ T (ds.length+2)) (m m2:Nat) (hm:7≠m) (h27:m2≠7) (h2m:m2≠m) (l:List UInt8) (s:ByteArray) (hs:l.length+s.size≤140737488355328) :
  Fn P (ρ.f 166) [(7,.bld T (.own m l.length) (ds.map C.d)),(m,.row (ρ.t 5) 1 (bw l))] [vp 7 0,vs s] (.tup [.c (cI s.size),.c (.d (.raw .nilIface))]) [(7,.bld T (.own m2 (l++s.data.toList).length) (ds.map C.d)),(m2,.row (ρ.t 5) 1 (bw (l++s.data.toList)))]:=by
 intro w H B vals pre
 obtain ⟨a1,a2,rfl,⟨b,c,hb,rfl⟩,h2⟩:=args2 pre.arg
 have h2:=VR.rawI h2
 subst h2
 have hi:∀ b c c', B 7=some (b,c)→B m=some (b,c')→7=m:=fun b c c' h1 h2=>pre.inj _ List.mem_cons_self _ (List.mem_cons_of_mem _ List.mem_cons_self) b c c' h1 h2
 obtain ⟨b', c', v,vr,hb', hw,hv,hr⟩:=bldW_of hm (pre.loc _ List.mem_cons_self) (pre.loc _ (List.mem_cons_of_mem _ List.mem_cons_self)) hi
 rw [hr.length] at hcc
 rw [hb] at hb'
 injection hb' with hb'
 obtain ⟨rfl,rfl⟩:=Prod.mk.injEq .. ▸ hb'
 obtain ⟨p71,p72⟩:=pre.priv _ List.mem_cons_self b c hb
 refine (wsx La X hcc hw s (by rw [Lib.byteCells_length];exact hs)).mono ?_
 rintro en w' ⟨rfl,v', hw', hfr,hk,k1,k2,k3,k4⟩
 rw [strCells_bytes,← byteCells_app] at hw'
 have hHs:∀ g,w.heap.size≤g→H g=none:=fun g hg=>by
  cases hx:H g with
  | none=>rfl
  | some o=>have:=(Array.getElem?_eq_some_iff.1 (pre.sat g o hx)).1;omega
 have old:∀ g,v.ownBlock=some g→∃ c,B m=some (g,c):=fun g hg=>by
  rw [hv] at hg
  cases hB:B m with
  | none=>rw [hB] at hg;cases hg
  | some q=>rw [hB] at hg;injection hg with hg;subst hg;exact ⟨q.2,rfl⟩
 have rowOwn:∀ g c,zcr v'=some (g,c)→v'.ownBlock=some g:=fun g c hg=>by
  cases v' <;> first | (simp [zcr] at hg;done) | skip
  rename_i ao k cc
  cases ao with
  | none=>simp [zcr] at hg
  | some a=>simp [zcr] at hg;simp [Value.ownBlock,hg.1]
 have lt':∀ g,v'.ownBlock=some g→g<w'.heap.size:=fun g hg=>by
  rcases hw'.own.2 with ⟨h1,_⟩ | ⟨g2,cap,cur,h1,_,h3,_⟩
  ·rw [h1] at hg;cases hg
  ·rw [h1] at hg;injection hg with hg;subst hg;exact (Array.getElem?_eq_some_iff.1 h3).1
 have hB7:(fun x=>if x=m2 then zcr v' else B x) 7=some (b,c):=by show (if 7=m2 then _ else _)=_;rw [if_neg (Ne.symm h27)];exact hb
 obtain ⟨l7,l9⟩:=bldW_to (H:=H) (B:=fun x=>if x=m2 then zcr v' else B x) (n:=7) (m:=m2) hB7 (by simp) hr hw'
 refine ⟨_,H,fun x=>if x=m2 then zcr v' else B x,rfl,Le.refl _,fun _ _=>rfl,?_,?_,?_,?_,?_,?_,?_⟩
 ·intro k o hko
  have h1:=pre.sat k o hko
  rw [hk k (Array.getElem?_eq_some_iff.1 h1).1 ?_ ?_];exact h1
  ·rintro rfl;rw [p72] at hko;cases hko
  ·intro e1
   obtain ⟨c2,hc2⟩:=old k e1.symm
   have:=(pre.priv _ (List.mem_cons_of_mem _ List.mem_cons_self) k c2 hc2).2
   rw [this] at hko;cases hko
 ·intro p hp
  rcases List.mem_cons.1 hp with rfl | hp
  ·exact l7
  ·rw [List.mem_singleton.1 hp];exact l9
 ·intro p hp g c2 hg
  rcases List.mem_cons.1 hp with rfl | hp
  ·have hg':B 7=some (g,c2):=by have hg:(if 7=m2 then zcr v' else B 7)=some (g,c2):=hg;rwa [if_neg (Ne.symm h27)] at hg
   rw [hb] at hg'
   injection hg' with hg'
   obtain ⟨rfl,rfl⟩:=Prod.mk.injEq .. ▸ hg'
   exact ⟨by omega,p72,.inl ⟨_,List.mem_cons_self,_,hb⟩⟩
  ·rw [List.mem_singleton.1 hp] at hg
   have hg:(if m2=m2 then zcr v' else B m2)=some (g,c2):=hg
   rw [if_pos rfl] at hg
   have hg2:=rowOwn g c2 hg
   refine ⟨lt' g hg2,?_,?_⟩
   ·rcases hfr g hg2 with h1 | h1
    ·obtain ⟨c3,hc3⟩:=old g h1
     exact (pre.priv _ (List.mem_cons_of_mem _ List.mem_cons_self) g c3 hc3).2
    ·exact hHs g h1
   ·rcases hfr g hg2 with h1 | h1
    ·obtain ⟨c3,hc3⟩:=old g h1
     exact .inl ⟨_,List.mem_cons_of_mem _ List.mem_cons_self,c3,hc3⟩
    ·exact .inr h1
 ·have key:∀ g c1 c2,B 7=some (g,c1)→zcr v'=some (g,c2)→False:=fun g c1 c2 h1 h2=>by
   rw [hb] at h1
   injection h1 with h1
   obtain ⟨rfl,rfl⟩:=Prod.mk.injEq .. ▸ h1
   exact hw'.ne (rowOwn _ _ h2)
  intro p hp q hq g c1 c2 h1 h2
  rcases List.mem_cons.1 hp with rfl | hp <;> rcases List.mem_cons.1 hq with rfl | hq
  ·rfl
  ·rw [List.mem_singleton.1 hq] at h2;have h1:(if 7=m2 then zcr v' else B 7)=some (g,c1):=h1;have h2:(if m2=m2 then zcr v' else B m2)=some (g,c2):=h2;rw [if_neg (Ne.symm h27)] at h1;rw [if_pos rfl] at h2;exact (key g c1 c2 h1 h2).elim
  ·rw [List.mem_singleton.1 hp] at h1;have h1:(if m2=m2 then zcr v' else B m2)=some (g,c1):=h1;have h2:(if 7=m2 then zcr v' else B 7)=some (g,c2):=h2;rw [if_neg (Ne.symm h27)] at h2;rw [if_pos rfl] at h1;exact (key g c2 c1 h2 h1).elim
  ·rw [List.mem_singleton.1 hp,List.mem_singleton.1 hq]
 ·intro n hn
  have:n≠m2:=by
   rcases hn with hn | hn
   ·rintro rfl;simp at hn;exact hn.elim h27 h2m
   ·rintro rfl;simp at hn
  show (if n=m2 then _ else _)=_
  rw [if_neg this]
 ·exact ⟨[.int .i64 s.size,.nilIface],rfl,DR.raw _ rfl,DR.raw _ rfl,trivial⟩
 ·refine ⟨k1,k2,k3,k4,fun k hk1 hk2=>hk k hk1 ?_ ?_⟩
  ·rintro rfl;exact hk2 ⟨_,List.mem_cons_self,_,hb⟩
  ·intro e1
   obtain ⟨c2,hc2⟩:=old k e1.symm
   exact hk2 ⟨_,List.mem_cons_of_mem _ List.mem_cons_self,c2,hc2⟩
theorem SBString (La:Lays.n169 P ρ) (X:Builder.Extra P ρ) {T:TypeId} {ds:List D} (m:Nat) (hm:7≠m) (l:List UInt8) (h0:l≠[]) :
  Fn P (ρ.f 169) [(7,.bld T (.own m l.length) (ds.map C.d)),(m,.row (ρ.t 5) 1 (bw l))] [vp 7 0] (vs ⟨l.toArray⟩) []:=by
 intro w H B vals pre
 obtain ⟨a,rfl,b,c,hb,rfl⟩:=args1 pre.arg
 obtain ⟨b', c', v,vr,hb', hw,hv,hr⟩:=bldW_of hm (pre.loc _ List.mem_cons_self) (pre.loc _ (List.mem_cons_of_mem _ List.mem_cons_self)) (fun b c c' h1 h2=>pre.inj _ List.mem_cons_self _ (List.mem_cons_of_mem _ List.mem_cons_self) b c c' h1 h2)
 rw [hb] at hb'
 injection hb' with hb'
 obtain ⟨rfl,rfl⟩:=Prod.mk.injEq .. ▸ hb'
 obtain ⟨p,h1,_⟩:=hw.blk
 have hl0:l.length≠0:=by simpa using h0
 have hown:=hw.own
 rw [Lib.byteCells_length] at hown
 rcases hown.2 with ⟨_,hz⟩ | ⟨g,cap,cur,rfl,_,g1,g2,g3,g4,g5⟩
 ·exact absurd hz hl0
 obtain ⟨c8,h8⟩:∃ c8,B m=some (g,c8):=by
  cases hB:B m with
  | none=>rw [hB] at hv;cases hv
  | some q =>
   rw [hB] at hv
   obtain ⟨q1,q2⟩:=q
   have e1:g=q1:=by simpa [Value.ownBlock] using hv
   exact ⟨q2,by rw [e1]⟩
 obtain ⟨_,p82⟩:=pre.priv _ (List.mem_cons_of_mem _ List.mem_cons_self) g c8 h8
 refine (strx La X h1 g1 h0 g2 g3 (by simpa using g4) (by simpa using g5)).mono ?_
 rintro en w' ⟨rfl,rfl⟩
 obtain ⟨f1,f2,f3,f4,hk⟩:=frz w.drew g l.length
 refine ⟨_,H,B,rfl,Le.refl _,fun _ _=>rfl,fun k o hko=>?_,fun _ h=>(by cases h),fun _ h=>(by cases h),fun _ h=>(by cases h),fun _ _=>rfl,DR.raw _ rfl,f1,f2,f3,Nat.le_of_eq f4.symm,fun k _ hk2=>hk k ?_⟩
 ·rw [hk k ?_];exact pre.sat k o hko
  rintro rfl;rw [p82] at hko;cases hko
 ·rintro rfl;exact hk2 ⟨_,List.mem_cons_of_mem _ List.mem_cons_self,c8,h8⟩
end
section
variable {P:Program}
theorem St.nilOB {e:E} {f:F} {a:Act} {w:World} (h:St e f a w) (m n es:Nat) (ty T:TypeId) {rest:List C} (hv:f.l m=some (.bld T (.d (.raw za6)) rest)) (hn:New e.K f n):St e ((f.setL n (.row ty es [])).setL m (.bld T (.own n 0) rest)) a w:=by
 obtain ⟨H,B,hok⟩:=h
 have hmn:m≠n:=fun e=>by have:=hn.2.1;rw [← e,hv] at this;cases this
 refine ⟨H,_,(hok.nilName n es ty hn).setL m (.bld T (.d (.raw za6)) rest) _ (by simp [F.setL,hmn,hv]) fun hu=>?_⟩
 obtain ⟨b,c,v1,v2,vr,hb,hc,h1,h0,h2,h3⟩:=hu
 refine ⟨b,c,v1,v2,vr,hb,hc,h1,h0,?_,h3⟩
 have:=VR.rawI (H:=H) (B:=fun x=>if x=n then none else B x) h2
 subst this
 simp [CR,za6]
end
end
section
open Go.RowKit Go.Shelf
section
variable {P:Program} {ρ:Ren}
theorem append_frc {w:World} {el xt ty:TypeId} {i:TypeInfo} {z:Value} (hu:P.underlying xt=some (.slice el)) (hi:P.info? el=some i) (hz:i.zero=some z) (hsz:i.size=1) (hby:i.bytes=1)
  {v:Value} {n:Nat} {xs:List Value} (hown:w.ownsRow 0 el 1 v n xs) {a:Addr} {c:Nat} {news:List Value} (hl:news.length=1) (hnews:∀ j u,news[j]?=some u→w.cell? (a.add j)=some u) (h1:∀ u ∈ news,u.oneCell'=true)
  (hb:n+1≤140737488355328) (hc0:CapOk v) {v':Value} {w':World} (hr:(Builtin.append_ #[xt,xt] ty #[v,.slice (some a) 1 c]).run P w = .ok v' w'):(∀ g,v'.ownBlock=some g→v.ownBlock=some g∨w.heap.size≤g)∧CapOk v':=by
 have hl':news.length=1*i.size:=by rw [hsz];exact hl
 rcases hown.2 with ⟨rfl,rfl⟩ | ⟨g2,cap,cur,rfl,_,hg2,hnc,hcm,hcs,htake⟩
 ·have h2:=run_append_nil (P:=P) w xt ty el i z hu hi hz a 1 c news hl' hnews (by decide) (by omega) (by omega)
  rw [h2] at hr
  injection hr with hr _
  subst hr
  exact ⟨fun g hg=>by simp [Value.ownBlock] at hg;exact .inr (by omega),.inr ⟨_,_,_,rfl,by have:=grownCap_ge w 1 0 el;omega⟩⟩
 ·by_cases hroom:n+1≤cap
  ·have h2:=run_append_room (P:=P) w xt ty el i hu hi g2 n cap cur hg2 a 1 c news hl' hnews h1 hroom (by rw [hsz,hl,hcs];omega)
   rw [h2] at hr
   injection hr with hr _
   subst hr
   exact ⟨fun g hg => .inl hg,.inr ⟨_,_,_,rfl,by omega⟩⟩
  ·have holds:∀ j u,xs[j]?=some u→w.cell? ((⟨g2,0,none⟩:Addr).add j)=some u:=hown.cells (g:=g2) rfl
   have h2:=run_append_grow (P:=P) w xt ty el i z hu hi hz ⟨g2,0,none⟩ n cap xs (by rw [hsz];exact hown.1) holds a 1 c news hl' hnews (by omega) (by omega) (growslice_fits (by omega) (by rw [hby];omega))
   rw [h2] at hr
   injection hr with hr _
   subst hr
   exact ⟨fun g hg=>by simp [Value.ownBlock] at hg;exact .inr (by omega),.inr ⟨_,_,_,rfl,by have:=grownCap_ge w (n+1) cap el;omega⟩⟩
theorem zcm {ops:Array Oper} {rest:List Oper} {o:Oper} {a:Act} {w:World} {Q:Exit→Act→World→Prop} (hgd:o.guard=none) (s x:Operand) (t:TypeId)
  (ho:o.op = .call { callee:=.builtin .append,args:=#[s,x],argTypes:=#[t,t] })
  (e:TypeId) (i:TypeInfo) (z:Value) (ht:P.underlying t=some (.slice e)) (hi:P.info? e=some i) (hz:i.zero=some z) (hsize:i.size=1) (hby:i.bytes=1)
  (v:Value) (n:Nat) (xs:List Value) (hs:a.eval s=v) (hown:w.ownsRow 0 e 1 v n xs) (ad:Addr) (c:Nat) (news:List Value) (hx:a.eval x = .slice (some ad) 1 c) (hl:news.length=1) (hnews:∀ j u,news[j]?=some u→w.cell? (ad.add j)=some u) (h1:∀ u ∈ news,u.oneCell'=true) (hzs:z.cells.size=1)
  (hb:n+1≤140737488355328) (hc0:CapOk v)
  (h:∀ v' w', w'.ownsRow 0 e 1 v' (n+1) (xs++news)→w.grownBy w' v.ownBlock→(∀ g,v'.ownBlock=some g→v.ownBlock=some g∨w.heap.size≤g)→CapOk v'→wpList P ops Q rest (a.put o.dst v') w'):wpList P ops Q (o :: rest) a w:=by
 refine wpList_plain hgd fun K hK=>?_
 obtain ⟨v', w', hr,h2,h3,_⟩:=run_append_own (P:=P) w 0 t o.type e i z 1 1 ht hi hz hsize hby hzs (by decide) v n xs hown ad 1 c news (by simpa using hl) hnews h1 (by unfold maxLen;omega) (by omega) (Nat.zero_le _)
 have hf:=append_frc ht hi hz hsize hby hown hl hnews h1 hb hc0 hr
 unfold Oper.wp execOp
 simp only [ho,resolve,invoke,builtin,Sem.run_bind,Sem.run_pure,Result.andThen_ok,List.map_toArray,List.map_cons,List.map_nil,hs,hx,hr]
 exact hK _ _ (h v' w' h2 h3 hf.1 hf.2)
end
section
variable {P:Program} {ρ:Ren}
set_option maxHeartbeats 1000000 in
theorem CcOk.at_ (L:Lays.n240 P ρ) (X:Builder.X72 P ρ) {T:TypeId} {k:Nat} (hk:0<k) (hl:liesAt P P.depth T (k / P.cellsOf T) 0 (ρ.t 72) 1=true):CcOk P ρ T k:=by
 intro b w h0 hsh hfz
 obtain ⟨j,hj,hjs⟩:=Option.map_eq_some_iff.1 X.sizeBuilder
 have mixed:=L.mixed
 have t72:=L.t72;have a72:=L.a72;have z72:=L.z72;have v72:=L.v72;have u72:=run_underlying L.t72
 have t70:=L.t70;have a70:=L.a70;have z70:=L.z70;have v70:=L.v70;have u70:=run_underlying L.t70
 have t9:=L.t9;have a9:=L.a9;have z9:=L.z9;have v9:=L.v9;have u9:=run_underlying L.t9
 have t4:=L.t4;have a4:=L.a4;have z4:=L.z4;have v4:=L.v4;have u4:=run_underlying L.t4
 have t164:=L.t164;have a164:=L.a164;have z164:=L.z164;have v164:=L.v164;have u164:=run_underlying L.t164
 go_enter L.f240,Body.n240_ntmps ρ
 go_wp2
 rw [Lib.run_to_unsafe w ⟨b,0,none⟩ L.t70 L.t164 hj (by rw [hjs];decide) hsh hk]
 simp only [Result.andThen]
 rw [Oper.upon_value]
 go_wp2
 rw [run_callFunc_extern L.f276 (by kernel_rfl) (by kernel_rfl) (by kernel_rfl) (e:=Extern.AbiNoEscape.same) (by kernel_rfl)]
 rw [Lib.run_noEscape]
 simp only [Result.andThen]
 rw [Oper.upon_value]
 go_wp2
 rw [Lib.run_from_unsafe w ⟨b,0,none⟩ L.t164 L.t70 hj hsh hl]
 simp only [Result.andThen]
 rw [Oper.upon_value]
 go_wp2
 go_end0
 exact ⟨rfl,rfl⟩
def Grown (ρ:Ren) (T:TypeId) (b:Nat) (v:Value) (vr:List Value) (l':List UInt8) (w w':World):Prop :=
  ∃ v', BldW T (ρ.t 5) b v' vr (Lib.byteCells l') w'∧(∀ g,v'.ownBlock=some g→v.ownBlock=some g∨w.heap.size≤g) ∧
      (∀ k,k<w.heap.size→k≠b→some k≠v.ownBlock→w'.heap[k]?=w.heap[k]?)∧w'.os=w.os∧w'.tape=w.tape∧w'.output=w.output∧w.heap.size≤w'.heap.size
set_option maxHeartbeats 2000000 in
/-- WriteByte: the byte comes behind, and nothing else turns -/
theorem wbx (L:Lays.n167 P ρ) (X:Builder.Extra P ρ) {T:TypeId} {b:Nat} {v:Value} {vr:List Value} {l:List UInt8} {w:World} (hcc:CcOk P ρ T (vr.length+2)) (h:BldW T (ρ.t 5) b v vr (Lib.byteCells l) w) (c:UInt8) (hlen:l.length+1≤140737488355328) :
  Calls P (ρ.f 167) #[.pointer (some ⟨b,0,none⟩),.int .u8 c.toNat] w fun e w'=>e = .returned .nilIface∧Grown ρ T b v vr (l++[c]) w w':=by
 obtain ⟨i0,hi,hz0,hz1,hz2⟩:=info_parts X.infoByte
 have mixed:=L.mixed
 have t72:=L.t72;have a72:=L.a72;have z72:=L.z72;have v72:=L.v72;have u72:=run_underlying L.t72
 have t70:=L.t70;have a70:=L.a70;have z70:=L.z70;have v70:=L.v70;have u70:=run_underlying L.t70
 have t5:=L.t5;have a5:=L.a5;have z5:=L.z5;have v5:=L.v5;have u5:=run_underlying L.t5
 have t37:=L.t37;have a37:=L.a37;have z37:=L.z37;have v37:=L.v37;have u37:=run_underlying L.t37
 have t9:=L.t9;have a9:=L.a9;have z9:=L.z9;have v9:=L.v9;have u9:=run_underlying L.t9
 have t4:=L.t4;have a4:=L.a4;have z4:=L.z4;have v4:=L.v4;have u4:=run_underlying L.t4
 have t164:=L.t164;have a164:=L.a164;have z164:=L.z164;have v164:=L.v164;have u164:=run_underlying L.t164
 have e240:∀ args w,(callFunc (ρ.f 240) args).run P w = .ok (.enter (ρ.f 240) args) w:=enters_of L.f240 (by kernel_rfl) rfl
 have hltb:b<w.heap.size:=by obtain ⟨p,h1,_⟩:=h.blk;exact (Array.getElem?_eq_some_iff.1 h1).1
 have hne:=h.ne
 have hcap0:=h.cap
 have hxl:(Lib.byteCells l).length=l.length:=Lib.byteCells_length l
 go_enter L.f167,Body.n167_ntmps ρ
 go_wp2_with (go_at_fn (ρ.f 240);refine (ccx { L with } X.toX72 hcc h).mono ?_)
 rintro e w1 ⟨rfl,hbk,hown,k1,k2,k3,k4,k5⟩
 have c0:w1.cell? ⟨b,0,none⟩=some (.pointer (some ⟨b,0,none⟩)):=by rw [Lib.cell_of_heap hbk];rfl
 have c1:w1.cell? ⟨b,1,none⟩=some v:=by rw [Lib.cell_of_heap hbk];rfl
 have hlt:b<w1.heap.size:=by omega
 go_wp2_with (at_builtin;refine zcm rfl _ _ (ρ.t 37) rfl (ρ.t 5) i0 (.int .u8 0) L.t37 hi hz0 hz1 hz2 v _ _ rfl (hown.alloc _) ⟨w.heap.size,0,none⟩ 1 [.int .u8 c.toNat] rfl rfl ?c1 ?c2 rfl ?c4 hcap0 ?_)
 case c1 =>
  intro j u hj
  match j,hj with
  | 0,hj=>simp at hj;subst hj;rw [← k5];simp [Addr.add]
 case c2=>intro u hu;simp at hu;subst hu;rfl
 case c4=>omega
 intro v' w2 hown' hgrow hfr hcap'
 have hb2:w2.heap[b]?=some (.cells ⟨.pointer (some ⟨b,0,none⟩) :: v :: vr⟩ T (0,0)):=by
  rw [hgrow.block b (by simp;omega) (fun e=>hne e.symm),Lib.alloc_old w1 _ b hlt]
  exact hbk
 have d0:w2.cell? ⟨b,0,none⟩=some (.pointer (some ⟨b,0,none⟩)):=by rw [Lib.cell_of_heap hb2];rfl
 have d1:w2.cell? ⟨b,1,none⟩=some v:=by rw [Lib.cell_of_heap hb2];rfl
 have f1:w2.frozen? ⟨b,1,none⟩=false:=Lib.frozen_of_heap hb2 1
 have hne':v'.ownBlock≠some b:=fun e=>by
  rcases hfr b e with h1 | h1
  ·exact hne h1
  ·(try simp at h1);omega
 obtain ⟨ao,n', cap,rfl⟩:∃ ao n' cap,v' = .slice ao n' cap:=by
  rcases hown'.2 with ⟨hv,_⟩ | ⟨g,cap,cur,hv,_⟩
  ·exact ⟨_,_,_,hv⟩
  ·exact ⟨_,_,_,hv⟩
 have eqc:Lib.byteCells (l++[c])=Lib.byteCells l++[.int .u8 c.toNat]:=by simp [Lib.byteCells]
 go_wp2
 go_ret
 refine ⟨rfl,_,⟨⟨_,by simp [World.setCell,Array.getElem?_modify,hb2],.inr rfl⟩,?_,hne', hcap'⟩,fun g hg=>(hfr g hg).imp id fun h=>by (try simp at h);omega,fun k h1 h2 h3=>?_,?_,?_,?_,?_⟩
 ·rw [eqc];exact zcn (by rw [List.length_append,List.length_singleton,hxl];exact hown') hne' _
 ·rw [Below.heap_setCell _ _ _ k h2,hgrow.block k (by simp;omega) h3,Lib.alloc_old w1 _ k (by omega),k1 k h2]
 ·exact hgrow.os.trans k2
 ·exact hgrow.tape.trans k3
 ·exact hgrow.output.trans k4
 ·have:=hgrow.size;simp [World.setCell] at this ⊢;omega
theorem SBGrow {k:FuncId} {T:TypeId} {ds:List D} (m m2:Nat) (hm:7≠m) (h27:m2≠7) (h2m:m2≠m) (l l':List UInt8) {x r:Value} {res:V} (hres:∀ H B,VR H B res r)
  (hc:∀ (b:Nat) (v:Value) (vr:List Value) (w:World),vr.length=ds.length→BldW T (ρ.t 5) b v vr (Lib.byteCells l) w→Calls P k #[.pointer (some ⟨b,0,none⟩),x] w fun e w'=>e = .returned r∧Grown ρ T b v vr l' w w') :
  Fn P k [(7,.bld T (.own m l.length) (ds.map C.d)),(m,.row (ρ.t 5) 1 (bw l))] [vp 7 0,.t (.c (.d (.raw x)))] res [(7,.bld T (.own m2 l'.length) (ds.map C.d)),(m2,.row (ρ.t 5) 1 (bw l'))]:=by
 intro w H B vals pre
 obtain ⟨a1,a2,rfl,⟨b,c,hb,rfl⟩,h2⟩:=args2 pre.arg
 have h2:=VR.rawI h2
 subst h2
 have hi:∀ b c c', B 7=some (b,c)→B m=some (b,c')→7=m:=fun b c c' h1 h2=>pre.inj _ List.mem_cons_self _ (List.mem_cons_of_mem _ List.mem_cons_self) b c c' h1 h2
 obtain ⟨b', c', v,vr,hb', hw,hv,hr⟩:=bldW_of hm (pre.loc _ List.mem_cons_self) (pre.loc _ (List.mem_cons_of_mem _ List.mem_cons_self)) hi
 rw [hb] at hb'
 injection hb' with hb'
 obtain ⟨rfl,rfl⟩:=Prod.mk.injEq .. ▸ hb'
 obtain ⟨p71,p72⟩:=pre.priv _ List.mem_cons_self b c hb
 refine (hc b v vr w hr.length.symm hw).mono ?_
 rintro en w' ⟨rfl,v', hw', hfr,hk,k1,k2,k3,k4⟩
 have hHs:∀ g,w.heap.size≤g→H g=none:=fun g hg=>by
  cases hx:H g with
  | none=>rfl
  | some o=>have:=(Array.getElem?_eq_some_iff.1 (pre.sat g o hx)).1;omega
 have old:∀ g,v.ownBlock=some g→∃ c,B m=some (g,c):=fun g hg=>by
  rw [hv] at hg
  cases hB:B m with
  | none=>rw [hB] at hg;cases hg
  | some q=>rw [hB] at hg;injection hg with hg;subst hg;exact ⟨q.2,rfl⟩
 have rowOwn:∀ g c,zcr v'=some (g,c)→v'.ownBlock=some g:=fun g c hg=>by
  cases v' <;> first | (simp [zcr] at hg;done) | skip
  rename_i ao k cc
  cases ao with
  | none=>simp [zcr] at hg
  | some a=>simp [zcr] at hg;simp [Value.ownBlock,hg.1]
 have lt':∀ g,v'.ownBlock=some g→g<w'.heap.size:=fun g hg=>by
  rcases hw'.own.2 with ⟨h1,_⟩ | ⟨g2,cap,cur,h1,_,h3,_⟩
  ·rw [h1] at hg;cases hg
  ·rw [h1] at hg;injection hg with hg;subst hg;exact (Array.getElem?_eq_some_iff.1 h3).1
 have hB7:(fun x=>if x=m2 then zcr v' else B x) 7=some (b,c):=by show (if 7=m2 then _ else _)=_;rw [if_neg (Ne.symm h27)];exact hb
 obtain ⟨l7,l9⟩:=bldW_to (H:=H) (B:=fun x=>if x=m2 then zcr v' else B x) (n:=7) (m:=m2) hB7 (by simp) hr hw'
 refine ⟨_,H,fun x=>if x=m2 then zcr v' else B x,rfl,Le.refl _,fun _ _=>rfl,?_,?_,?_,?_,?_,?_,?_⟩
 ·intro k o hko
  have h1:=pre.sat k o hko
  rw [hk k (Array.getElem?_eq_some_iff.1 h1).1 ?_ ?_];exact h1
  ·rintro rfl;rw [p72] at hko;cases hko
  ·intro e1
   obtain ⟨c2,hc2⟩:=old k e1.symm
   have:=(pre.priv _ (List.mem_cons_of_mem _ List.mem_cons_self) k c2 hc2).2
   rw [this] at hko;cases hko
 ·intro p hp
  rcases List.mem_cons.1 hp with rfl | hp
  ·exact l7
  ·rw [List.mem_singleton.1 hp];exact l9
 ·intro p hp g c2 hg
  rcases List.mem_cons.1 hp with rfl | hp
  ·have hg':B 7=some (g,c2):=by have hg:(if 7=m2 then zcr v' else B 7)=some (g,c2):=hg;rwa [if_neg (Ne.symm h27)] at hg
   rw [hb] at hg'
   injection hg' with hg'
   obtain ⟨rfl,rfl⟩:=Prod.mk.injEq .. ▸ hg'
   exact ⟨by omega,p72,.inl ⟨_,List.mem_cons_self,_,hb⟩⟩
  ·rw [List.mem_singleton.1 hp] at hg
   have hg:(if m2=m2 then zcr v' else B m2)=some (g,c2):=hg
   rw [if_pos rfl] at hg
   have hg2:=rowOwn g c2 hg
   refine ⟨lt' g hg2,?_,?_⟩
   ·rcases hfr g hg2 with h1 | h1
    ·obtain ⟨c3,hc3⟩:=old g h1
     exact (pre.priv _ (List.mem_cons_of_mem _ List.mem_cons_self) g c3 hc3).2
    ·exact hHs g h1
   ·rcases hfr g hg2 with h1 | h1
    ·obtain ⟨c3,hc3⟩:=old g h1
     exact .inl ⟨_,List.mem_cons_of_mem _ List.mem_cons_self,c3,hc3⟩
    ·exact .inr h1
 ·have key:∀ g c1 c2,B 7=some (g,c1)→zcr v'=some (g,c2)→False:=fun g c1 c2 h1 h2=>by
   rw [hb] at h1
   injection h1 with h1
   obtain ⟨rfl,rfl⟩:=Prod.mk.injEq .. ▸ h1
   exact hw'.ne (rowOwn _ _ h2)
  intro p hp q hq g c1 c2 h1 h2
  rcases List.mem_cons.1 hp with rfl | hp <;> rcases List.mem_cons.1 hq with rfl | hq
  ·rfl
  ·rw [List.mem_singleton.1 hq] at h2;have h1:(if 7=m2 then zcr v' else B 7)=some (g,c1):=h1;have h2:(if m2=m2 then zcr v' else B m2)=some (g,c2):=h2;rw [if_neg (Ne.symm h27)] at h1;rw [if_pos rfl] at h2;exact (key g c1 c2 h1 h2).elim
  ·rw [List.mem_singleton.1 hp] at h1;have h1:(if m2=m2 then zcr v' else B m2)=some (g,c1):=h1;have h2:(if 7=m2 then zcr v' else B 7)=some (g,c2):=h2;rw [if_neg (Ne.symm h27)] at h2;rw [if_pos rfl] at h1;exact (key g c2 c1 h2 h1).elim
  ·rw [List.mem_singleton.1 hp,List.mem_singleton.1 hq]
 ·intro n hn
  have:n≠m2:=by
   rcases hn with hn | hn
   ·rintro rfl;simp at hn;exact hn.elim h27 h2m
   ·rintro rfl;simp at hn
  show (if n=m2 then _ else _)=_
  rw [if_neg this]
 ·exact hres H _
 ·refine ⟨k1,k2,k3,k4,fun k hk1 hk2=>hk k hk1 ?_ ?_⟩
  ·rintro rfl;exact hk2 ⟨_,List.mem_cons_self,_,hb⟩
  ·intro e1
   obtain ⟨c2,hc2⟩:=old k e1.symm
   exact hk2 ⟨_,List.mem_cons_of_mem _ List.mem_cons_self,c2,hc2⟩
theorem SBByte (La:Lays.n167 P ρ) (X:Builder.Extra P ρ) {T:TypeId} {ds:List D} (hcc:CcOk P ρ T (ds.length+2)) (m m2:Nat) (hm:7≠m) (h27:m2≠7) (h2m:m2≠m) (l:List UInt8) (c:UInt8) (hs:l.length+1≤140737488355328) :
  Fn P (ρ.f 167) [(7,.bld T (.own m l.length) (ds.map C.d)),(m,.row (ρ.t 5) 1 (bw l))] [vp 7 0,vi .u8 (c.toNat:Int)] (.t (.c (.d (.raw .nilIface)))) [(7,.bld T (.own m2 (l++[c]).length) (ds.map C.d)),(m2,.row (ρ.t 5) 1 (bw (l++[c])))] :=
 SBGrow m m2 hm h27 h2m l (l++[c]) (fun _ _=>DR.raw _ rfl) fun b v vr w hl h=>wbx La X (by rw [hl];exact hcc) h c hs
end
section
variable {P:Program}
theorem Op.nilP {d t n o:Nat} {ty:TypeId} {pos af gd}:zaw P ⟨some d,.nilCheck (.tmp t),ty,pos,af,gd⟩ { rs:=[(t,vp n o)],ws:=[(d,some (vp n o))] } :=
 zaw.value d _ rfl rfl rfl fun e f H B a w hok hr=>by
  obtain ⟨b,c,hb,hu⟩:=(hok.slot t _ (hr.1 (t,vp n o) (by simp))).ptrI
  refine ⟨.pointer (some ⟨b,o,none⟩),?_,⟨b,c,hb,rfl⟩⟩
  have h5:a.eval (.tmp t) = .pointer (some ⟨b,o,none⟩):=hu
  generalize a.eval=ρ at h5 ⊢
  simp only [execOp,h5,Sem.run_pure]
theorem bld_cells {e:E} {f:F} {H:Im} {B:Bl} {a:Act} {w:World} (hok:Ok e f H B a w) {n:Nat} {T:TypeId} {c0:C} {rest:List C} (h:f.l n=some (.bld T c0 rest)) {b c:Nat} (hb:B n=some (b,c)) :
  ∃ v1 v2 vr,w.heap[b]?=some (.cells ⟨v1 :: v2 :: vr⟩ T (0,0))∧(v1 = .pointer none∨v1 = .pointer (some ⟨b,0,none⟩))∧(v2 = .slice none 0 0∨∃ g n c,v2 = .slice (some ⟨g,0,none⟩) n c∧0<c)∧CR H B c0 v2∧zal (CR H B) rest vr:=by
 obtain ⟨b', c', v1,v2,vr,hb', hc,h1,h2,h3,h4⟩:=hok.loc n _ h
 rw [hb] at hb'
 injection hb' with hb'
 obtain ⟨rfl,rfl⟩:=Prod.mk.injEq .. ▸ hb'
 exact ⟨v1,v2,vr,hc,h1,h2,h3,h4⟩
theorem Op.loadB_agg {d t n o m:Nat} {T:TypeId} {c0:C} {rest xs:List C} {xt ty:TypeId} {pos af gd} (hs:Sz P xt m true) (h:(rest.drop o).take m=xs) (hm:xs.length=m):zaw P ⟨some d,.load xt (.tmp t),ty,pos,af,gd⟩ { rs:=[(t,vp n (o+2))],rl:=[(n,.bld T c0 rest)],ws:=[(d,some (.t (.agg xs)))] } :=
 zaw.value d _ rfl rfl rfl fun e f H B a w hok hr=>by
  obtain ⟨b,c,hb,hu⟩:=(hok.slot t _ (hr.1 (t,vp n (o+2)) (by simp))).ptrI
  obtain ⟨v1,v2,vr,hc,_,_,_,h2⟩:=bld_cells hok (hr.2 (n,.bld T c0 rest) (by simp)) hb
  have h3:zal (CR H B) xs ((vr.drop o).take m):=by rw [← h];exact (h2.drop o).take m
  refine ⟨.agg ((vr.drop o).take m).toArray,?_,⟨_,rfl,h3⟩⟩
  have h5:a.eval (.tmp t) = .pointer (some ⟨b,o+2,none⟩):=hu
  generalize a.eval=ρ at h5 ⊢
  have h6:=zbj (P:=P) hs (w:=w) (b:=b) (o:=o+2) (cs:=(vr.drop o).take m) (by rw [← h3.length,hm]) (fun j v hv=>by
   refine zbm hc ?_
   rw [List.getElem?_take] at hv
   split at hv
   ·rw [List.getElem?_drop] at hv;rw [show o+2+j=(o+j)+1+1 by omega];exact hv
   ·cases hv)
  simp only [execOp,h5,Instr.loadAt,Instr.sureAddr,Sem.run_bind,Sem.run_pure,Result.andThen_ok,h6]
theorem Op.loadB_c {d t n o m:Nat} {T:TypeId} {c0:C} {rest:List C} {x:C} {xt ty:TypeId} {pos af gd} (hs:Sz P xt m false) (h:rest[o]?=some x):zaw P ⟨some d,.load xt (.tmp t),ty,pos,af,gd⟩ { rs:=[(t,vp n (o+2))],rl:=[(n,.bld T c0 rest)],ws:=[(d,some (.t (.c x)))] } :=
 zaw.value d _ rfl rfl rfl fun e f H B a w hok hr=>by
  obtain ⟨b,c,hb,hu⟩:=(hok.slot t _ (hr.1 (t,vp n (o+2)) (by simp))).ptrI
  obtain ⟨v1,v2,vr,hc,_,_,_,h2⟩:=bld_cells hok (hr.2 (n,.bld T c0 rest) (by simp)) hb
  obtain ⟨ho,rfl⟩:=List.getElem?_eq_some_iff.1 h
  obtain ⟨v,h3,h4⟩:=h2.get o ho
  refine ⟨v,?_,h4⟩
  have h5:a.eval (.tmp t) = .pointer (some ⟨b,o+2,none⟩):=hu
  generalize a.eval=ρ at h5 ⊢
  have h6:=zca (P:=P) hs (zbm hc (o:=o+2) (v:=v) (by exact h3))
  simp only [execOp,h5,Instr.loadAt,Instr.sureAddr,Sem.run_bind,Sem.run_pure,Result.andThen_ok,h6]
theorem Op.storeB {t n o:Nat} {T:TypeId} {c0:C} {rest rest':List C} {x:Operand} {y:C} {rs:List (Nat × V)} {xt ty:TypeId} {pos af gd} (hs:Sz P xt 1 false) (h:OV x (.t (.c y)) rs) (ho:Nat.ble (o+1) rest.length=true) (hc':rest.set o y=rest') :
  zaw P ⟨none,.store xt (.tmp t) x,ty,pos,af,gd⟩ { rs:=(t,vp n (o+2)) :: rs,rl:=[(n,.bld T c0 rest)],wl:=[(n,some (.bld T c0 rest'))] }:=by
 rintro e f a w Q ⟨H,B,hok⟩ hr hnw hb0
 obtain ⟨b,c,hb,hu⟩:=(hok.slot t _ (hr.1 (t,vp n (o+2)) (by simp))).ptrI
 have hfl:=hr.2 (n,.bld T c0 rest) (by simp)
 obtain ⟨v1,v2,vr,hcl,g1,g2,g3,h2⟩:=bld_cells hok hfl hb
 have hv:=h.eval hok (fun p hp=>hr.1 p (by simp [hp]))
 obtain ⟨l,h3,h4⟩:=TR.cells (H:=H) (B:=B) (x:=.c y) hv
 have h4':zal (CR H B) [y] l:=h4
 obtain ⟨u,rfl,hyu⟩:∃ u,l=[u]∧CR H B y u:=by
  match l,h4' with
  | [u],h=>exact ⟨u,rfl,h.1⟩
  | [],h=>exact h.elim
  | _ :: _ :: _,h=>exact h.2.elim
 have ho':o+1≤vr.length:=by rw [← h2.length];exact Nat.le_of_ble_eq_true ho
 have hrun:(storeVar xt ⟨b,o+2,none⟩ (a.eval x)).run P w = .ok () (w.setCells b (o+2) [u]):=by
  have hst:=run_storeCells_cells (P:=P) b (o+2) [u] 0 w (fun j hj=>by
    have hj0:j=0:=by simpa using hj
    subst hj0
    rw [zbm hcl (o:=o+2+0+0) (v:=vr[o]'(by omega)) (by exact List.getElem?_eq_getElem (l:=vr) (i:=o) (by omega))];rfl) (fun j hj=>by simp [World.frozen?, hcl]) (fun v hv=>by
    rw [List.mem_singleton.1 hv];exact flat_one (CR.flat hyu))
  unfold storeVar
  simp only [Sem.run_bind,hs.sizeOf,Result.andThen_ok,h3,List.size_toArray,List.length_singleton,ne_eq,not_true_eq_false,if_false]
  simpa using hst
 obtain ⟨k1,k2,k3,k4,k5,k6⟩:=zbu [u] (o+2) w (v1 :: v2 :: vr) hcl
 have h5:a.eval (.tmp t) = .pointer (some ⟨b,o+2,none⟩):=hu
 unfold Oper.wp
 have hexec:(execOp a.eval ⟨none,.store xt (.tmp t) x,ty,pos,af,gd⟩).run P w = .ok .skip (w.setCells b (o+2) [u]):=by
  generalize hq:a.eval x=q at hrun
  generalize a.eval=ρ at h5 hq ⊢
  simp only [execOp,h5,hq,Instr.storeAt,Instr.sureAddr,Sem.run_bind,Sem.run_pure,Result.andThen_ok,hrun]
 rw [hexec,Oper.upon_skip]
 subst hc'
 refine St.put0 ⟨H,B,hok.write (g:=⟨f.s,fun m=>if m=n then some (.bld T c0 (rest.set o y)) else f.l m⟩) (l' := .bld T c0 (rest.set o y)) hfl hb (fun _=>rfl) (fun _=>rfl) k2 k3 k4 k5 k6 ⟨b,c,v1,v2,vr.set o u,hb,k1,g1,g2,g3,h2.set o hyu⟩⟩ rfl (app0_s _ _ rfl) (fun m=>app1_l f n _ _ rfl m)
theorem Op.boxB {d:Nat} (n m:Nat) (hnm:n≠m) (u8:TypeId) {x:Operand} {rest:List C} {ds:List D} {rs:List (Nat × V)} {T ty:TypeId} {pos af gd} (v:S.T) (h:OV x (.t v) rs) (hcv:cellsOf v=[.d (.raw (.pointer none)),.d (.raw za6)]++rest) (hd:rest=ds.map C.d) :
  zaw P ⟨some d,.box T x,ty,pos,af,gd⟩ { rs:=rs,ws:=[(d,some (vp n 0))],wl:=[(n,some (.bld T (.own m 0) rest)),(m,some (.row u8 1 (bw [])))],nw:=[n,m] }:=by
 rintro e f a w Q hst hr hnw hb
 have hN:=hnw n (by simp)
 have hM:=hnw m (by simp)
 have h1:zaw P ⟨some d,.box T x,ty,pos,af,gd⟩ { rs:=rs,ws:=[(d,some (vp n 0))],wl:=[(n,some (.bld T (.d (.raw za6)) rest))],nw:=[n] }:=by
  refine zaw.news d n _ _ rfl rfl rfl (by simp) fun e f H B a w hok hr hn=>?_
  have hv:=h.eval hok hr.1
  obtain ⟨l,h1,h2⟩:=TR.cells hv
  have h2':zal (CR H B) ([.d (.raw (.pointer none)),.d (.raw za6)]++rest) l:=by rw [← hcv];exact h2
  obtain ⟨vr,rfl,h3⟩:∃ vr,l = .pointer none :: .slice none 0 0 :: vr∧zal (CR H B) rest vr:=by
   match l,h2' with
   | [],h=>exact h.elim
   | [_],h=>exact h.2.elim
   | a :: b :: vr,h =>
    have q1:=h.1;have q2:=h.2.1
    cases q1;cases q2
    exact ⟨vr,rfl,h.2.2⟩
  subst hd
  refine ⟨.pointer (some ⟨w.heap.size,0,none⟩),0,.cells ⟨.pointer none :: .slice none 0 0 :: vr⟩ T,?_,⟨w.heap.size,0,.pointer none,.slice none 0 0,vr,by simp,heap_alloc_new w _,.inl rfl,.inl rfl,DR.raw _ rfl,h3.tagsMono fun c hc=>?_⟩,⟨w.heap.size,0,by simp,rfl⟩⟩
  ·simp only [execOp,Instr.box,newVar,newRow,newObj,h1,Sem.run_bind,Sem.run_pure]
   rfl
  ·obtain ⟨z,_,rfl⟩:=List.mem_map.1 hc;simp [C.tags]
 refine Oper.wp_imp (h1 e f a w Q hst ⟨hr.1,fun p hp=>(by cases hp)⟩ (fun k hk=>by rw [List.mem_singleton.1 hk];exact hN) ⟨fun p hp=>hb.1 p hp,fun h=>by cases h⟩) fun a' w' h2=>?_
 have hM':New e.K (f.app { rs:=rs,ws:=[(d,some (vp n 0))],wl:=[(n,some (.bld T (.d (.raw za6)) rest))],nw:=[n] }) m:=by
  obtain ⟨g1,g2,g3,g4⟩:=hM
  refine ⟨g1,by rw [zcy (by simpa using Ne.symm hnm)];exact g2,fun t v hv=>?_,fun k l hk=>?_⟩
  ·rw [app1_s f d (some (vp n 0)) _ rfl] at hv
   split at hv
   ·injection hv with hv;subst hv;intro hx;have hx:m ∈ [n]:=hx;exact hnm (List.mem_singleton.1 hx).symm
   ·exact g3 t v hv
  ·rw [app1_l f n _ _ rfl] at hk
   split at hk
   ·injection hk with hk;subst hk;subst hd;intro hx
    have hx:m ∈ ([]:List Nat)++(ds.map C.d).flatMap C.tags:=hx
    rw [List.nil_append,List.mem_flatMap] at hx
    obtain ⟨z,hz,hx⟩:=hx
    obtain ⟨y,_,rfl⟩:=List.mem_map.1 hz
    cases hx
   ·exact g4 k l hk
 refine (h2.nilOB n m 1 u8 T (rest:=rest) (by rw [app1_l f n _ _ rfl];simp) hM').weaken ⟨fun t v hv=>?_,fun k l hk=>?_⟩
 ·show (f.app _).s t=_
  rw [app1_s f d (some (vp n 0)) _ rfl] at hv ⊢
  exact hv
 ·simp only [F.app,List.lookup] at hk
  simp only [F.setL]
  by_cases e1:k=n
  ·subst e1;simpa using hk
  ·have g1:(k == n)=false:=by simpa using e1
   rw [g1] at hk
   rw [if_neg (by intro h;exact e1 (Nat.eq_of_beq_eq_true h))]
   by_cases e2:k=m
   ·subst e2;simpa [bw] using hk
   ·have g2:(k == m)=false:=by simpa using e2
    rw [g2] at hk
    rw [if_neg (by intro h;exact e2 (Nat.eq_of_beq_eq_true h)),app1_l f n _ _ rfl,if_neg e1]
    exact hk
end
end
def fam1tb:Tb:=[(22,⟨1,false,[],[.d (.raw za6)],1⟩),(9,⟨1,false,[],[.d (.raw (.string ByteArray.empty))],2⟩),(72,⟨1,false,[],[.d (.raw (.pointer none))],4⟩),(73,⟨1,false,[],[.d (.raw za6)],1⟩),(75,⟨2,true,[(0,1,false),(1,1,false)],[.d (.raw (.pointer none)),.d (.raw za6)],0⟩),(23,⟨1,false,[],[.d (.raw za6)],1⟩),(3,⟨1,false,[],[.d (.raw (.int .i64 0))],13⟩),(24,⟨1,false,[],[.d (.raw za6)],1⟩),(4,⟨1,false,[],[.d (.raw (.bool false))],3⟩),(26,⟨1,false,[],[.d (nsl [])],1⟩),(28,⟨2,true,[(0,1,false),(1,1,false)],[.d (.raw (.bool false)),.d (nsl [])],0⟩),(30,⟨3,true,[(0,1,false),(1,2,true)],[.d (.raw za6),.d (.raw (.bool false)),.d (nsl [])],0⟩),(32,⟨4,true,[(0,3,true),(3,1,false)],[.d (.raw za6),.d (.raw (.bool false)),.d (nsl []),.d (.raw (.bool false))],0⟩),(33,⟨1,false,[],[.d (.raw za6)],1⟩),(35,⟨6,true,[(0,1,false),(1,4,true),(5,1,false)],[.d (.raw (.int .i64 0)),.d (.raw za6),.d (.raw (.bool false)),.d (nsl []),.d (.raw (.bool false)),.d (.raw za6)],0⟩),(36,⟨1,false,[],[.d (.raw za6)],1⟩),(37,⟨1,false,[],[.d (.raw za6)],1⟩),(39,⟨10,true,[(0,1,false),(1,1,false),(2,6,true),(8,1,false),(9,1,false)],[.d (.raw za6),.d (.raw za6),.d (.raw (.int .i64 0)),.d (.raw za6),.d (.raw (.bool false)),.d (nsl []),.d (.raw (.bool false)),.d (.raw za6),.d (.raw za6),.d (.raw za6)],0⟩),(41,⟨1,false,[],[.d (.raw za6)],1⟩),(77,⟨14,true,[(0,2,true),(2,10,true),(12,1,false),(13,1,false)],[.d (.raw (.pointer none)),.d (.raw za6),.d (.raw za6),.d (.raw za6),.d (.raw (.int .i64 0)),.d (.raw za6),.d (.raw (.bool false)),.d (nsl []),.d (.raw (.bool false)),.d (.raw za6),.d (.raw za6),.d (.raw za6),.d (.raw za6),.d (.raw (.int .i64 0))],0⟩),(40,⟨1,false,[],[.d (.raw za6)],1⟩),(66,⟨1,false,[],[.d (.raw za6)],1⟩),(68,⟨2,true,[(0,1,false),(1,1,false)],[.d (.raw za6),.d (.raw za6)],0⟩),(43,⟨3,true,[(0,1,false),(1,1,false),(2,1,false)],[.d (.raw za6),.d (.raw za6),.d (.raw za6)],0⟩),(50,⟨7,true,[(0,1,false),(1,1,false),(2,3,true),(5,1,false),(6,1,false)],[.d (.raw (.int .i64 0)),.d (.raw (.string ByteArray.empty)),.d (.raw za6),.d (.raw za6),.d (.raw za6),.d (.raw (.int .i64 0)),.d (.raw (.int .i64 0))],0⟩),(45,⟨2,true,[(0,1,false),(1,1,false)],[.d (.raw (.int .i64 0)),.d (.raw (.int .i64 0))],0⟩)]
theorem zae:TbOk Tryd.prog fam1tb:=⟨zb0.slc Tryd.underlying22 (by kernel_rfl) ⟨(.slice none 0 0:Value),[.slice none 0 0],by kernel_rfl,rfl,(fun _ _=>⟨DR.raw _ rfl,trivial⟩)⟩,
 zb0.str Tryd.underlying9 (by kernel_rfl) ⟨(.string ByteArray.empty:Value),[.string ByteArray.empty],by kernel_rfl,rfl,(fun _ _=>⟨DR.raw _ rfl,trivial⟩)⟩,
 zb0.fnc Tryd.underlying72 rfl (by kernel_rfl) ⟨(.pointer none:Value),[.pointer none],by kernel_rfl,rfl,(fun _ _=>⟨DR.raw _ rfl,trivial⟩)⟩,
 zb0.slc Tryd.underlying73 (by kernel_rfl) ⟨(.slice none 0 0:Value),[.slice none 0 0],by kernel_rfl,rfl,(fun _ _=>⟨DR.raw _ rfl,trivial⟩)⟩,
 zb0.st Tryd.underlying75 (by kernel_rfl) ⟨⟨by decide,Fd.mk' _ _ Tryd.underlying75 rfl rfl (Sz.mk' (by kernel_rfl) Tryd.underlying72 _ rfl)⟩,⟨by decide,Fd.mk' _ _ Tryd.underlying75 rfl rfl (Sz.mk' (by kernel_rfl) Tryd.underlying73 _ rfl)⟩,trivial⟩ ⟨(Value.agg #[.pointer none,.slice none 0 0]),[.pointer none,.slice none 0 0],by kernel_rfl,rfl,(fun _ _=>⟨DR.raw _ rfl,DR.raw _ rfl,trivial⟩)⟩ ⟨_,Tryd.underlying75,⟨⟨rfl,by kernel_rfl⟩,⟨rfl,by kernel_rfl⟩,trivial⟩⟩,
 zb0.slc Tryd.underlying23 (by kernel_rfl) ⟨(.slice none 0 0:Value),[.slice none 0 0],by kernel_rfl,rfl,(fun _ _=>⟨DR.raw _ rfl,trivial⟩)⟩,
 zb0.int Tryd.underlying3 rfl (by kernel_rfl) ⟨(.int .i64 0:Value),[.int .i64 0],by kernel_rfl,rfl,(fun _ _=>⟨DR.raw _ rfl,trivial⟩)⟩,
 zb0.slc Tryd.underlying24 (by kernel_rfl) ⟨(.slice none 0 0:Value),[.slice none 0 0],by kernel_rfl,rfl,(fun _ _=>⟨DR.raw _ rfl,trivial⟩)⟩,
 zb0.bl Tryd.underlying4 (by kernel_rfl) ⟨(.bool false:Value),[.bool false],by kernel_rfl,rfl,(fun _ _=>⟨DR.raw _ rfl,trivial⟩)⟩,
 zb0.slc Tryd.underlying26 (by kernel_rfl) ⟨(.slice none 0 0:Value),[.slice none 0 0],by kernel_rfl,rfl,(fun _ _=>⟨DR.nil _ _ _ (fun _=>rfl) (Nat.zero_le _),trivial⟩)⟩,
 zb0.st Tryd.underlying28 (by kernel_rfl) ⟨⟨by decide,Fd.mk' _ _ Tryd.underlying28 rfl rfl (Sz.mk' (by kernel_rfl) Tryd.underlying4 _ rfl)⟩,⟨by decide,Fd.mk' _ _ Tryd.underlying28 rfl rfl (Sz.mk' (by kernel_rfl) Tryd.underlying26 _ rfl)⟩,trivial⟩ ⟨(Value.agg #[.bool false,.slice none 0 0]),[.bool false,.slice none 0 0],by kernel_rfl,rfl,(fun _ _=>⟨DR.raw _ rfl,DR.nil _ _ _ (fun _=>rfl) (Nat.zero_le _),trivial⟩)⟩ ⟨_,Tryd.underlying28,⟨⟨rfl,by kernel_rfl⟩,⟨rfl,by kernel_rfl⟩,trivial⟩⟩,
 zb0.st Tryd.underlying30 (by kernel_rfl) ⟨⟨by decide,Fd.mk' _ _ Tryd.underlying30 rfl rfl (Sz.mk' (by kernel_rfl) Tryd.underlying24 _ rfl)⟩,⟨by decide,Fd.mk' _ _ Tryd.underlying30 rfl rfl (Sz.mk' (by kernel_rfl) Tryd.underlying28 _ rfl)⟩,trivial⟩ ⟨(Value.agg #[.slice none 0 0,.bool false,.slice none 0 0]),[.slice none 0 0,.bool false,.slice none 0 0],by kernel_rfl,rfl,(fun _ _=>⟨DR.raw _ rfl,DR.raw _ rfl,DR.nil _ _ _ (fun _=>rfl) (Nat.zero_le _),trivial⟩)⟩ ⟨_,Tryd.underlying30,⟨⟨rfl,by kernel_rfl⟩,⟨rfl,by kernel_rfl⟩,trivial⟩⟩,
 zb0.st Tryd.underlying32 (by kernel_rfl) ⟨⟨by decide,Fd.mk' _ _ Tryd.underlying32 rfl rfl (Sz.mk' (by kernel_rfl) Tryd.underlying30 _ rfl)⟩,⟨by decide,Fd.mk' _ _ Tryd.underlying32 rfl rfl (Sz.mk' (by kernel_rfl) Tryd.underlying4 _ rfl)⟩,trivial⟩ ⟨(Value.agg #[.slice none 0 0,.bool false,.slice none 0 0,.bool false]),[.slice none 0 0,.bool false,.slice none 0 0,.bool false],by kernel_rfl,rfl,(fun _ _=>⟨DR.raw _ rfl,DR.raw _ rfl,DR.nil _ _ _ (fun _=>rfl) (Nat.zero_le _),DR.raw _ rfl,trivial⟩)⟩ ⟨_,Tryd.underlying32,⟨⟨rfl,by kernel_rfl⟩,⟨rfl,by kernel_rfl⟩,trivial⟩⟩,
 zb0.slc Tryd.underlying33 (by kernel_rfl) ⟨(.slice none 0 0:Value),[.slice none 0 0],by kernel_rfl,rfl,(fun _ _=>⟨DR.raw _ rfl,trivial⟩)⟩,
 zb0.st Tryd.underlying35 (by kernel_rfl) ⟨⟨by decide,Fd.mk' _ _ Tryd.underlying35 rfl rfl (Sz.mk' (by kernel_rfl) Tryd.underlying3 _ rfl)⟩,⟨by decide,Fd.mk' _ _ Tryd.underlying35 rfl rfl (Sz.mk' (by kernel_rfl) Tryd.underlying32 _ rfl)⟩,⟨by decide,Fd.mk' _ _ Tryd.underlying35 rfl rfl (Sz.mk' (by kernel_rfl) Tryd.underlying33 _ rfl)⟩,trivial⟩ ⟨(Value.agg #[.int .i64 0,.slice none 0 0,.bool false,.slice none 0 0,.bool false,.slice none 0 0]),[.int .i64 0,.slice none 0 0,.bool false,.slice none 0 0,.bool false,.slice none 0 0],by kernel_rfl,rfl,(fun _ _=>⟨DR.raw _ rfl,DR.raw _ rfl,DR.raw _ rfl,DR.nil _ _ _ (fun _=>rfl) (Nat.zero_le _),DR.raw _ rfl,DR.raw _ rfl,trivial⟩)⟩ ⟨_,Tryd.underlying35,⟨⟨rfl,by kernel_rfl⟩,⟨rfl,by kernel_rfl⟩,⟨rfl,by kernel_rfl⟩,trivial⟩⟩,
 zb0.slc Tryd.underlying36 (by kernel_rfl) ⟨(.slice none 0 0:Value),[.slice none 0 0],by kernel_rfl,rfl,(fun _ _=>⟨DR.raw _ rfl,trivial⟩)⟩,
 zb0.slc Tryd.underlying37 (by kernel_rfl) ⟨(.slice none 0 0:Value),[.slice none 0 0],by kernel_rfl,rfl,(fun _ _=>⟨DR.raw _ rfl,trivial⟩)⟩,
 zb0.st Tryd.underlying39 (by kernel_rfl) ⟨⟨by decide,Fd.mk' _ _ Tryd.underlying39 rfl rfl (Sz.mk' (by kernel_rfl) Tryd.underlying22 _ rfl)⟩,⟨by decide,Fd.mk' _ _ Tryd.underlying39 rfl rfl (Sz.mk' (by kernel_rfl) Tryd.underlying23 _ rfl)⟩,⟨by decide,Fd.mk' _ _ Tryd.underlying39 rfl rfl (Sz.mk' (by kernel_rfl) Tryd.underlying35 _ rfl)⟩,⟨by decide,Fd.mk' _ _ Tryd.underlying39 rfl rfl (Sz.mk' (by kernel_rfl) Tryd.underlying36 _ rfl)⟩,⟨by decide,Fd.mk' _ _ Tryd.underlying39 rfl rfl (Sz.mk' (by kernel_rfl) Tryd.underlying37 _ rfl)⟩,trivial⟩ ⟨(Value.agg #[.slice none 0 0,.slice none 0 0,.int .i64 0,.slice none 0 0,.bool false,.slice none 0 0,.bool false,.slice none 0 0,.slice none 0 0,.slice none 0 0]),[.slice none 0 0,.slice none 0 0,.int .i64 0,.slice none 0 0,.bool false,.slice none 0 0,.bool false,.slice none 0 0,.slice none 0 0,.slice none 0 0],by kernel_rfl,rfl,(fun _ _=>⟨DR.raw _ rfl,DR.raw _ rfl,DR.raw _ rfl,DR.raw _ rfl,DR.raw _ rfl,DR.nil _ _ _ (fun _=>rfl) (Nat.zero_le _),DR.raw _ rfl,DR.raw _ rfl,DR.raw _ rfl,DR.raw _ rfl,trivial⟩)⟩ ⟨_,Tryd.underlying39,⟨⟨rfl,by kernel_rfl⟩,⟨rfl,by kernel_rfl⟩,⟨rfl,by kernel_rfl⟩,⟨rfl,by kernel_rfl⟩,⟨rfl,by kernel_rfl⟩,trivial⟩⟩,
 zb0.slc Tryd.underlying41 (by kernel_rfl) ⟨(.slice none 0 0:Value),[.slice none 0 0],by kernel_rfl,rfl,(fun _ _=>⟨DR.raw _ rfl,trivial⟩)⟩,
 zb0.st Tryd.underlying77 (by kernel_rfl) ⟨⟨by decide,Fd.mk' _ _ Tryd.underlying77 rfl rfl (Sz.mk' (by kernel_rfl) Tryd.underlying75 _ rfl)⟩,⟨by decide,Fd.mk' _ _ Tryd.underlying77 rfl rfl (Sz.mk' (by kernel_rfl) Tryd.underlying39 _ rfl)⟩,⟨by decide,Fd.mk' _ _ Tryd.underlying77 rfl rfl (Sz.mk' (by kernel_rfl) Tryd.underlying41 _ rfl)⟩,⟨by decide,Fd.mk' _ _ Tryd.underlying77 rfl rfl (Sz.mk' (by kernel_rfl) Tryd.underlying3 _ rfl)⟩,trivial⟩ ⟨(Value.agg #[.pointer none,.slice none 0 0,.slice none 0 0,.slice none 0 0,.int .i64 0,.slice none 0 0,.bool false,.slice none 0 0,.bool false,.slice none 0 0,.slice none 0 0,.slice none 0 0,.slice none 0 0,.int .i64 0]),[.pointer none,.slice none 0 0,.slice none 0 0,.slice none 0 0,.int .i64 0,.slice none 0 0,.bool false,.slice none 0 0,.bool false,.slice none 0 0,.slice none 0 0,.slice none 0 0,.slice none 0 0,.int .i64 0],by kernel_rfl,rfl,(fun _ _=>⟨DR.raw _ rfl,DR.raw _ rfl,DR.raw _ rfl,DR.raw _ rfl,DR.raw _ rfl,DR.raw _ rfl,DR.raw _ rfl,DR.nil _ _ _ (fun _=>rfl) (Nat.zero_le _),DR.raw _ rfl,DR.raw _ rfl,DR.raw _ rfl,DR.raw _ rfl,DR.raw _ rfl,DR.raw _ rfl,trivial⟩)⟩ ⟨_,Tryd.underlying77,⟨⟨rfl,by kernel_rfl⟩,⟨rfl,by kernel_rfl⟩,⟨rfl,by kernel_rfl⟩,⟨rfl,by kernel_rfl⟩,trivial⟩⟩,
 zb0.slc Tryd.underlying40 (by kernel_rfl) ⟨(.slice none 0 0:Value),[.slice none 0 0],by kernel_rfl,rfl,(fun _ _=>⟨DR.raw _ rfl,trivial⟩)⟩,
 zb0.slc Tryd.underlying66 (by kernel_rfl) ⟨(.slice none 0 0:Value),[.slice none 0 0],by kernel_rfl,rfl,(fun _ _=>⟨DR.raw _ rfl,trivial⟩)⟩,
 zb0.st Tryd.underlying68 (by kernel_rfl) ⟨⟨by decide,Fd.mk' _ _ Tryd.underlying68 rfl rfl (Sz.mk' (by kernel_rfl) Tryd.underlying41 _ rfl)⟩,⟨by decide,Fd.mk' _ _ Tryd.underlying68 rfl rfl (Sz.mk' (by kernel_rfl) Tryd.underlying66 _ rfl)⟩,trivial⟩ ⟨(Value.agg #[.slice none 0 0,.slice none 0 0]),[.slice none 0 0,.slice none 0 0],by kernel_rfl,rfl,(fun _ _=>⟨DR.raw _ rfl,DR.raw _ rfl,trivial⟩)⟩ ⟨_,Tryd.underlying68,⟨⟨rfl,by kernel_rfl⟩,⟨rfl,by kernel_rfl⟩,trivial⟩⟩,
 zb0.st Tryd.underlying43 (by kernel_rfl) ⟨⟨by decide,Fd.mk' _ _ Tryd.underlying43 rfl rfl (Sz.mk' (by kernel_rfl) Tryd.underlying40 _ rfl)⟩,⟨by decide,Fd.mk' _ _ Tryd.underlying43 rfl rfl (Sz.mk' (by kernel_rfl) Tryd.underlying40 _ rfl)⟩,⟨by decide,Fd.mk' _ _ Tryd.underlying43 rfl rfl (Sz.mk' (by kernel_rfl) Tryd.underlying41 _ rfl)⟩,trivial⟩ ⟨(Value.agg #[.slice none 0 0,.slice none 0 0,.slice none 0 0]),[.slice none 0 0,.slice none 0 0,.slice none 0 0],by kernel_rfl,rfl,(fun _ _=>⟨DR.raw _ rfl,DR.raw _ rfl,DR.raw _ rfl,trivial⟩)⟩ ⟨_,Tryd.underlying43,⟨⟨rfl,by kernel_rfl⟩,⟨rfl,by kernel_rfl⟩,⟨rfl,by kernel_rfl⟩,trivial⟩⟩,
 zb0.st Tryd.underlying50 (by kernel_rfl) ⟨⟨by decide,Fd.mk' _ _ Tryd.underlying50 rfl rfl (Sz.mk' (by kernel_rfl) Tryd.underlying3 _ rfl)⟩,⟨by decide,Fd.mk' _ _ Tryd.underlying50 rfl rfl (Sz.mk' (by kernel_rfl) Tryd.underlying9 _ rfl)⟩,⟨by decide,Fd.mk' _ _ Tryd.underlying50 rfl rfl (Sz.mk' (by kernel_rfl) Tryd.underlying43 _ rfl)⟩,⟨by decide,Fd.mk' _ _ Tryd.underlying50 rfl rfl (Sz.mk' (by kernel_rfl) Tryd.underlying3 _ rfl)⟩,⟨by decide,Fd.mk' _ _ Tryd.underlying50 rfl rfl (Sz.mk' (by kernel_rfl) Tryd.underlying3 _ rfl)⟩,trivial⟩ ⟨(Value.agg #[.int .i64 0,.string ByteArray.empty,.slice none 0 0,.slice none 0 0,.slice none 0 0,.int .i64 0,.int .i64 0]),[.int .i64 0,.string ByteArray.empty,.slice none 0 0,.slice none 0 0,.slice none 0 0,.int .i64 0,.int .i64 0],by kernel_rfl,rfl,(fun _ _=>⟨DR.raw _ rfl,DR.raw _ rfl,DR.raw _ rfl,DR.raw _ rfl,DR.raw _ rfl,DR.raw _ rfl,DR.raw _ rfl,trivial⟩)⟩ ⟨_,Tryd.underlying50,⟨⟨rfl,by kernel_rfl⟩,⟨rfl,by kernel_rfl⟩,⟨rfl,by kernel_rfl⟩,⟨rfl,by kernel_rfl⟩,⟨rfl,by kernel_rfl⟩,trivial⟩⟩,
 zb0.st Tryd.underlying45 (by kernel_rfl) ⟨⟨by decide,Fd.mk' _ _ Tryd.underlying45 rfl rfl (Sz.mk' (by kernel_rfl) Tryd.underlying3 _ rfl)⟩,⟨by decide,Fd.mk' _ _ Tryd.underlying45 rfl rfl (Sz.mk' (by kernel_rfl) Tryd.underlying3 _ rfl)⟩,trivial⟩ ⟨(Value.agg #[.int .i64 0,.int .i64 0]),[.int .i64 0,.int .i64 0],by kernel_rfl,rfl,(fun _ _=>⟨DR.raw _ rfl,DR.raw _ rfl,trivial⟩)⟩ ⟨_,Tryd.underlying45,⟨⟨rfl,by kernel_rfl⟩,⟨rfl,by kernel_rfl⟩,trivial⟩⟩,
 trivial⟩
theorem pi1_1:zaa Tryd.prog 30:=zaa.mk' (by kernel_rfl)
theorem pi1_2:zaa Tryd.prog 31:=zaa.mk' (by kernel_rfl)
theorem wrLies:liesAt Tryd.prog Tryd.prog.depth 77 ((12+2) / Tryd.prog.cellsOf 77) 0 75 1=true:=by kernel_rfl
theorem WrStr (ds:List D) (hd:ds.length=12) (m m2:Nat) (hm:7≠m) (h27:m2≠7) (h2m:m2≠m) (l:List UInt8) (s:ByteArray) (hs:l.length+s.size≤140737488355328):Fn Tryd.prog 30 [(7,.bld 77 (.own m l.length) (ds.map C.d)),(m,.row 5 1 (bw l))] [vp 7 0,vs s] (.tup [.c (cI s.size),.c (.d (.raw .nilIface))]) [(7,.bld 77 (.own m2 (l++s.data.toList).length) (ds.map C.d)),(m2,.row 5 1 (bw (l++s.data.toList)))] :=
 SBWrite Tryd.lays166 Tryd.Builder_Extra_166 (CcOk.at_ { Tryd.lays166 with } Tryd.Builder_Extra_166.toX72 (Nat.succ_pos _) (by rw [hd];exact wrLies)) m m2 hm h27 h2m l s hs
theorem WrByte (ds:List D) (hd:ds.length=12) (m m2:Nat) (hm:7≠m) (h27:m2≠7) (h2m:m2≠m) (l:List UInt8) (c:UInt8) (hs:l.length+1≤140737488355328):Fn Tryd.prog 31 [(7,.bld 77 (.own m l.length) (ds.map C.d)),(m,.row 5 1 (bw l))] [vp 7 0,vi .u8 (c.toNat:Int)] (.t (.c (.d (.raw .nilIface)))) [(7,.bld 77 (.own m2 (l++[c]).length) (ds.map C.d)),(m2,.row 5 1 (bw (l++[c])))] :=
 SBByte Tryd.lays167 Tryd.Builder_Extra_167 (CcOk.at_ { Tryd.lays167 with } Tryd.Builder_Extra_167.toX72 (Nat.succ_pos _) (by rw [hd];exact wrLies)) m m2 hm h27 h2m l c hs
theorem WrString (ds:List D) (m:Nat) (hm:7≠m) (l:List UInt8) (h0:l≠[]):Fn Tryd.prog 22 [(7,.bld 77 (.own m l.length) (ds.map C.d)),(m,.row 5 1 (bw l))] [vp 7 0] (vs ⟨l.toArray⟩) [] :=
 SBString Tryd.lays169 Tryd.Builder_Extra_169 m hm l h0
def zav (ts:List ByteArray):List UInt8:=ts.flatMap fun t=>t.data.toList
def za9 (ts:List ByteArray):List UInt8:=zav ts++[10]
theorem catW_snoc {ts:List ByteArray} {j:Nat} {t:ByteArray} (h:ts[j]?=some t):zav (ts.take j)++t.data.toList=zav (ts.take (j+1)):=by
 unfold zav;rw [List.take_add_one,h,List.flatMap_append];simp
theorem catW_le {ts:List ByteArray} {j:Nat} {t:ByteArray} (h:ts[j]?=some t):(zav (ts.take j)).length+t.size≤(zav ts).length:=by
 have e:zav ts=zav (ts.take (j+1))++zav (ts.drop (j+1)):=by unfold zav;rw [← List.flatMap_append,List.take_append_drop]
 have e2:=congrArg List.length (catW_snoc h)
 have e1:=congrArg List.length e
 rw [List.length_append] at e1 e2
 rw [baL];omega
theorem zba (ts:List ByteArray):(za9 ts).length=(zav ts).length+1:=by unfold za9;rw [List.length_append];rfl
abbrev q1 (ts:List ByteArray):V:=.t (.c (.d (.sl 1 (ts.map za3))))
set_option maxHeartbeats 4000000 in
theorem WLineA (d0 d1 d2 d3 d4 d5 d6 d7 d8 d9 d10 d11:D) (l:List UInt8) (ts:List ByteArray) (hl:l.length+(za9 ts).length≤4294967296) (ht:ts.length≤1000000):Fn Tryd.prog 19 [(7,.bld 77 (.own 8 l.length) [.d d0,.d d1,.d d2,.d d3,.d d4,.d d5,.d d6,.d d7,.d d8,.d d9,.d d10,.d d11]),(8,.row 5 1 (bw l))] [vp 7 0,.t (.c (.d (.sl 1 (ts.map za3))))] (.tup []) [(7,.bld 77 (.own 9 (l++za9 ts).length) [.d d0,.d d1,.d d2,.d d3,.d d4,.d d5,.d d6,.d d7,.d d8,.d d9,.d d10,.d d11]),(9,.row 5 1 (bw (l++za9 ts)))]:=by
 have lln:=zba ts
 refine Fn.body Tryd.func19 rfl 22 rfl fun w H B a h=>?_
 refine wp_seq (rq zae 30 [(1,.len (c:=(.d (.sl 1 (ts.map za3)))) (n:=ts.length) (za8 _ _ _))] [(0,vp 7 0),(6,q1 ts),(7,vi .i64 (ts.length:Int)),(8,vi .i64 0)] [(7,.bld 77 (.own 8 l.length) [.d d0,.d d1,.d d2,.d d3,.d d4,.d d5,.d d6,.d d7,.d d8,.d d9,.d d10,.d d11]),(8,.row 5 1 (bw l))] h ?_);clear h;intro a w h
 refine wp_block ?_
 replace h:=renS 8 20 [(0,vp 7 0),(6,q1 ts),(7,vi .i64 (ts.length:Int)),(8,vi .i64 0)] [(7,.bld 77 (.own 20 l.length) [.d d0,.d d1,.d d2,.d d3,.d d4,.d d5,.d d6,.d d7,.d d8,.d d9,.d d10,.d d11]),(20,.row 5 1 (bw l))] h
 replace h:=h.conv (f':=F.of [(0,vp 7 0),(6,q1 ts),(7,vi .i64 (ts.length:Int)),(8,vi .i64 0)] [(7,.bld 77 (.own 20 (l++zav (ts.take 0)).length) [.d d0,.d d1,.d d2,.d d3,.d d4,.d d5,.d d6,.d d7,.d d8,.d d9,.d d10,.d d11]),(20,.row 5 1 (bw (l++zav (ts.take 0))))]) (congrArg (fun (z_:List UInt8)=>F.of [(0,vp 7 0),(6,q1 ts),(7,vi .i64 (ts.length:Int)),(8,vi .i64 0)] [(7,.bld 77 (.own 20 z_.length) [.d d0,.d d1,.d d2,.d d3,.d d4,.d d5,.d d6,.d d7,.d d8,.d d9,.d d10,.d d11]),(20,.row 5 1 (bw z_))]) (show (l:List UInt8)=(l++zav (ts.take 0)) from (by simp [zav])))
 refine zci (ι:=(Nat)) (fun (z_:(Nat))=>match z_ with | j=>j≤ts.length)
   (fun (z_:(Nat))=>match z_ with | j=>[(0,vp 7 0),(6,q1 ts),(7,vi .i64 (ts.length:Int)),(8,vi .i64 (j:Int))])
   (fun (z_:(Nat))=>match z_ with | j=>[(7,.bld 77 (.own 20 (l++zav (ts.take j)).length) [.d d0,.d d1,.d d2,.d d3,.d d4,.d d5,.d d6,.d d7,.d d8,.d d9,.d d10,.d d11]),(20,.row 5 1 (bw (l++zav (ts.take j))))])
   (fun (z_:(Nat))=>match z_ with | j=>ts.length - j) 0 ?_ h (by kernel_rfl) (by kernel_rfl) ?_
 ·exact Nat.zero_le _
 ·clear h;rintro j a w hI h
  change St _ (F.of [(0,vp 7 0),(6,q1 ts),(7,vi .i64 (ts.length:Int)),(8,vi .i64 (j:Int))] [(7,.bld 77 (.own 20 (l++zav (ts.take j)).length) [.d d0,.d d1,.d d2,.d d3,.d d4,.d d5,.d d6,.d d7,.d d8,.d d9,.d d10,.d d11]),(20,.row 5 1 (bw (l++zav (ts.take j))))]) a w at h
  refine rq zae 30 [] [(0,vp 7 0),(6,q1 ts),(7,vi .i64 (ts.length:Int)),(8,vi .i64 (j:Int)),(9,vb (decide ((j:Int)<(ts.length:Int))))] [(7,.bld 77 (.own 20 (l++zav (ts.take j)).length) [.d d0,.d d1,.d d2,.d d3,.d d4,.d d5,.d d6,.d d7,.d d8,.d d9,.d d10,.d d11]),(20,.row 5 1 (bw (l++zav (ts.take j))))] h ?_;clear h;intro a w h
  refine wp_seq ?_
  refine zac (decide ((j:Int)<(ts.length:Int))) h rfl (fun hc=>?_) (fun hc=>?_)
  ·have hc1:=hc;clear hc
   have hc1':=of_decide_eq_true hc1
   refine wp_skip (za4 (wp_seq (wp_block ?_)))
   obtain ⟨x1,hx1⟩:∃ z_:ByteArray,ts[j]?=some z_:=⟨_,List.getElem?_eq_getElem (by first | omega | (simp at *;omega))⟩
   have lcx1:=catW_le hx1
   refine rq zae 30 [(0,.gen _ _ _ fun _ _ _ _=>Op.idxD (d:=10) (t:=6) (k:=.i64) pa1_4 (zam hx1 (f:=za3)) (OV.tmp 8 _))] [(0,vp 7 0),(5,.t (.c (.d (.raw (.string x1))))),(6,q1 ts),(7,vi .i64 (ts.length:Int)),(8,vi .i64 (j:Int))] [(7,.bld 77 (.own 20 (l++zav (ts.take j)).length) [.d d0,.d d1,.d d2,.d d3,.d d4,.d d5,.d d6,.d d7,.d d8,.d d9,.d d10,.d d11]),(20,.row 5 1 (bw (l++zav (ts.take j))))] h ?_;clear h;intro a w h
   refine rn zae 30 [(1,.gen _ _ _ fun _ _ _ _=>Op.nilP (d:=13) (t:=12) (n:=7) (o:=0)),(4,.call (WrStr [d0,d1,d2,d3,d4,d5,d6,d7,d8,d9,d10,d11] rfl 20 30 (by decide) (by decide) (by decide) (l++zav (ts.take j)) x1 (by (try rw [List.length_append]);omega)) pi1_1)] [(0,vp 7 0),(6,q1 ts),(7,vi .i64 (ts.length:Int)),(8,vi .i64 (j:Int))] [(7,.bld 77 (.own 30 ((l++zav (ts.take j))++x1.data.toList).length) [.d d0,.d d1,.d d2,.d d3,.d d4,.d d5,.d d6,.d d7,.d d8,.d d9,.d d10,.d d11]),(30,.row 5 1 (bw ((l++zav (ts.take j))++x1.data.toList)))] h ?_;clear h;intro a w h
   refine zai (za4 (rn zae 31 [(0,.add .i64 (m:=(j:Int)) (n:=1) (zaj (by omega) (by omega)))] [(0,vp 7 0),(6,q1 ts),(7,vi .i64 (ts.length:Int)),(8,vi .i64 ((j:Int)+1))] [(7,.bld 77 (.own 30 ((l++zav (ts.take j))++x1.data.toList).length) [.d d0,.d d1,.d d2,.d d3,.d d4,.d d5,.d d6,.d d7,.d d8,.d d9,.d d10,.d d11]),(30,.row 5 1 (bw ((l++zav (ts.take j))++x1.data.toList)))] h ?_));clear h;intro a w h
   refine za4 ?_
   replace h:=renS 30 20 [(0,vp 7 0),(6,q1 ts),(7,vi .i64 (ts.length:Int)),(8,vi .i64 ((j:Int)+1))] [(7,.bld 77 (.own 20 ((l++zav (ts.take j))++x1.data.toList).length) [.d d0,.d d1,.d d2,.d d3,.d d4,.d d5,.d d6,.d d7,.d d8,.d d9,.d d10,.d d11]),(20,.row 5 1 (bw ((l++zav (ts.take j))++x1.data.toList)))] h
   replace h:=h.conv (f':=F.of [(0,vp 7 0),(6,q1 ts),(7,vi .i64 (ts.length:Int)),(8,vi .i64 ((j:Int)+1))] [(7,.bld 77 (.own 20 (l++zav (ts.take (j+1))).length) [.d d0,.d d1,.d d2,.d d3,.d d4,.d d5,.d d6,.d d7,.d d8,.d d9,.d d10,.d d11]),(20,.row 5 1 (bw (l++zav (ts.take (j+1)))))]) (congrArg (fun (z_:List UInt8)=>F.of [(0,vp 7 0),(6,q1 ts),(7,vi .i64 (ts.length:Int)),(8,vi .i64 ((j:Int)+1))] [(7,.bld 77 (.own 20 z_.length) [.d d0,.d d1,.d d2,.d d3,.d d4,.d d5,.d d6,.d d7,.d d8,.d d9,.d d10,.d d11]),(20,.row 5 1 (bw z_))]) (show (((l++zav (ts.take j))++x1.data.toList):List UInt8)=(l++zav (ts.take (j+1))) from (by rw [List.append_assoc,catW_snoc hx1])))
   refine zas (x:=j) (y:=j+1) h ?_ ?_
   ·have:=zao hx1
    show j+1≤ts.length
    omega
   ·show ts.length - (j+1)<ts.length - j
    have:=zao hx1;omega
  ·have hc2:=hc;clear hc
   have hc2':=of_decide_eq_false hc2
   refine wp_exit (zar (zar (zag (za4 ?_))))
   replace h:=h.conv (f':=F.of [(0,vp 7 0),(6,q1 ts),(7,vi .i64 (ts.length:Int)),(8,vi .i64 (j:Int)),(9,vb (decide ((j:Int)<(ts.length:Int))))] [(7,.bld 77 (.own 20 (l++zav ts).length) [.d d0,.d d1,.d d2,.d d3,.d d4,.d d5,.d d6,.d d7,.d d8,.d d9,.d d10,.d d11]),(20,.row 5 1 (bw (l++zav ts)))]) (congrArg (fun (z_:List UInt8)=>F.of [(0,vp 7 0),(6,q1 ts),(7,vi .i64 (ts.length:Int)),(8,vi .i64 (j:Int)),(9,vb (decide ((j:Int)<(ts.length:Int))))] [(7,.bld 77 (.own 20 z_.length) [.d d0,.d d1,.d d2,.d d3,.d d4,.d d5,.d d6,.d d7,.d d8,.d d9,.d d10,.d d11]),(20,.row 5 1 (bw z_))]) (show ((l++zav (ts.take j)):List UInt8)=(l++zav ts) from (by rw [List.take_of_length_le (by have:=of_decide_eq_false hc2;omega)])))
   refine rn zae 31 [(1,.gen _ _ _ fun _ _ _ _=>Op.nilP (d:=19) (t:=18) (n:=7) (o:=0)),(3,.call (WrByte [d0,d1,d2,d3,d4,d5,d6,d7,d8,d9,d10,d11] rfl 20 31 (by decide) (by decide) (by decide) (l++zav ts) 10 (by (try rw [List.length_append]);omega)) pi1_2)] [] [(7,.bld 77 (.own 31 ((l++zav ts)++[10]).length) [.d d0,.d d1,.d d2,.d d3,.d d4,.d d5,.d d6,.d d7,.d d8,.d d9,.d d10,.d d11]),(31,.row 5 1 (bw ((l++zav ts)++[10])))] h ?_;clear h;intro a w h
   replace h:=renS 31 9 [] [(7,.bld 77 (.own 9 ((l++zav ts)++[10]).length) [.d d0,.d d1,.d d2,.d d3,.d d4,.d d5,.d d6,.d d7,.d d8,.d d9,.d d10,.d d11]),(9,.row 5 1 (bw ((l++zav ts)++[10])))] h
   replace h:=h.conv (f':=F.of [] [(7,.bld 77 (.own 9 (l++za9 ts).length) [.d d0,.d d1,.d d2,.d d3,.d d4,.d d5,.d d6,.d d7,.d d8,.d d9,.d d10,.d d11]),(9,.row 5 1 (bw (l++za9 ts)))]) (congrArg (fun (z_:List UInt8)=>F.of [] [(7,.bld 77 (.own 9 z_.length) [.d d0,.d d1,.d d2,.d d3,.d d4,.d d5,.d d6,.d d7,.d d8,.d d9,.d d10,.d d11]),(9,.row 5 1 (bw z_))]) (show (((l++zav ts)++[10]):List UInt8)=(l++za9 ts) from (by unfold za9;rw [List.append_assoc])))
   refine zaz [] h Exit.normal (.inr rfl)  rfl trivial ?_
   rfl
abbrev q2 (ts:List ByteArray):V:=.t (.c (.d (.sl 1 (ts.map za3))))
set_option maxHeartbeats 4000000 in
theorem WLineB (d0 d1 d2 d3 d4 d5 d6 d7 d8 d9 d10 d11:D) (l:List UInt8) (ts:List ByteArray) (hl:l.length+(za9 ts).length≤4294967296) (ht:ts.length≤1000000):Fn Tryd.prog 19 [(7,.bld 77 (.own 9 l.length) [.d d0,.d d1,.d d2,.d d3,.d d4,.d d5,.d d6,.d d7,.d d8,.d d9,.d d10,.d d11]),(9,.row 5 1 (bw l))] [vp 7 0,.t (.c (.d (.sl 1 (ts.map za3))))] (.tup []) [(7,.bld 77 (.own 10 (l++za9 ts).length) [.d d0,.d d1,.d d2,.d d3,.d d4,.d d5,.d d6,.d d7,.d d8,.d d9,.d d10,.d d11]),(10,.row 5 1 (bw (l++za9 ts)))]:=by
 have lln:=zba ts
 refine Fn.body Tryd.func19 rfl 22 rfl fun w H B a h=>?_
 refine wp_seq (rq zae 30 [(1,.len (c:=(.d (.sl 1 (ts.map za3)))) (n:=ts.length) (za8 _ _ _))] [(0,vp 7 0),(6,q2 ts),(7,vi .i64 (ts.length:Int)),(8,vi .i64 0)] [(7,.bld 77 (.own 9 l.length) [.d d0,.d d1,.d d2,.d d3,.d d4,.d d5,.d d6,.d d7,.d d8,.d d9,.d d10,.d d11]),(9,.row 5 1 (bw l))] h ?_);clear h;intro a w h
 refine wp_block ?_
 replace h:=renS 9 20 [(0,vp 7 0),(6,q2 ts),(7,vi .i64 (ts.length:Int)),(8,vi .i64 0)] [(7,.bld 77 (.own 20 l.length) [.d d0,.d d1,.d d2,.d d3,.d d4,.d d5,.d d6,.d d7,.d d8,.d d9,.d d10,.d d11]),(20,.row 5 1 (bw l))] h
 replace h:=h.conv (f':=F.of [(0,vp 7 0),(6,q2 ts),(7,vi .i64 (ts.length:Int)),(8,vi .i64 0)] [(7,.bld 77 (.own 20 (l++zav (ts.take 0)).length) [.d d0,.d d1,.d d2,.d d3,.d d4,.d d5,.d d6,.d d7,.d d8,.d d9,.d d10,.d d11]),(20,.row 5 1 (bw (l++zav (ts.take 0))))]) (congrArg (fun (z_:List UInt8)=>F.of [(0,vp 7 0),(6,q2 ts),(7,vi .i64 (ts.length:Int)),(8,vi .i64 0)] [(7,.bld 77 (.own 20 z_.length) [.d d0,.d d1,.d d2,.d d3,.d d4,.d d5,.d d6,.d d7,.d d8,.d d9,.d d10,.d d11]),(20,.row 5 1 (bw z_))]) (show (l:List UInt8)=(l++zav (ts.take 0)) from (by simp [zav])))
 refine zci (ι:=(Nat)) (fun (z_:(Nat))=>match z_ with | j=>j≤ts.length)
   (fun (z_:(Nat))=>match z_ with | j=>[(0,vp 7 0),(6,q2 ts),(7,vi .i64 (ts.length:Int)),(8,vi .i64 (j:Int))])
   (fun (z_:(Nat))=>match z_ with | j=>[(7,.bld 77 (.own 20 (l++zav (ts.take j)).length) [.d d0,.d d1,.d d2,.d d3,.d d4,.d d5,.d d6,.d d7,.d d8,.d d9,.d d10,.d d11]),(20,.row 5 1 (bw (l++zav (ts.take j))))])
   (fun (z_:(Nat))=>match z_ with | j=>ts.length - j) 0 ?_ h (by kernel_rfl) (by kernel_rfl) ?_
 ·exact Nat.zero_le _
 ·clear h;rintro j a w hI h
  change St _ (F.of [(0,vp 7 0),(6,q2 ts),(7,vi .i64 (ts.length:Int)),(8,vi .i64 (j:Int))] [(7,.bld 77 (.own 20 (l++zav (ts.take j)).length) [.d d0,.d d1,.d d2,.d d3,.d d4,.d d5,.d d6,.d d7,.d d8,.d d9,.d d10,.d d11]),(20,.row 5 1 (bw (l++zav (ts.take j))))]) a w at h
  refine rq zae 30 [] [(0,vp 7 0),(6,q2 ts),(7,vi .i64 (ts.length:Int)),(8,vi .i64 (j:Int)),(9,vb (decide ((j:Int)<(ts.length:Int))))] [(7,.bld 77 (.own 20 (l++zav (ts.take j)).length) [.d d0,.d d1,.d d2,.d d3,.d d4,.d d5,.d d6,.d d7,.d d8,.d d9,.d d10,.d d11]),(20,.row 5 1 (bw (l++zav (ts.take j))))] h ?_;clear h;intro a w h
  refine wp_seq ?_
  refine zac (decide ((j:Int)<(ts.length:Int))) h rfl (fun hc=>?_) (fun hc=>?_)
  ·have hc1:=hc;clear hc
   have hc1':=of_decide_eq_true hc1
   refine wp_skip (za4 (wp_seq (wp_block ?_)))
   obtain ⟨x1,hx1⟩:∃ z_:ByteArray,ts[j]?=some z_:=⟨_,List.getElem?_eq_getElem (by first | omega | (simp at *;omega))⟩
   have lcx1:=catW_le hx1
   refine rq zae 30 [(0,.gen _ _ _ fun _ _ _ _=>Op.idxD (d:=10) (t:=6) (k:=.i64) pa1_4 (zam hx1 (f:=za3)) (OV.tmp 8 _))] [(0,vp 7 0),(5,.t (.c (.d (.raw (.string x1))))),(6,q2 ts),(7,vi .i64 (ts.length:Int)),(8,vi .i64 (j:Int))] [(7,.bld 77 (.own 20 (l++zav (ts.take j)).length) [.d d0,.d d1,.d d2,.d d3,.d d4,.d d5,.d d6,.d d7,.d d8,.d d9,.d d10,.d d11]),(20,.row 5 1 (bw (l++zav (ts.take j))))] h ?_;clear h;intro a w h
   refine rn zae 30 [(1,.gen _ _ _ fun _ _ _ _=>Op.nilP (d:=13) (t:=12) (n:=7) (o:=0)),(4,.call (WrStr [d0,d1,d2,d3,d4,d5,d6,d7,d8,d9,d10,d11] rfl 20 30 (by decide) (by decide) (by decide) (l++zav (ts.take j)) x1 (by (try rw [List.length_append]);omega)) pi1_1)] [(0,vp 7 0),(6,q2 ts),(7,vi .i64 (ts.length:Int)),(8,vi .i64 (j:Int))] [(7,.bld 77 (.own 30 ((l++zav (ts.take j))++x1.data.toList).length) [.d d0,.d d1,.d d2,.d d3,.d d4,.d d5,.d d6,.d d7,.d d8,.d d9,.d d10,.d d11]),(30,.row 5 1 (bw ((l++zav (ts.take j))++x1.data.toList)))] h ?_;clear h;intro a w h
   refine zai (za4 (rn zae 31 [(0,.add .i64 (m:=(j:Int)) (n:=1) (zaj (by omega) (by omega)))] [(0,vp 7 0),(6,q2 ts),(7,vi .i64 (ts.length:Int)),(8,vi .i64 ((j:Int)+1))] [(7,.bld 77 (.own 30 ((l++zav (ts.take j))++x1.data.toList).length) [.d d0,.d d1,.d d2,.d d3,.d d4,.d d5,.d d6,.d d7,.d d8,.d d9,.d d10,.d d11]),(30,.row 5 1 (bw ((l++zav (ts.take j))++x1.data.toList)))] h ?_));clear h;intro a w h
   refine za4 ?_
   replace h:=renS 30 20 [(0,vp 7 0),(6,q2 ts),(7,vi .i64 (ts.length:Int)),(8,vi .i64 ((j:Int)+1))] [(7,.bld 77 (.own 20 ((l++zav (ts.take j))++x1.data.toList).length) [.d d0,.d d1,.d d2,.d d3,.d d4,.d d5,.d d6,.d d7,.d d8,.d d9,.d d10,.d d11]),(20,.row 5 1 (bw ((l++zav (ts.take j))++x1.data.toList)))] h
   replace h:=h.conv (f':=F.of [(0,vp 7 0),(6,q2 ts),(7,vi .i64 (ts.length:Int)),(8,vi .i64 ((j:Int)+1))] [(7,.bld 77 (.own 20 (l++zav (ts.take (j+1))).length) [.d d0,.d d1,.d d2,.d d3,.d d4,.d d5,.d d6,.d d7,.d d8,.d d9,.d d10,.d d11]),(20,.row 5 1 (bw (l++zav (ts.take (j+1)))))]) (congrArg (fun (z_:List UInt8)=>F.of [(0,vp 7 0),(6,q2 ts),(7,vi .i64 (ts.length:Int)),(8,vi .i64 ((j:Int)+1))] [(7,.bld 77 (.own 20 z_.length) [.d d0,.d d1,.d d2,.d d3,.d d4,.d d5,.d d6,.d d7,.d d8,.d d9,.d d10,.d d11]),(20,.row 5 1 (bw z_))]) (show (((l++zav (ts.take j))++x1.data.toList):List UInt8)=(l++zav (ts.take (j+1))) from (by rw [List.append_assoc,catW_snoc hx1])))
   refine zas (x:=j) (y:=j+1) h ?_ ?_
   ·have:=zao hx1
    show j+1≤ts.length
    omega
   ·show ts.length - (j+1)<ts.length - j
    have:=zao hx1;omega
  ·have hc2:=hc;clear hc
   have hc2':=of_decide_eq_false hc2
   refine wp_exit (zar (zar (zag (za4 ?_))))
   replace h:=h.conv (f':=F.of [(0,vp 7 0),(6,q2 ts),(7,vi .i64 (ts.length:Int)),(8,vi .i64 (j:Int)),(9,vb (decide ((j:Int)<(ts.length:Int))))] [(7,.bld 77 (.own 20 (l++zav ts).length) [.d d0,.d d1,.d d2,.d d3,.d d4,.d d5,.d d6,.d d7,.d d8,.d d9,.d d10,.d d11]),(20,.row 5 1 (bw (l++zav ts)))]) (congrArg (fun (z_:List UInt8)=>F.of [(0,vp 7 0),(6,q2 ts),(7,vi .i64 (ts.length:Int)),(8,vi .i64 (j:Int)),(9,vb (decide ((j:Int)<(ts.length:Int))))] [(7,.bld 77 (.own 20 z_.length) [.d d0,.d d1,.d d2,.d d3,.d d4,.d d5,.d d6,.d d7,.d d8,.d d9,.d d10,.d d11]),(20,.row 5 1 (bw z_))]) (show ((l++zav (ts.take j)):List UInt8)=(l++zav ts) from (by rw [List.take_of_length_le (by have:=of_decide_eq_false hc2;omega)])))
   refine rn zae 31 [(1,.gen _ _ _ fun _ _ _ _=>Op.nilP (d:=19) (t:=18) (n:=7) (o:=0)),(3,.call (WrByte [d0,d1,d2,d3,d4,d5,d6,d7,d8,d9,d10,d11] rfl 20 31 (by decide) (by decide) (by decide) (l++zav ts) 10 (by (try rw [List.length_append]);omega)) pi1_2)] [] [(7,.bld 77 (.own 31 ((l++zav ts)++[10]).length) [.d d0,.d d1,.d d2,.d d3,.d d4,.d d5,.d d6,.d d7,.d d8,.d d9,.d d10,.d d11]),(31,.row 5 1 (bw ((l++zav ts)++[10])))] h ?_;clear h;intro a w h
   replace h:=renS 31 10 [] [(7,.bld 77 (.own 10 ((l++zav ts)++[10]).length) [.d d0,.d d1,.d d2,.d d3,.d d4,.d d5,.d d6,.d d7,.d d8,.d d9,.d d10,.d d11]),(10,.row 5 1 (bw ((l++zav ts)++[10])))] h
   replace h:=h.conv (f':=F.of [] [(7,.bld 77 (.own 10 (l++za9 ts).length) [.d d0,.d d1,.d d2,.d d3,.d d4,.d d5,.d d6,.d d7,.d d8,.d d9,.d d10,.d d11]),(10,.row 5 1 (bw (l++za9 ts)))]) (congrArg (fun (z_:List UInt8)=>F.of [] [(7,.bld 77 (.own 10 z_.length) [.d d0,.d d1,.d d2,.d d3,.d d4,.d d5,.d d6,.d d7,.d d8,.d d9,.d d10,.d d11]),(10,.row 5 1 (bw z_))]) (show (((l++zav ts)++[10]):List UInt8)=(l++za9 ts) from (by unfold za9;rw [List.append_assoc])))
   refine zaz [] h Exit.normal (.inr rfl)  rfl trivial ?_
   rfl
structure SwOk (iy iy' ix:I) (n:Nat) (A':L):Prop where
  wl:iy.wl=[]
  wl':iy'.wl=[]
  nw':iy'.nw=[]
  ws:iy.ws=iy'.ws
  rs:iy.rs=iy'.rs
  rl':iy'.rl=[(n,A')]
  xw:ix.wl.lookup n=some (some A')
  a1:∀ t ∈ ix.ws.map (·.1),t ∉ iy.ws.map (·.1)
  a2:∀ t ∈ ix.rs.map (·.1),t ∉ iy.ws.map (·.1)
  a3:∀ t ∈ iy.rs.map (·.1),t ∉ ix.ws.map (·.1)
def swpB (iy iy' ix:I):Bool:=iy.wl.isEmpty && (iy'.wl.isEmpty && (iy'.nw.isEmpty && (zc0 (ix.ws.map (·.1)) (iy.ws.map (·.1)) && (zc0 (ix.rs.map (·.1)) (iy.ws.map (·.1)) && zc0 (iy.rs.map (·.1)) (ix.ws.map (·.1))))))
theorem SwOk.of {iy iy' ix:I} {n:Nat} {A':L} (h:swpB iy iy' ix=true) (h1:iy.ws=iy'.ws) (h2:iy.rs=iy'.rs) (h3:ix.wl.lookup n=some (some A')) (h4:iy'.rl=[(n,A')]):SwOk iy iy' ix n A':=by
 simp only [swpB,Bool.and_eq_true] at h
 obtain ⟨b1,b2,b3,b4,b5,b6⟩:=h
 exact ⟨by simpa using b1,by simpa using b2,by simpa using b3,h1,h2,h4,h3,fun t ht=>zau b4 ht,fun t ht=>zau b5 ht,fun t ht=>zau b6 ht⟩
theorem SwOk.swap {iy iy' ix:I} {n:Nat} {A':L} (h:SwOk iy iy' ix n A') {f:F} (hy:zd1 f iy) (hx:zd1 (f.app iy) ix):zd1 f ix∧zd1 (f.app ix) iy'∧(f.app iy).app ix=(f.app ix).app iy':=by
 have hl:∀ m,(f.app iy).l m=f.l m:=app0_l f iy h.wl
 refine ⟨⟨fun p hp=>?_,fun p hp=>?_⟩,⟨fun p hp=>?_,fun p hp=>?_⟩,?_⟩
 ·rw [← hx.1 p hp,zcx (h.a2 _ (List.mem_map.2 ⟨p,hp,rfl⟩))]
 ·rw [← hx.2 p hp,hl]
 ·rw [← h.rs] at hp
  rw [zcx (h.a3 _ (List.mem_map.2 ⟨p,hp,rfl⟩))];exact hy.1 p hp
 ·rw [h.rl'] at hp
  rw [List.mem_singleton.1 hp]
  simp only [F.app,h.xw]
 ·simp only [F.app,F.mk.injEq]
  constructor
  ·funext t
   rw [← h.ws]
   by_cases ht:t ∈ iy.ws.map (·.1)
   ·have:t ∉ ix.ws.map (·.1):=fun hx=>h.a1 t hx ht
    rw [zb8 this]
   ·rw [zb8 ht]
  ·funext m
   rw [h.wl,h.wl']
   rfl
theorem zcl.congr {is is':List I} {g:F}:∀ (l:List Nat) (f:F),(∀ j ∈ l,at_ is' j=at_ is j)→zcl is f l g→zcl is' f l g
 | [],_,_,h=>h
 | k :: l,f,hc,h=>by
  have e:=hc k (by simp)
  refine ⟨by rw [e];exact h.1,?_⟩
  rw [e]
  exact zcl.congr l _ (fun j hj=>hc j (by simp [hj])) h.2
theorem zcl.sw {is is':List I} {g:F} {x y n:Nat} {A':L} {l2:List Nat} (hsw:SwOk (at_ is y) (at_ is' y) (at_ is x) n A'):∀ (l1:List Nat) (f:F),zcl is f (l1++x :: l2) g→y ∈ l1→l1.Nodup →
  (∀ j ∈ l1,j≠y→Disj (at_ is j) (at_ is x))→(∀ j,j≠y→at_ is' j=at_ is j)→y ∉ l2→zd1 f (at_ is x)∧zcl is' (f.app (at_ is x)) (l1++l2) g
 | [],_,_,hy,_,_,_,_=>by cases hy
 | j :: l1,f,h,hy,hnd,hd,hc,h2=>by
  obtain ⟨h1,h3⟩:=h
  obtain ⟨hn1,hn2⟩:=List.nodup_cons.1 hnd
  by_cases hjy:j=y
  ·subst hjy
   obtain ⟨h4,h5⟩:=zcl.first l1 _ h3 fun k hk=>hd k (by simp [hk]) fun e=>hn1 (e ▸ hk)
   obtain ⟨g1,g2,g3⟩:=hsw.swap h1 h4
   refine ⟨g1,g2,?_⟩
   rw [← g3]
   refine zcl.congr _ _ (fun k hk=>hc k fun e=>?_) h5
   subst e
   rcases List.mem_append.1 hk with hk | hk
   ·exact hn1 hk
   ·exact h2 hk
  ·have hyl:y ∈ l1:=by
    rcases List.mem_cons.1 hy with e | e
    ·exact absurd e.symm hjy
    ·exact e
   obtain ⟨h4,h5⟩:=zcl.sw hsw l1 _ h3 hyl hn2 (fun k hk=>hd k (by simp [hk])) hc h2
   have hj:=hd j (by simp) hjy
   refine ⟨hj.reads.1 h4,?_,?_⟩
   ·rw [hc j hjy];exact hj.symm.reads.2 h1
   ·rw [hc j hjy,← hj.comm];exact h5
def pairsX (x y:Nat) (ops:List Oper) (is:List I):Bool :=
  let ms:=zd6 ops
  (List.range ops.length).all fun k =>
    ((pre (ops.getD k default)).all fun p=>Nat.blt p k) &&
    (List.range k).all fun j=>ment (at_ is j) (at_ is k) && ((Nat.beq k x && Nat.beq j y) || (ms.getD k 0).testBit j || (disj (at_ is j) (at_ is k) && ment (at_ is k) (at_ is j)))
theorem zbf {x y:Nat} {ops:List Oper} {is:List I} (h:pairsX x y ops is=true) {k:Nat} (hk:k<ops.length) :
  (∀ p ∈ pre (ops.getD k default),p<k)∧∀ j,j<k→ment (at_ is j) (at_ is k)=true∧((k=x∧j=y)∨((zd6 ops).getD k 0).testBit j=true∨(Disj (at_ is j) (at_ is k)∧ment (at_ is k) (at_ is j)=true)):=by
 have h1:=List.all_eq_true.1 h k (List.mem_range.2 hk)
 rw [Bool.and_eq_true] at h1
 refine ⟨fun p hp=>by have:=List.all_eq_true.1 h1.1 p hp;simpa [Nat.blt_eq] using this,fun j hj=>?_⟩
 have h2:=List.all_eq_true.1 h1.2 j (List.mem_range.2 hj)
 rw [Bool.and_eq_true] at h2
 refine ⟨h2.1,?_⟩
 have h3:=h2.2
 simp only [Bool.or_eq_true,Bool.and_eq_true] at h3
 rcases h3 with (h3 | h3) | h3
 ·exact .inl ⟨Nat.eq_of_beq_eq_true h3.1,Nat.eq_of_beq_eq_true h3.2⟩
 ·exact .inr (.inl h3)
 ·exact .inr (.inr ⟨disj_spec h3.1,h3.2⟩)
section
variable {P:Program} {ops:Array Oper} {e:E} {g:F} {Q:Exit→Act→World→Prop}
theorem ready_least {is:List I} {x y:Nat} (hpo:pairsX x y ops.toList is=true) {listed:Array Bool} (hsz:listed.size=ops.size) {k:Nat} (hk:left listed ops.size=k :: (left listed ops.size).tail):k ∈ Region.ready .any ops listed:=by
  obtain ⟨h1,h2⟩:=zb6.1 (show k ∈ left listed ops.size by rw [hk];simp)
  rw [mem_ready]
  refine ⟨h2,ops[k],Array.getElem?_eq_getElem h1,fun ed he hbd=>?_⟩
  have hlt:ed.on<k:=by
    have hop:ops.toList.getD k default=ops[k]:=by simp [h1]
    have:=(zbf hpo (k:=k) (by simpa using h1)).1 ed.on (by
      rw [hop]
      exact List.mem_map.2 ⟨ed,List.mem_filter.2 ⟨by simpa using he,hbd⟩,rfl⟩)
    exact this
  rcases hx:listed.getD ed.on false with _ | _
  · exfalso
    have hlt2:ed.on<listed.size:=by omega
    have hx2:listed.getD ed.on true=false:=by
      rw [Array.getD_eq_getD_getElem?, Array.getElem?_eq_getElem hlt2] at hx ⊢
      exact hx
    have hm:ed.on ∈ left listed ops.size:=zb6.2 ⟨by omega,hx2⟩
    have hs:(left listed ops.size).Pairwise (·<·):=List.Pairwise.filter _ (List.pairwise_lt_range)
    rw [hk] at hm hs
    rcases List.mem_cons.1 hm with h3 | h3
    · omega
    · have:=(List.pairwise_cons.1 hs).1 _ h3;omega
  · rfl
theorem not_ahead {listed:Array Bool} (hsz:listed.size=ops.size) (hcl:∀ k o,ops[k]?=some o→listed.getD k true=true→∀ p ∈ pre o,listed.getD p false=true) {k:Nat} {o:Oper} (ho:ops[k]?=some o) (hall:∀ ed ∈ o.after,Region.binds .any ed=true→listed.getD ed.on false=true) :
  (∀ p ∈ pre o,listed.getD p false=true)∧∀ j,j<ops.size→listed.getD j true=false→((zd6 ops.toList).getD k 0).testBit j≠true:=by
 have hks:=(Array.getElem?_eq_some_iff.1 ho).1
 have hanc:∀ m,∀ x,x<ops.size→x<m→(∀ o,ops[x]?=some o→∀ p ∈ pre o,listed.getD p false=true)→∀ j,((zd6 ops.toList).getD x 0).testBit j=true→listed.getD j false=true:=by
  intro m
  induction m with
  | zero=>intro x _ hx;omega
  | succ m ihm =>
   intro x hxs hx hpre j hj
   have hxl:x<(zd6 ops.toList).length:=by unfold zd6;rw [zbb];simpa using hxs
   obtain ⟨o', ho', p,hp,h2⟩:=masks_ok ops.toList x hxl j hj
   have ho2:ops[x]?=some o':=by simpa using ho'
   have hpl:=hpre o' ho2 p hp
   rcases h2 with rfl | ⟨h3,h4⟩
   ·exact hpl
   ·refine ihm p (by omega) (by omega) (fun o3 ho3 q hq=>hcl p o3 ho3 ?_ q hq) j h4
    have:p<listed.size:=by omega
    rw [Array.getD_eq_getD_getElem?, Array.getElem?_eq_getElem this] at hpl ⊢
    exact hpl
 have hpk:∀ p ∈ pre o,listed.getD p false=true:=by
  intro p hp
  obtain ⟨ed,he,rfl⟩:=List.mem_map.1 hp
  rw [List.mem_filter] at he
  exact hall ed (by simpa using he.1) he.2
 refine ⟨hpk,fun j hj hl ht=>?_⟩
 have:=hanc (k+1) k hks (by omega) (fun o' ho'=>by rw [ho] at ho';injection ho' with ho';subst ho';exact hpk) j ht
 have hjs:j<listed.size:=by omega
 rw [Array.getD_eq_getD_getElem?, Array.getElem?_eq_getElem hjs] at this hl
 simp at this hl
 rw [hl] at this
 cases this
theorem zch {listed:Array Bool} (hcl:∀ k o,ops[k]?=some o→listed.getD k true=true→∀ p ∈ pre o,listed.getD p false=true) {k:Nat} {o:Oper} (ho:ops[k]?=some o) (hpk:∀ p ∈ pre o,listed.getD p false=true) :
  ∀ x ox,ops[x]?=some ox→(listed.setIfInBounds k true).getD x true=true→∀ p ∈ pre ox,(listed.setIfInBounds k true).getD p false=true:=by
 intro x ox hox hxl p hp
 by_cases hxk:k=x
 ·subst hxk
  rw [ho] at hox;injection hox with hox;subst hox
  exact getD_set_true (hpk p hp)
 ·rw [getD_set_ne true hxk] at hxl
  exact getD_set_true (hcl x ox hox hxl p hp)
theorem getD_ff {l:Array Bool} {k:Nat} (h:l.getD k true=false):l.getD k false=false:=by
 rw [Array.getD_eq_getD_getElem?] at h ⊢
 cases hk:l[k]? with
 | none=>rw [hk] at h;cases h
 | some b=>rw [hk] at h;simpa using h
theorem wpAny_runX {is:List I} {x y:Nat} (hdo:∀ k o,ops[k]?=some o→Does P ops o (at_ is k)) (hb:∀ k,FitsE e (at_ is k)) (hQ:∀ a w,St e g a w→Q .normal a w) (hpo:pairsX x y ops.toList is=true) :
  ∀ (fuel:Nat) (listed:Array Bool) (f:F) (a:Act) (w:World),listed.size=ops.size→(∀ k o,ops[k]?=some o→listed.getD k true=true→∀ p ∈ pre o,listed.getD p false=true)→(left listed ops.size).length≤fuel →
   (listed.getD x false=true∨listed.getD y false=true) →
   (∀ k ∈ left listed ops.size,∀ n ∈ (at_ is k).nw,New e.K f n)→zcl is f (left listed ops.size) g→St e f a w→wpAny P .any ops Q fuel listed a w:=by
 intro fuel
 induction fuel with
 | zero =>
  intro listed f a w hsz hcl hle hxy hn hr h
  have h0:left listed ops.size=[]:=List.length_eq_zero_iff.1 (by omega)
  rw [h0] at hr
  refine ⟨?_,hQ a w (h.weaken hr)⟩
  refine List.eq_nil_iff_forall_not_mem.2 fun k hk=>?_
  obtain ⟨h1,o,ho,_⟩:=mem_ready.1 hk
  have:k ∈ left listed ops.size:=zb6.2 ⟨(Array.getElem?_eq_some_iff.1 ho).1,h1⟩
  rw [h0] at this
  cases this
 | succ fuel ih =>
  intro listed f a w hsz hcl hle hxy hn hr h
  refine ⟨fun h0=>?_,fun k hk=>?_⟩
  ·cases hl:left listed ops.size with
   | nil=>rw [hl] at hr;exact hQ a w (h.weaken hr)
   | cons k l =>
    have:=ready_least hpo hsz (k:=k) (by rw [hl];rfl)
    rw [h0] at this
    cases this
  ·obtain ⟨h1,o,ho,hall⟩:=mem_ready.1 hk
   have hks:=(Array.getElem?_eq_some_iff.1 ho).1
   obtain ⟨l1,l2,e1,e2,e3,e4⟩:=zd8 hks h1
   obtain ⟨hpk,hnot⟩:=not_ahead hsz hcl ho hall
   have hd1:∀ j ∈ l1,Disj (at_ is j) (at_ is k)∧ment (at_ is k) (at_ is j)=true:=by
    intro j hj
    obtain ⟨hjk,hjl⟩:=e3 j hj
    rcases ((zbf hpo (k:=k) (by simpa using hks)).2 j hjk).2 with ⟨rfl,rfl⟩ | h5
    ·rcases hxy with h6 | h6
     ·rw [getD_ff h1] at h6;cases h6
     ·rw [getD_ff hjl] at h6;cases h6
    ·exact h5.resolve_left (hnot j (by omega) hjl)
   rw [e1] at hr
   obtain ⟨hr1,hr2⟩:=zcl.first l1 f hr (fun j hj=>(hd1 j hj).1)
   have hkn:∀ n ∈ (at_ is k).nw,New e.K f n:=hn k (by rw [e1];simp)
   refine wpOp_mono (fun a' w' h'=>?_) (Does.wpOp ho (hdo k o ho) h hr1 hkn (hb k))
   refine ih (listed.setIfInBounds k true) (f.app (at_ is k)) a' w' (by simpa using hsz) (zch hcl ho hpk) ?_ ?_ ?_ ?_ h'
   ·rw [e2];rw [e1] at hle;simp at hle ⊢;omega
   ·exact hxy.imp (fun h=>getD_set_true h) fun h=>getD_set_true h
   ·intro z hz n hnz
    rw [e2] at hz
    have hzn:New e.K f n:=hn z (by rw [e1];rcases List.mem_append.1 hz with h3 | h3 <;> simp [h3]) n hnz
    refine hzn.app ?_ hnz
    rcases List.mem_append.1 hz with h3 | h3
    ·exact (hd1 z h3).2
    ·obtain ⟨hkz,hzl⟩:=e4 z h3
     have hzs:z<ops.size:=(zb6.1 (by rw [e1];simp [h3])).1
     exact ((zbf hpo (k:=z) (by simpa using hzs)).2 k hkz).1
   ·rw [e2];exact hr2
theorem wpAny_sw {is is':List I} {x y n:Nat} {A':L} (hyx:y<x) (hsw:SwOk (at_ is y) (at_ is' y) (at_ is x) n A') (hsame:∀ j,j≠y→at_ is' j=at_ is j)
  (hdo:∀ k o,ops[k]?=some o→Does P ops o (at_ is k)) (hdo':∀ k o,ops[k]?=some o→Does P ops o (at_ is' k)) (hb:∀ k,FitsE e (at_ is k)) (hb':∀ k,FitsE e (at_ is' k)) (hQ:∀ a w,St e g a w→Q .normal a w) (hpo:pairsX x y ops.toList is=true) (hpo':pairsX x y ops.toList is'=true) :
  ∀ (fuel:Nat) (listed:Array Bool) (f:F) (a:Act) (w:World),listed.size=ops.size→(∀ k o,ops[k]?=some o→listed.getD k true=true→∀ p ∈ pre o,listed.getD p false=true)→(left listed ops.size).length≤fuel →
   y ∈ left listed ops.size→x ∈ left listed ops.size →
   (∀ k ∈ left listed ops.size,∀ n ∈ (at_ is k).nw,New e.K f n)→zcl is f (left listed ops.size) g→St e f a w→wpAny P .any ops Q fuel listed a w:=by
 intro fuel
 induction fuel with
 | zero =>
  intro listed f a w hsz hcl hle hy hx hn hr h
  have h0:left listed ops.size=[]:=List.length_eq_zero_iff.1 (by omega)
  rw [h0] at hy;cases hy
 | succ fuel ih =>
  intro listed f a w hsz hcl hle hy hx hn hr h
  refine ⟨fun h0=>?_,fun k hk=>?_⟩
  ·cases hl:left listed ops.size with
   | nil=>rw [hl] at hr;exact hQ a w (h.weaken hr)
   | cons k l =>
    have:=ready_least hpo hsz (k:=k) (by rw [hl];rfl)
    rw [h0] at this
    cases this
  ·obtain ⟨h1,o,ho,hall⟩:=mem_ready.1 hk
   have hks:=(Array.getElem?_eq_some_iff.1 ho).1
   obtain ⟨l1,l2,e1,e2,e3,e4⟩:=zd8 hks h1
   obtain ⟨hpk,hnot⟩:=not_ahead hsz hcl ho hall
   have hd1:∀ j ∈ l1,¬ (k=x∧j=y)→Disj (at_ is j) (at_ is k)∧ment (at_ is k) (at_ is j)=true:=by
    intro j hj hne
    obtain ⟨hjk,hjl⟩:=e3 j hj
    exact (((zbf hpo (k:=k) (by simpa using hks)).2 j hjk).2.resolve_left hne).resolve_left (hnot j (by omega) hjl)
   have hkn:∀ n ∈ (at_ is k).nw,New e.K f n:=hn k (by rw [e1];simp)
   have hlen:(left (listed.setIfInBounds k true) ops.size).length≤fuel:=by rw [e2];rw [e1] at hle;simp at hle ⊢;omega
   have hset:∀ j,j≠k→j ∈ left listed ops.size→j ∈ left (listed.setIfInBounds k true) ops.size:=by
    intro j hj hjl
    obtain ⟨g1,g2⟩:=zb6.1 hjl
    exact zb6.2 ⟨g1,by rw [getD_set_ne true (Ne.symm hj)];exact g2⟩
   have hnames:∀ z ∈ left (listed.setIfInBounds k true) ops.size,(z≠y∨k≠x)→∀ n ∈ (at_ is z).nw,New e.K (f.app (at_ is k)) n:=by
    intro z hz hne n hnz
    rw [e2] at hz
    have hzn:New e.K f n:=hn z (by rw [e1];rcases List.mem_append.1 hz with h3 | h3 <;> simp [h3]) n hnz
    refine hzn.app ?_ hnz
    rcases List.mem_append.1 hz with h3 | h3
    ·exact (hd1 z h3 fun e=>by rcases hne with h | h;exact h e.2;exact h e.1).2
    ·obtain ⟨hkz,hzl⟩:=e4 z h3
     have hzs:z<ops.size:=(zb6.1 (by rw [e1];simp [h3])).1
     exact ((zbf hpo (k:=z) (by simpa using hzs)).2 k hkz).1
   have hlisted:(listed.setIfInBounds k true).getD k false=true:=by
    have:k<listed.size:=by omega
    simp [this]
   by_cases hkx:k=x
   ·subst hkx
    have hyl1:y ∈ l1:=by
     rw [e1] at hy
     rcases List.mem_append.1 hy with h3 | h3
     ·exact h3
     ·rcases List.mem_cons.1 h3 with h4 | h4
      ·omega
      ·have:=(e4 y h4).1;omega
    have hnd:(left listed ops.size).Nodup:=List.Pairwise.filter _ List.nodup_range
    rw [e1] at hr hnd
    have hyl2:y ∉ l2:=fun h4=>by have:=(e4 y h4).1;omega
    obtain ⟨hr1,hr2⟩:=zcl.sw hsw l1 f hr hyl1 (List.nodup_append.1 hnd).1 (fun j hj hjy=>(hd1 j hj fun e=>hjy e.2).1) hsame hyl2
    refine wpOp_mono (fun a' w' h'=>?_) (Does.wpOp ho (hdo k o ho) h hr1 hkn (hb k))
    refine wpAny_runX hdo' hb' hQ hpo' fuel _ (f.app (at_ is k)) a' w' (by simpa using hsz) (zch hcl ho hpk) hlen (.inl hlisted) ?_ (by rw [e2];exact hr2) h'
    intro z hz n hnz
    by_cases hzy:z=y
    ·subst hzy;rw [hsw.nw'] at hnz;cases hnz
    ·rw [hsame z hzy] at hnz;exact hnames z hz (.inl hzy) n hnz
   ·rw [e1] at hr
    obtain ⟨hr1,hr2⟩:=zcl.first l1 f hr (fun j hj=>(hd1 j hj fun e=>hkx e.1).1)
    refine wpOp_mono (fun a' w' h'=>?_) (Does.wpOp ho (hdo k o ho) h hr1 hkn (hb k))
    by_cases hky:k=y
    ·subst hky
     exact wpAny_runX hdo hb hQ hpo fuel _ (f.app (at_ is k)) a' w' (by simpa using hsz) (zch hcl ho hpk) hlen (.inr hlisted) (fun z hz=>hnames z hz (.inr hkx)) (by rw [e2];exact hr2) h'
    ·exact ih _ (f.app (at_ is k)) a' w' (by simpa using hsz) (zch hcl ho hpk) hlen (hset y (Ne.symm hky) hy) (hset x (Ne.symm hkx) hx) (fun z hz=>hnames z hz (.inr hkx)) (by rw [e2];exact hr2) h'
end
def chkW (x y:Nat) (iy':I) (ops:List Oper) (is:List I) (N:Nat) (K:List Nat) (sl:List (Nat × V)) (lc:List (Nat × L)):Bool :=
  chk false ops is N K sl lc && (pairsX x y ops is && (pairsX x y ops (is.set y iy') && (swpB (at_ is y) iy' (at_ is x) && (Nat.blt y x && (Nat.blt x ops.length && (iy'.ws.all fun p=>Nat.blt p.1 N))))))
theorem at_set (is:List I) (y:Nat) (i:I) (hy:y<is.length) (j:Nat):at_ (is.set y i) j=if j=y then i else at_ is j:=by
 unfold at_
 rw [List.getD_eq_getElem?_getD,List.getD_eq_getElem?_getD,List.getElem?_set]
 by_cases h:y=j
 ·subst h;simp [hy]
 ·rw [if_neg h,if_neg (Ne.symm h)]
section
variable {Q:Exit→Act→World→Prop} {w0:World} {H0:Im} {B0:Bl} {K:List Nat} {N:Nat}
theorem rSW {tb:Tb} (htb:TbOk Tryd.prog tb) {id:Nat} {ops:Array Oper} {a:Act} {w:World} {sl:List (Nat × V)} {lc:List (Nat × L)} (nx:Nat) (cs:List (Nat × Orc Tryd.prog)) (sl':List (Nat × V)) (lc':List (Nat × L))
  (x y n:Nat) (A':L) {dy:Option Nat} {opy:Op} (iy':I) (hy':∀ ty pos af gd,zaw Tryd.prog ⟨dy,opy,ty,pos,af,gd⟩ iy') (hop:(ops[y]?).map (fun o=>(o.dst,o.op,o.guard))=some (dy,opy,none)) (hrl:iy'.rl=[(n,A')]) (hk0:iy'.k0=false)
  (hs:(zbi tb ops (F.of sl lc) nx 0 ops.toList cs).map (fun is=>((at_ is y).ws,(at_ is y).rs,(at_ is x).wl.lookup n))=some (iy'.ws,iy'.rs,some (some A')))
  (hc:((gens ops.toList cs).map (·.1),(zbi tb ops (F.of sl lc) nx 0 ops.toList cs).isSome,(zbi tb ops (F.of sl lc) nx 0 ops.toList cs).map fun is=>Seen.mk (chkW x y iy' ops.toList is N K sl lc) (runS (F.of sl lc) is) (runN (F.of sl lc) is) (leS (runF (F.of sl lc) is) sl') (leN (runF (F.of sl lc) is) lc')) =
   ((gens ops.toList cs).map (·.2),true,(zbi tb ops (F.of sl lc) nx 0 ops.toList cs).map fun is=>Seen.mk true (wantS is) (wantN is) (sl'.map fun p=>some p.2) (lc'.map fun p=>some p.2)))
  (h:St ⟨w0,H0,B0,K,N⟩ (F.of sl lc) a w) (hQ:∀ a w,St ⟨w0,H0,B0,K,N⟩ (F.of sl' lc') a w→Q .normal a w):(Code.region id ops true).wp Tryd.prog Q a w:=by
 simp only [Prod.mk.injEq] at hc
 obtain ⟨hg,hsome,hm⟩:=hc
 cases hi:zbi tb ops (F.of sl lc) nx 0 ops.toList cs with
 | none=>rw [hi] at hsome;cases hsome
 | some is =>
  rw [hi] at hm hs
  simp only [Option.map_some,Option.some.injEq,Seen.mk.injEq] at hm
  simp only [Option.map_some,Option.some.injEq,Prod.mk.injEq] at hs
  obtain ⟨hchk,h1,h2,h3,h4⟩:=hm
  obtain ⟨s1,s2,s3⟩:=hs
  have hdo:=insts_ok htb hg _ _ _ _ _ rfl hi
  simp only [chkW,Bool.and_eq_true] at hchk
  obtain ⟨hck,p1,p2,hsw,hyx,hxl,hws⟩:=hchk
  have hyx:y<x:=by simpa [Nat.blt_eq] using hyx
  have hxl:x<ops.size:=by simpa [Nat.blt_eq] using hxl
  simp only [chk,Bool.and_eq_true] at hck
  obtain ⟨⟨⟨c1,c2'⟩,c3⟩,c4⟩:=hck
  have hlen:ops.toList.length=is.length:=by simpa using hdo.length
  have hyl:y<is.length:=by rw [← hlen,Array.length_toList];omega
  have hat:=at_set is y iy' hyl
  have hmem:∀ k,at_ is k ∈ is∨at_ is k={}:=by
   intro k
   unfold at_
   rw [List.getD_eq_getElem?_getD]
   cases hk:is[k]? with
   | none=>exact .inr rfl
   | some z=>exact .inl (List.mem_of_getElem? hk)
  have hb:∀ k,FitsE ⟨w0,H0,B0,K,N⟩ (at_ is k):=by
   intro k
   refine ⟨fun p hp=>?_,fun h0=>?_⟩
   ·rcases hmem k with hk | hk
    ·have:=List.all_eq_true.1 (List.all_eq_true.1 c2' _ hk) p hp
     simpa [Nat.blt_eq] using this
    ·rw [hk] at hp;cases hp
   ·rcases hmem k with hk | hk
    ·have:=List.all_eq_true.1 c4 _ hk
     rw [h0] at this
     simpa using this
    ·rw [hk] at h0;cases h0
  have hn:∀ k,∀ n ∈ (at_ is k).nw,New K (F.of sl lc) n:=by
   intro k n hn
   rcases hmem k with hk | hk
   ·exact zcs (List.all_eq_true.1 (List.all_eq_true.1 c3 _ hk) n hn)
   ·rw [hk] at hn;cases hn
  have hr:zcl is (F.of sl lc) (List.range ops.size) (F.of sl' lc'):=by
   have:=zcl.of (g:=F.of sl' lc') [] is (F.of sl lc) h1 h2 (le_of h3 h4)
   simp only [List.nil_append,List.length_nil] at this
   rw [List.range_eq_range', ← Array.length_toList,hlen]
   exact this
  have hSw:SwOk (at_ is y) (at_ (is.set y iy') y) (at_ is x) n A':=by
   rw [hat,if_pos rfl]
   exact SwOk.of hsw s1 s2 s3 hrl
  have hleft:left (Array.replicate ops.size false) ops.size=List.range ops.size:=by
   unfold left
   refine List.filter_eq_self.2 fun k hk=>?_
   have:=List.mem_range.1 hk
   simp [Array.getD_eq_getD_getElem?, this]
  refine wp_region_any mixed (wpAny_sw (is:=is) (is':=is.set y iy') hyx hSw (fun j hj=>by rw [hat,if_neg hj]) (fun k o ho=>hdo.get k o (by simpa using ho)) (fun k o ho=>?_) hb (fun k=>?_) hQ p1 p2 _ _ (F.of sl lc) a _ (by simp) ?_ ?_ ?_ ?_ (fun k _=>hn k) ?_ h.drew)
  ·rw [hat]
   split
   ·rename_i hk
    subst hk
    rw [ho] at hop
    simp only [Option.map_some,Option.some.injEq,Prod.mk.injEq] at hop
    obtain ⟨q1,q2,q3⟩:=hop
    obtain ⟨d,op,ty,pos,af,gd⟩:=o
    simp only at q1 q2 q3
    subst q1 q2 q3
    exact .run rfl (hy' _ _ _ _)
   ·exact hdo.get k o (by simpa using ho)
  ·rw [hat]
   split
   ·refine ⟨fun p hp=>?_,fun h0=>?_⟩
    ·have:=List.all_eq_true.1 hws p hp
     simpa [Nat.blt_eq] using this
    ·rw [hk0] at h0;cases h0
   ·exact hb k
  ·intro k o ho hl
   have hks:=(Array.getElem?_eq_some_iff.1 ho).1
   simp [Array.getD_eq_getD_getElem?, hks] at hl
  ·refine Nat.le_trans (List.length_filter_le _ _) (by simp)
  ·rw [hleft];exact List.mem_range.2 (by omega)
  ·rw [hleft];exact List.mem_range.2 hxl
  ·rw [hleft];exact hr
end
theorem kk_3:ElZ Tryd.prog 66 28 2:=ElZ.mk' Tryd.underlying66 _ _ rfl rfl (by kernel_rfl) (by kernel_rfl) (by kernel_rfl) (by decide)
theorem kk_5:Sz Tryd.prog 68 2 true:=Sz.mk' (by kernel_rfl) Tryd.underlying68 _ rfl
def st0:StD:=⟨[],[]⟩
theorem kn_0:SlT Tryd.prog 40 68 2:=SlT.mk' Tryd.underlying40 (by kernel_rfl)
theorem ks_2:zaa Tryd.prog 18:=zaa.mk' (by kernel_rfl)
def zaf (r:zbo) (i:Nat):StD:=((r.stem++r.cycle)[i]?).getD st0
set_option maxHeartbeats 4000000 in
theorem SRAt0 (r:zbo) (i:Nat) (hl:r.stem.length+r.cycle.length≤20) (_hi:i≤1000):Fn Tryd.prog 18 [] [.t (.agg [.d (.sl 2 (r.stem.map StD.d)),.d (.sl 2 (r.cycle.map StD.d)),cIs r.acts]),vi .i64 (i:Int)] (.t (.agg [cIs (zaf r i).locs,cZs (zaf r i).vals])) []:=by
 have lall:(r.stem++r.cycle).length=r.stem.length+r.cycle.length:=List.length_append
 refine Fn.body Tryd.func18 rfl 34 rfl fun w H B a h=>?_
 refine rq za1 0 [] [(1,vi .i64 (i:Int)),(2,vp 0 0),(4,vp 1 0)] [(0,.box [.d (.sl 2 (r.stem.map StD.d)),.d (.sl 2 (r.cycle.map StD.d)),cIs r.acts]),(1,.box [.d (.raw za6),.d (.raw za6)])] h ?_;clear h;intro a w h
 refine wp_seq (rq za1 2 [(3,.len (c:=(.d (.sl 2 (r.stem.map StD.d)))) (n:=r.stem.length) (za8 _ _ _))] [(1,vi .i64 (i:Int)),(2,vp 0 0),(4,vp 1 0),(9,vb (decide ((i:Int)<(r.stem.length:Int))))] [(0,.box [.d (.sl 2 (r.stem.map StD.d)),.d (.sl 2 (r.cycle.map StD.d)),cIs r.acts]),(1,.box [.d (.raw za6),.d (.raw za6)])] h ?_);clear h;intro a w h
 refine zac (decide ((i:Int)<(r.stem.length:Int))) h rfl (fun hc=>?_) (fun hc=>?_)
 ·have hc1:=hc;clear hc
  have hc1':=of_decide_eq_true hc1
  obtain ⟨x1,hx1⟩:∃ z_:StD,r.stem[i]?=some z_:=⟨_,List.getElem?_eq_getElem (by first | omega | (simp at *;omega))⟩
  refine rq za1 2 [(3,.gen _ _ _ fun _ _ _ _=>Op.idxD (d:=13) (t:=11) (k:=.i64) kn_0 (zam hx1 (f:=StD.d)) (OV.tmp 12 _))] [(1,vi .i64 (i:Int)),(2,vp 0 0),(4,vp 1 0)] [(0,.box [.d (.sl 2 (r.stem.map StD.d)),.d (.sl 2 (r.cycle.map StD.d)),cIs r.acts]),(1,.box [cIs x1.locs,cZs x1.vals])] h ?_;clear h;intro a w h
  refine wp_ret (zah ?_)
  refine zaz [.agg [cIs x1.locs,cZs x1.vals]] h Exit.ret (.inl rfl)  rfl ⟨RV.agg _ 1 0 _ _ _ _ kk_5 rfl rfl rfl rfl,trivial⟩ ?_
  have hz:zaf r i=x1:=by unfold zaf;rw [List.getElem?_append_left (by have:=of_decide_eq_true hc1;omega),hx1];rfl
  rw [hz];first | done | rfl
 ·have hc2:=hc;clear hc
  have hc2':=of_decide_eq_false hc2
  refine wp_skip (za4 (wp_seq (rq za1 2 [(3,.len (c:=(.d (.sl 2 (r.stem.map StD.d)))) (n:=r.stem.length) (za8 _ _ _)),(6,.len (c:=(.d (.sl 2 (r.cycle.map StD.d)))) (n:=r.cycle.length) (za8 _ _ _)),(7,.gen _ _ _ fun _ _ _ _=>Op.arith (op:=.add) (d:=22) (xt:=3) (yt:=3) (k:=.i64) (m:=(r.stem.length:Int)) (n:=(r.cycle.length:Int)) (r:=((r.stem++r.cycle).length:Int)) (OV.tmp 18 _) (OV.tmp 21 _) (.inl ⟨rfl,(by rw [List.length_append];omega)⟩) (zaj (by omega) (by omega)))] [(1,vi .i64 (i:Int)),(2,vp 0 0),(4,vp 1 0),(23,vb (decide ((i:Int)<((r.stem++r.cycle).length:Int))))] [(0,.box [.d (.sl 2 (r.stem.map StD.d)),.d (.sl 2 (r.cycle.map StD.d)),cIs r.acts]),(1,.box [.d (.raw za6),.d (.raw za6)])] h ?_)));clear h;intro a w h
  refine zac (decide ((i:Int)<((r.stem++r.cycle).length:Int))) h rfl (fun hc=>?_) (fun hc=>?_)
  ·have hc3:=hc;clear hc
   have hc3':=of_decide_eq_true hc3
   obtain ⟨x2,hx2⟩:∃ z_:StD,r.cycle[i - r.stem.length]?=some z_:=⟨_,List.getElem?_eq_getElem (by have:(r.stem++r.cycle).length=r.stem.length+r.cycle.length:=List.length_append;omega)⟩
   refine rq za1 2 [(5,.len (c:=(.d (.sl 2 (r.stem.map StD.d)))) (n:=r.stem.length) (za8 _ _ _)),(6,.gen _ _ _ fun _ _ _ _=>Op.arith (op:=.sub) (d:=30) (xt:=3) (yt:=3) (k:=.i64) (m:=(i:Int)) (n:=(r.stem.length:Int)) (r:=((i - r.stem.length:Nat):Int)) (OV.tmp 26 _) (OV.tmp 29 _) (.inr (.inl ⟨rfl,(by omega)⟩)) (zaj (by omega) (by omega))),(7,.gen _ _ _ fun _ _ _ _=>Op.idxD (d:=31) (t:=25) (k:=.i64) kn_0 (zam hx2 (f:=StD.d)) (OV.tmp 30 _))] [(4,vp 1 0)] [(1,.box [cIs x2.locs,cZs x2.vals])] h ?_;clear h;intro a w h
   refine wp_ret (zah ?_)
   refine zaz [.agg [cIs x2.locs,cZs x2.vals]] h Exit.ret (.inl rfl)  rfl ⟨RV.agg _ 1 0 _ _ _ _ kk_5 rfl rfl rfl rfl,trivial⟩ ?_
   have hz:zaf r i=x2:=by unfold zaf;rw [List.getElem?_append_right (by have:=of_decide_eq_false hc2;omega),hx2];rfl
   rw [hz];first | done | rfl
  ·have hc4:=hc;clear hc
   have hc4':=of_decide_eq_false hc4
   refine wp_skip (za4 (rq za1 2 [] [(4,vp 1 0)] [(1,.box [.d (.raw za6),.d (.raw za6)])] h ?_));clear h;intro a w h
   refine wp_ret ?_
   replace h:=zck 1 0 1 [.d (.raw za6),.d (.raw za6)] [(4,vp 1 0)] [(1,.box [cIs [],.d (.raw za6)])] h rfl rfl
   replace h:=zck 1 1 2 [cIs [],.d (.raw za6)] [(4,vp 1 0)] [(1,.box [cIs [],cZs []])] h rfl rfl
   refine zaz [.agg [cIs [],cZs []]] h Exit.ret (.inl rfl)  rfl ⟨RV.agg _ 1 0 _ _ _ _ kk_5 rfl rfl rfl rfl,trivial⟩ ?_
   have hz:zaf r i=st0:=by unfold zaf;rw [List.getElem?_eq_none (by have:=of_decide_eq_false hc4;omega)];rfl
   rw [hz];first | done | rfl
theorem SRAt (r:zbo) (z:Int) (i:Nat) (hz:z=(i:Int)) (hl:r.stem.length+r.cycle.length≤20) (hi:i≤1000):Fn Tryd.prog 18 [] [.t (.agg [.d (.sl 2 (r.stem.map StD.d)),.d (.sl 2 (r.cycle.map StD.d)),cIs r.acts]),vi .i64 z] (.t (.agg [cIs (zaf r i).locs,cZs (zaf r i).vals])) []:=by subst hz;exact SRAt0 r i hl hi
theorem pj1_1:Sz Tryd.prog 41 1 false:=Sz.mk' (by kernel_rfl) Tryd.underlying41 _ rfl
theorem pj1_4:zaa Tryd.prog 19:=zaa.mk' (by kernel_rfl)
theorem pj1_6:Sz Tryd.prog 39 10 true:=Sz.mk' (by kernel_rfl) Tryd.underlying39 _ rfl
theorem pj1_7:zaa Tryd.prog 32:=zaa.mk' (by kernel_rfl)
theorem pj1_8:zaa Tryd.prog 34:=zaa.mk' (by kernel_rfl)
theorem pj1_9:zaa Tryd.prog 33:=zaa.mk' (by kernel_rfl)
def acA (acts:List Int) (i:Nat):Int:=(acts[i]?).getD (-1)
def stLn (s:zap) (acts:List Int) (i:Nat) (x:StD):List UInt8:=za9 [⟨#[32,32]⟩,stW s x,⟨#[32,47,32]⟩,zb9 s (acA acts i)]
def zb3 (s:zap) (acts:List Int) (i:Nat) (xs:List StD) (j:Nat):List UInt8:=(List.range j).flatMap fun k=>stLn s acts (i+k) ((xs[k]?).getD st0)
theorem zc4 {s:zap} {acts:List Int} {i:Nat} {xs:List StD} {j:Nat} {x:StD} (h:xs[j]?=some x):zb3 s acts i xs j++stLn s acts (i+j) x=zb3 s acts i xs (j+1):=by
 unfold zb3;rw [List.range_succ,List.flatMap_append];simp [h]
theorem actN_sz {s:zap} (hz:zc2 s) (hl:s.acts.length≤1000000) (i:Int):(zb9 s i).size≤1048585:=by
 have e1:(⟨#[115,116,117,116,116,101,114]⟩:ByteArray).size=7:=rfl
 have e2:(⟨#[63]⟩:ByteArray).size=1:=rfl
 have e3:(⟨#[46]⟩:ByteArray).size=1:=rfl
 unfold zb9
 cases ha:atI s.acts i with
 | none=>simp only;omega
 | some c =>
  have h1:=itA_sz s c.proc (i.toNat+1) hl
  simp only
  cases hp:atI s.procs c.proc with
  | none=>simp only [ByteArray.size_append];omega
  | some p=>have h2:=hz.name p (zbn hp);simp only [ByteArray.size_append];omega
theorem stLn_len {s:zap} (hz:zc2 s) (hl:s.acts.length≤1000000) {x:StD} (hx:StOk 4 x) (acts:List Int) (i:Nat):(stLn s acts i x).length≤43000000:=by
 have h1:=stW_sz hz hx
 have h2:=actN_sz hz hl (acA acts i)
 have e1:(⟨#[32,32]⟩:ByteArray).data.toList.length=2:=rfl
 have e2:(⟨#[32,47,32]⟩:ByteArray).data.toList.length=3:=rfl
 unfold stLn
 rw [zba]
 unfold zav
 simp only [List.flatMap_cons,List.flatMap_nil,List.length_append,List.length_nil,List.length_cons]
 rw [← baL (stW s x),← baL (zb9 s _)]
 omega
theorem zc9 {s:zap} (hz:zc2 s) (hl:s.acts.length≤1000000) {xs:List StD} (hx:∀ x ∈ xs,StOk 4 x) (acts:List Int) (i:Nat):∀ j,j≤xs.length→(zb3 s acts i xs j).length≤j*43000000
 | 0,_=>by simp [zb3]
 | j+1,h=>by
  obtain ⟨x,hj⟩:∃ x,xs[j]?=some x:=⟨_,List.getElem?_eq_getElem (by omega)⟩
  have h1:=zc9 hz hl hx acts i j (by omega)
  have h2:=stLn_len hz hl (hx x (List.mem_of_getElem? hj)) acts (i+j)
  rw [← zc4 hj,List.length_append]
  omega
set_option maxHeartbeats 4000000 in
theorem WAct (s:zap) (acts:List Int) (i:Nat) (l:List UInt8) (hi:i≤1000000):Fn Tryd.prog 34 [(7,.bld 77 (.own 9 l.length) [.d (.sl 1 (s.vars.map za3)),.d (.sl 5 (s.bounds.map za0.d)),cI s.init.kind,cPs s.init.r.t.parts,cB s.init.r.t.k.neg,.d (nsl s.init.r.t.k.abs),cB s.init.r.eq,cFs s.init.kids,.d (.sl 3 (s.procs.map za2.d)),.d (.sl 10 (s.acts.map za5.d)),cIs acts,cI (i:Int)]),(9,.row 5 1 (bw l))] [vp 7 0] (vi .i64 (acA acts i)) [(7,.bld 77 (.own 9 l.length) [.d (.sl 1 (s.vars.map za3)),.d (.sl 5 (s.bounds.map za0.d)),cI s.init.kind,cPs s.init.r.t.parts,cB s.init.r.t.k.neg,.d (nsl s.init.r.t.k.abs),cB s.init.r.eq,cFs s.init.kids,.d (.sl 3 (s.procs.map za2.d)),.d (.sl 10 (s.acts.map za5.d)),cIs acts,cI ((i+1:Nat):Int)]),(9,.row 5 1 (bw l))]:=by
 refine Fn.body Tryd.func34 rfl 29 rfl fun w H B a h=>?_
 refine rq zae 30 [] [(0,vp 7 0),(2,vi .i64 0)] [(7,.bld 77 (.own 9 l.length) [.d (.sl 1 (s.vars.map za3)),.d (.sl 5 (s.bounds.map za0.d)),cI s.init.kind,cPs s.init.r.t.parts,cB s.init.r.t.k.neg,.d (nsl s.init.r.t.k.abs),cB s.init.r.eq,cFs s.init.kids,.d (.sl 3 (s.procs.map za2.d)),.d (.sl 10 (s.acts.map za5.d)),cIs acts,cI (i:Int)]),(9,.row 5 1 (bw l))] h ?_;clear h;intro a w h
 refine rq zae 30 [(1,.gen _ _ _ fun _ _ _ _=>Op.nilP (d:=5) (t:=4) (n:=7) (o:=0)),(3,.gen _ _ _ fun _ _ _ _=>Op.loadB_c (d:=7) (t:=6) (n:=7) (o:=11) (m:=1) (T:=77) (c0:=.own 9 l.length) (rest:=[.d (.sl 1 (s.vars.map za3)),.d (.sl 5 (s.bounds.map za0.d)),cI s.init.kind,cPs s.init.r.t.parts,cB s.init.r.t.k.neg,.d (nsl s.init.r.t.k.abs),cB s.init.r.eq,cFs s.init.kids,.d (.sl 3 (s.procs.map za2.d)),.d (.sl 10 (s.acts.map za5.d)),cIs acts,cI (i:Int)]) (x:=cI (i:Int)) tl_7 rfl)] [(0,vp 7 0),(2,vi .i64 0),(3,vi .i64 (i:Int))] [(7,.bld 77 (.own 9 l.length) [.d (.sl 1 (s.vars.map za3)),.d (.sl 5 (s.bounds.map za0.d)),cI s.init.kind,cPs s.init.r.t.parts,cB s.init.r.t.k.neg,.d (nsl s.init.r.t.k.abs),cB s.init.r.eq,cFs s.init.kids,.d (.sl 3 (s.procs.map za2.d)),.d (.sl 10 (s.acts.map za5.d)),cIs acts,cI (i:Int)]),(9,.row 5 1 (bw l))] h ?_;clear h;intro a w h
 refine rq zae 30 [(1,.gen _ _ _ fun _ _ _ _=>Op.nilP (d:=9) (t:=8) (n:=7) (o:=0)),(3,.gen _ _ _ fun _ _ _ _=>Op.loadB_c (d:=11) (t:=10) (n:=7) (o:=11) (m:=1) (T:=77) (c0:=.own 9 l.length) (rest:=[.d (.sl 1 (s.vars.map za3)),.d (.sl 5 (s.bounds.map za0.d)),cI s.init.kind,cPs s.init.r.t.parts,cB s.init.r.t.k.neg,.d (nsl s.init.r.t.k.abs),cB s.init.r.eq,cFs s.init.kids,.d (.sl 3 (s.procs.map za2.d)),.d (.sl 10 (s.acts.map za5.d)),cIs acts,cI (i:Int)]) (x:=cI (i:Int)) tl_7 rfl),(4,.add .i64 (m:=(i:Int)) (n:=1) (zaj (by omega) (by omega))),(5,.gen _ _ _ fun _ _ _ _=>Op.nilP (d:=13) (t:=8) (n:=7) (o:=0)),(7,.gen _ _ _ fun _ _ _ _=>Op.storeB (t:=14) (n:=7) (o:=11) (T:=77) (c0:=.own 9 l.length) (rest:=[.d (.sl 1 (s.vars.map za3)),.d (.sl 5 (s.bounds.map za0.d)),cI s.init.kind,cPs s.init.r.t.parts,cB s.init.r.t.k.neg,.d (nsl s.init.r.t.k.abs),cB s.init.r.eq,cFs s.init.kids,.d (.sl 3 (s.procs.map za2.d)),.d (.sl 10 (s.acts.map za5.d)),cIs acts,cI (i:Int)]) (rest':=[.d (.sl 1 (s.vars.map za3)),.d (.sl 5 (s.bounds.map za0.d)),cI s.init.kind,cPs s.init.r.t.parts,cB s.init.r.t.k.neg,.d (nsl s.init.r.t.k.abs),cB s.init.r.eq,cFs s.init.kids,.d (.sl 3 (s.procs.map za2.d)),.d (.sl 10 (s.acts.map za5.d)),cIs acts,cI ((i:Int)+1)]) (y:=cI ((i:Int)+1)) tl_7 (OV.tmp 12 _) rfl rfl)] [(0,vp 7 0),(2,vi .i64 0),(3,vi .i64 (i:Int))] [(7,.bld 77 (.own 9 l.length) [.d (.sl 1 (s.vars.map za3)),.d (.sl 5 (s.bounds.map za0.d)),cI s.init.kind,cPs s.init.r.t.parts,cB s.init.r.t.k.neg,.d (nsl s.init.r.t.k.abs),cB s.init.r.eq,cFs s.init.kids,.d (.sl 3 (s.procs.map za2.d)),.d (.sl 10 (s.acts.map za5.d)),cIs acts,cI ((i:Int)+1)]),(9,.row 5 1 (bw l))] h ?_;clear h;intro a w h
 refine wp_seq (rq zae 30 [(2,.gen _ _ _ fun _ _ _ _=>Op.nilP (d:=17) (t:=16) (n:=7) (o:=0)),(4,.gen _ _ _ fun _ _ _ _=>Op.loadB_c (d:=19) (t:=18) (n:=7) (o:=10) (m:=1) (T:=77) (c0:=.own 9 l.length) (rest:=[.d (.sl 1 (s.vars.map za3)),.d (.sl 5 (s.bounds.map za0.d)),cI s.init.kind,cPs s.init.r.t.parts,cB s.init.r.t.k.neg,.d (nsl s.init.r.t.k.abs),cB s.init.r.eq,cFs s.init.kids,.d (.sl 3 (s.procs.map za2.d)),.d (.sl 10 (s.acts.map za5.d)),cIs acts,cI ((i:Int)+1)]) (x:=cIs acts) pj1_1 rfl),(5,.len (c:=(cIs acts)) (n:=acts.length) (za8 _ _ _))] [(0,vp 7 0),(2,vi .i64 0),(3,vi .i64 (i:Int)),(21,vb (decide ((i:Int)<(acts.length:Int))))] [(7,.bld 77 (.own 9 l.length) [.d (.sl 1 (s.vars.map za3)),.d (.sl 5 (s.bounds.map za0.d)),cI s.init.kind,cPs s.init.r.t.parts,cB s.init.r.t.k.neg,.d (nsl s.init.r.t.k.abs),cB s.init.r.eq,cFs s.init.kids,.d (.sl 3 (s.procs.map za2.d)),.d (.sl 10 (s.acts.map za5.d)),cIs acts,cI ((i:Int)+1)]),(9,.row 5 1 (bw l))] h ?_);clear h;intro a w h
 refine zac (decide ((i:Int)<(acts.length:Int))) h rfl (fun hc=>?_) (fun hc=>?_)
 ·have hc1:=hc;clear hc
  have hc1':=of_decide_eq_true hc1
  obtain ⟨x1,hx1⟩:∃ z_:Int,acts[i]?=some z_:=⟨_,List.getElem?_eq_getElem (by first | omega | (simp at *;omega))⟩
  refine rq zae 30 [(1,.gen _ _ _ fun _ _ _ _=>Op.nilP (d:=23) (t:=22) (n:=7) (o:=0)),(3,.gen _ _ _ fun _ _ _ _=>Op.loadB_c (d:=25) (t:=24) (n:=7) (o:=10) (m:=1) (T:=77) (c0:=.own 9 l.length) (rest:=[.d (.sl 1 (s.vars.map za3)),.d (.sl 5 (s.bounds.map za0.d)),cI s.init.kind,cPs s.init.r.t.parts,cB s.init.r.t.k.neg,.d (nsl s.init.r.t.k.abs),cB s.init.r.eq,cFs s.init.kids,.d (.sl 3 (s.procs.map za2.d)),.d (.sl 10 (s.acts.map za5.d)),cIs acts,cI ((i:Int)+1)]) (x:=cIs acts) pj1_1 rfl),(5,.gen _ _ _ fun _ _ _ _=>Op.idxD (d:=27) (t:=25) (k:=.i64) tb_1 (zam hx1 (f:=zdg)) (OV.tmp 26 _))] [(2,vi .i64 x1)] [(7,.bld 77 (.own 9 l.length) [.d (.sl 1 (s.vars.map za3)),.d (.sl 5 (s.bounds.map za0.d)),cI s.init.kind,cPs s.init.r.t.parts,cB s.init.r.t.k.neg,.d (nsl s.init.r.t.k.abs),cB s.init.r.eq,cFs s.init.kids,.d (.sl 3 (s.procs.map za2.d)),.d (.sl 10 (s.acts.map za5.d)),cIs acts,cI ((i:Int)+1)]),(9,.row 5 1 (bw l))] h ?_;clear h;intro a w h
  refine wp_ret (zah ?_)
  replace h:=h.conv (f':=F.of [(2,vi .i64 x1)] [(7,.bld 77 (.own 9 l.length) [.d (.sl 1 (s.vars.map za3)),.d (.sl 5 (s.bounds.map za0.d)),cI s.init.kind,cPs s.init.r.t.parts,cB s.init.r.t.k.neg,.d (nsl s.init.r.t.k.abs),cB s.init.r.eq,cFs s.init.kids,.d (.sl 3 (s.procs.map za2.d)),.d (.sl 10 (s.acts.map za5.d)),cIs acts,cI ((i+1:Nat):Int)]),(9,.row 5 1 (bw l))]) (by rw [show ((i:Int)+1:Int)=((i+1:Nat):Int) from rfl])
  refine zaz [.c (cI x1)] h Exit.ret (.inl rfl)  rfl ⟨RV.tmp _ _ rfl,trivial⟩ ?_
  rw [show acA acts i=x1 from by unfold acA;rw [hx1];rfl];first | done | rfl
 ·have hc2:=hc;clear hc
  have hc2':=of_decide_eq_false hc2
  refine wp_skip (za4 (rq zae 30 [] [(2,vi .i64 (-1))] [(7,.bld 77 (.own 9 l.length) [.d (.sl 1 (s.vars.map za3)),.d (.sl 5 (s.bounds.map za0.d)),cI s.init.kind,cPs s.init.r.t.parts,cB s.init.r.t.k.neg,.d (nsl s.init.r.t.k.abs),cB s.init.r.eq,cFs s.init.kids,.d (.sl 3 (s.procs.map za2.d)),.d (.sl 10 (s.acts.map za5.d)),cIs acts,cI ((i:Int)+1)]),(9,.row 5 1 (bw l))] h ?_));clear h;intro a w h
  refine wp_ret ?_
  replace h:=h.conv (f':=F.of [(2,vi .i64 (-1))] [(7,.bld 77 (.own 9 l.length) [.d (.sl 1 (s.vars.map za3)),.d (.sl 5 (s.bounds.map za0.d)),cI s.init.kind,cPs s.init.r.t.parts,cB s.init.r.t.k.neg,.d (nsl s.init.r.t.k.abs),cB s.init.r.eq,cFs s.init.kids,.d (.sl 3 (s.procs.map za2.d)),.d (.sl 10 (s.acts.map za5.d)),cIs acts,cI ((i+1:Nat):Int)]),(9,.row 5 1 (bw l))]) (by rw [show ((i:Int)+1:Int)=((i+1:Nat):Int) from rfl])
  refine zaz [.c (cI (-1))] h Exit.ret (.inl rfl)  rfl ⟨RV.tmp _ _ rfl,trivial⟩ ?_
  rw [show acA acts i=-1 from by unfold acA;rw [List.getElem?_eq_none (by have:=of_decide_eq_false hc2;omega)];rfl];first | done | rfl
abbrev q3 (l:List UInt8) (head:ByteArray) (s:zap) (acts:List Int) (i:Nat) (xs:List StD) (j:Nat) (x2:StD):L:=.bld 77 (.own 10 (((l++za9 [head])++zb3 s acts i xs j)++za9 [(⟨#[32,32]⟩:ByteArray),(stW s x2),(⟨#[32,47,32]⟩:ByteArray),(zb9 s (acA acts (i+j)))]).length) [.d (.sl 1 (s.vars.map za3)),.d (.sl 5 (s.bounds.map za0.d)),cI s.init.kind,cPs s.init.r.t.parts,cB s.init.r.t.k.neg,.d (nsl s.init.r.t.k.abs),cB s.init.r.eq,cFs s.init.kids,.d (.sl 3 (s.procs.map za2.d)),.d (.sl 10 (s.acts.map za5.d)),cIs acts,cI ((i+j+1:Nat):Int)]
abbrev q4 (l:List UInt8) (head:ByteArray) (s:zap) (acts:List Int) (i:Nat) (xs:List StD) (j:Nat):L:=.bld 77 (.own 9 ((l++za9 [head])++zb3 s acts i xs j).length) [.d (.sl 1 (s.vars.map za3)),.d (.sl 5 (s.bounds.map za0.d)),cI s.init.kind,cPs s.init.r.t.parts,cB s.init.r.t.k.neg,.d (nsl s.init.r.t.k.abs),cB s.init.r.eq,cFs s.init.kids,.d (.sl 3 (s.procs.map za2.d)),.d (.sl 10 (s.acts.map za5.d)),cIs acts,cI ((i+j:Nat):Int)]
abbrev q5 (l:List UInt8) (head:ByteArray) (s:zap) (acts:List Int) (i:Nat):L:=.bld 77 (.own 9 (l++za9 [head]).length) [.d (.sl 1 (s.vars.map za3)),.d (.sl 5 (s.bounds.map za0.d)),cI s.init.kind,cPs s.init.r.t.parts,cB s.init.r.t.k.neg,.d (nsl s.init.r.t.k.abs),cB s.init.r.eq,cFs s.init.kids,.d (.sl 3 (s.procs.map za2.d)),.d (.sl 10 (s.acts.map za5.d)),cIs acts,cI (i:Int)]
abbrev q6 (l:List UInt8) (head:ByteArray) (s:zap) (acts:List Int) (i:Nat) (xs:List StD) (j:Nat) (x2:StD):L:=.row 5 1 (bw (((l++za9 [head])++zb3 s acts i xs j)++za9 [(⟨#[32,32]⟩:ByteArray),(stW s x2),(⟨#[32,47,32]⟩:ByteArray),(zb9 s (acA acts (i+j)))]))
abbrev q7 (xs:List StD):V:=.t (.c (.d (.sl 2 (xs.map StD.d))))
set_option maxHeartbeats 4000000 in
theorem WStates (s:zap) (acts:List Int) (i:Nat) (l:List UInt8) (head:ByteArray) (xs:List StD) (hz:zc2 s) (hla:s.acts.length≤1000000) (hxs:∀ x ∈ xs,StOk 4 x) (hln:xs.length≤10) (hi:i≤100) (hl:l.length≤2000000000) (hh:head.size≤100):Fn Tryd.prog 21 [(7,.bld 77 (.own 8 l.length) [.d (.sl 1 (s.vars.map za3)),.d (.sl 5 (s.bounds.map za0.d)),cI s.init.kind,cPs s.init.r.t.parts,cB s.init.r.t.k.neg,.d (nsl s.init.r.t.k.abs),cB s.init.r.eq,cFs s.init.kids,.d (.sl 3 (s.procs.map za2.d)),.d (.sl 10 (s.acts.map za5.d)),cIs acts,cI (i:Int)]),(8,.row 5 1 (bw l))] [vp 7 0,.t (.c (.d (.raw (.string head)))),.t (.c (.d (.sl 2 (xs.map StD.d))))] (.tup []) [(7,.bld 77 (.own 9 ((l++za9 [head])++zb3 s acts i xs xs.length).length) [.d (.sl 1 (s.vars.map za3)),.d (.sl 5 (s.bounds.map za0.d)),cI s.init.kind,cPs s.init.r.t.parts,cB s.init.r.t.k.neg,.d (nsl s.init.r.t.k.abs),cB s.init.r.eq,cFs s.init.kids,.d (.sl 3 (s.procs.map za2.d)),.d (.sl 10 (s.acts.map za5.d)),cIs acts,cI ((i+xs.length:Nat):Int)]),(9,.row 5 1 (bw ((l++za9 [head])++zb3 s acts i xs xs.length)))]:=by
 have llh:(za9 [head]).length=head.size+1:=by rw [zba,baL];simp [zav]
 have hlh:l.length+(za9 [head]).length≤4294967296:=by omega
 have lpl:(l++za9 [head]).length≤2000000101:=by rw [List.length_append];omega
 refine Fn.body Tryd.func21 rfl 35 rfl fun w H B a h=>?_
 refine rq zae 30 [(2,.gen _ _ _ fun _ _ _ _=>Op.buildD (d:=10) (len:=1) (rows:=[head].map za3) (rs:=[(9,.t (.c (.d (.raw (.string head)))))]) zd5 (.cons (i:=0) (OV.tmp 9 _) (.nil)) (by kernel_rfl) rfl (by simp [za3]) (by decide) (by decide)),(3,.call (WLineA (.sl 1 (s.vars.map za3)) (.sl 5 (s.bounds.map za0.d)) (.raw (.int .i64 s.init.kind)) (.sl 3 (s.init.r.t.parts.map zdd.d)) (.raw (.bool s.init.r.t.k.neg)) (nsl s.init.r.t.k.abs) (.raw (.bool s.init.r.eq)) (.sl 6 (s.init.kids.map zab.d)) (.sl 3 (s.procs.map za2.d)) (.sl 10 (s.acts.map za5.d)) (.sl 1 (acts.map zdg)) (.raw (.int .i64 (i:Int))) l [head] hlh (by simp)) pj1_4)] [(0,vp 7 0),(2,q7 xs)] [(7,q5 l head s acts i),(9,.row 5 1 (bw (l++za9 [head])))] h ?_;clear h;intro a w h
 refine rq zae 30 [(1,.len (c:=(.d (.sl 2 (xs.map StD.d)))) (n:=xs.length) (za8 _ _ _))] [(0,vp 7 0),(12,q7 xs),(13,vi .i64 (xs.length:Int)),(14,vi .i64 0)] [(7,q5 l head s acts i),(9,.row 5 1 (bw (l++za9 [head])))] h ?_;clear h;intro a w h
 refine wp_block ?_
 replace h:=h.conv (f':=F.of [(0,vp 7 0),(12,q7 xs),(13,vi .i64 (xs.length:Int)),(14,vi .i64 0)] [(7,.bld 77 (.own 9 ((l++za9 [head])++zb3 s acts i xs 0).length) [.d (.sl 1 (s.vars.map za3)),.d (.sl 5 (s.bounds.map za0.d)),cI s.init.kind,cPs s.init.r.t.parts,cB s.init.r.t.k.neg,.d (nsl s.init.r.t.k.abs),cB s.init.r.eq,cFs s.init.kids,.d (.sl 3 (s.procs.map za2.d)),.d (.sl 10 (s.acts.map za5.d)),cIs acts,cI (i:Int)]),(9,.row 5 1 (bw ((l++za9 [head])++zb3 s acts i xs 0)))]) (congrArg (fun (z_:List UInt8)=>F.of [(0,vp 7 0),(12,q7 xs),(13,vi .i64 (xs.length:Int)),(14,vi .i64 0)] [(7,.bld 77 (.own 9 z_.length) [.d (.sl 1 (s.vars.map za3)),.d (.sl 5 (s.bounds.map za0.d)),cI s.init.kind,cPs s.init.r.t.parts,cB s.init.r.t.k.neg,.d (nsl s.init.r.t.k.abs),cB s.init.r.eq,cFs s.init.kids,.d (.sl 3 (s.procs.map za2.d)),.d (.sl 10 (s.acts.map za5.d)),cIs acts,cI (i:Int)]),(9,.row 5 1 (bw z_))]) (show ((l++za9 [head]):List UInt8)=((l++za9 [head])++zb3 s acts i xs 0) from (by simp [zb3])))
 replace h:=h.conv (f':=F.of [(0,vp 7 0),(12,q7 xs),(13,vi .i64 (xs.length:Int)),(14,vi .i64 0)] [(7,.bld 77 (.own 9 ((l++za9 [head])++zb3 s acts i xs 0).length) [.d (.sl 1 (s.vars.map za3)),.d (.sl 5 (s.bounds.map za0.d)),cI s.init.kind,cPs s.init.r.t.parts,cB s.init.r.t.k.neg,.d (nsl s.init.r.t.k.abs),cB s.init.r.eq,cFs s.init.kids,.d (.sl 3 (s.procs.map za2.d)),.d (.sl 10 (s.acts.map za5.d)),cIs acts,cI ((i+0:Nat):Int)]),(9,.row 5 1 (bw ((l++za9 [head])++zb3 s acts i xs 0)))]) (by rw [show ((i:Int):Int)=((i+0:Nat):Int) from rfl])
 refine zci (ι:=(Nat)) (fun (z_:(Nat))=>match z_ with | j=>j≤xs.length)
   (fun (z_:(Nat))=>match z_ with | j=>[(0,vp 7 0),(12,q7 xs),(13,vi .i64 (xs.length:Int)),(14,vi .i64 (j:Int))])
   (fun (z_:(Nat))=>match z_ with | j=>[(7,q4 l head s acts i xs j),(9,.row 5 1 (bw ((l++za9 [head])++zb3 s acts i xs j)))])
   (fun (z_:(Nat))=>match z_ with | j=>xs.length - j) 0 ?_ h (by kernel_rfl) (by kernel_rfl) ?_
 ·exact Nat.zero_le _
 ·clear h;rintro j a w hI h
  change St _ (F.of [(0,vp 7 0),(12,q7 xs),(13,vi .i64 (xs.length:Int)),(14,vi .i64 (j:Int))] [(7,q4 l head s acts i xs j),(9,.row 5 1 (bw ((l++za9 [head])++zb3 s acts i xs j)))]) a w at h
  have lsj:=zc9 hz hla hxs acts i j hI
  refine rq zae 30 [] [(0,vp 7 0),(12,q7 xs),(13,vi .i64 (xs.length:Int)),(14,vi .i64 (j:Int)),(15,vb (decide ((j:Int)<(xs.length:Int))))] [(7,q4 l head s acts i xs j),(9,.row 5 1 (bw ((l++za9 [head])++zb3 s acts i xs j)))] h ?_;clear h;intro a w h
  refine wp_seq ?_
  refine zac (decide ((j:Int)<(xs.length:Int))) h rfl (fun hc=>?_) (fun hc=>?_)
  ·have hc1:=hc;clear hc
   have hc1':=of_decide_eq_true hc1
   refine wp_skip (za4 (wp_seq (wp_block ?_)))
   obtain ⟨x2,hx2⟩:∃ z_:StD,xs[j]?=some z_:=⟨_,List.getElem?_eq_getElem (by first | omega | (simp at *;omega))⟩
   have gx2:=hxs x2 (List.mem_of_getElem? hx2)
   have lsx2:=stLn_len hz hla gx2 acts (i+j)
   refine rq zae 30 [(0,.gen _ _ _ fun _ _ _ _=>Op.idxD (d:=16) (t:=12) (k:=.i64) kn_0 (zam hx2 (f:=StD.d)) (OV.tmp 14 _))] [(0,vp 7 0),(7,vp 30 0),(12,q7 xs),(13,vi .i64 (xs.length:Int)),(14,vi .i64 (j:Int))] [(7,q4 l head s acts i xs j),(9,.row 5 1 (bw ((l++za9 [head])++zb3 s acts i xs j))),(30,.box [cIs x2.locs,cZs x2.vals])] h ?_;clear h;intro a w h
   refine rSW zae 31 [(2,.gen _ _ _ fun _ _ _ _=>Op.nilP (d:=20) (t:=19) (n:=7) (o:=0)),(4,.gen _ _ _ fun _ _ _ _=>Op.loadB_agg (d:=22) (t:=21) (n:=7) (o:=0) (m:=10) (T:=77) (c0:=.own 9 ((l++za9 [head])++zb3 s acts i xs j).length) (rest:=[.d (.sl 1 (s.vars.map za3)),.d (.sl 5 (s.bounds.map za0.d)),cI s.init.kind,cPs s.init.r.t.parts,cB s.init.r.t.k.neg,.d (nsl s.init.r.t.k.abs),cB s.init.r.eq,cFs s.init.kids,.d (.sl 3 (s.procs.map za2.d)),.d (.sl 10 (s.acts.map za5.d)),cIs acts,cI ((i+j:Nat):Int)]) (xs:=[.d (.sl 1 (s.vars.map za3)),.d (.sl 5 (s.bounds.map za0.d)),cI s.init.kind,cPs s.init.r.t.parts,cB s.init.r.t.k.neg,.d (nsl s.init.r.t.k.abs),cB s.init.r.eq,cFs s.init.kids,.d (.sl 3 (s.procs.map za2.d)),.d (.sl 10 (s.acts.map za5.d))]) pj1_6 rfl rfl),(6,.call (PState s x2 hz gx2) pj1_7),(8,.gen _ _ _ fun _ _ _ _=>Op.nilP (d:=26) (t:=25) (n:=7) (o:=0)),(10,.gen _ _ _ fun _ _ _ _=>Op.loadB_agg (d:=28) (t:=27) (n:=7) (o:=0) (m:=10) (T:=77) (c0:=.own 9 ((l++za9 [head])++zb3 s acts i xs j).length) (rest:=[.d (.sl 1 (s.vars.map za3)),.d (.sl 5 (s.bounds.map za0.d)),cI s.init.kind,cPs s.init.r.t.parts,cB s.init.r.t.k.neg,.d (nsl s.init.r.t.k.abs),cB s.init.r.eq,cFs s.init.kids,.d (.sl 3 (s.procs.map za2.d)),.d (.sl 10 (s.acts.map za5.d)),cIs acts,cI ((i+j:Nat):Int)]) (xs:=[.d (.sl 1 (s.vars.map za3)),.d (.sl 5 (s.bounds.map za0.d)),cI s.init.kind,cPs s.init.r.t.parts,cB s.init.r.t.k.neg,.d (nsl s.init.r.t.k.abs),cB s.init.r.eq,cFs s.init.kids,.d (.sl 3 (s.procs.map za2.d)),.d (.sl 10 (s.acts.map za5.d))]) pj1_6 rfl rfl),(12,.call (WAct s acts (i+j) ((l++za9 [head])++zb3 s acts i xs j) (by omega)) pj1_8),(13,.call (PAct s (acA acts (i+j)) hz hla) pj1_9),(14,.gen _ _ _ fun _ _ _ _=>Op.buildD (d:=32) (len:=4) (rows:=[(⟨#[32,32]⟩:ByteArray),(stW s x2),(⟨#[32,47,32]⟩:ByteArray),(zb9 s (acA acts (i+j)))].map za3) (rs:=[(24,.t (.c (.d (.raw (.string (stW s x2)))))),(31,.t (.c (.d (.raw (.string (zb9 s (acA acts (i+j))))))))]) zd5 (.cons (i:=0) (OV.const (.string (⟨#[32,32]⟩:ByteArray)) rfl) (.cons (i:=1) (OV.tmp 24 _) (.cons (i:=2) (OV.const (.string (⟨#[32,47,32]⟩:ByteArray)) rfl) (.cons (i:=3) (OV.tmp 31 _) (.nil))))) (by kernel_rfl) rfl (by simp [za3]) (by decide) (by decide)),(15,.call (WLineB (.sl 1 (s.vars.map za3)) (.sl 5 (s.bounds.map za0.d)) (.raw (.int .i64 s.init.kind)) (.sl 3 (s.init.r.t.parts.map zdd.d)) (.raw (.bool s.init.r.t.k.neg)) (nsl s.init.r.t.k.abs) (.raw (.bool s.init.r.eq)) (.sl 6 (s.init.kids.map zab.d)) (.sl 3 (s.procs.map za2.d)) (.sl 10 (s.acts.map za5.d)) (.sl 1 (acts.map zdg)) (.raw (.int .i64 ((i+j+1:Nat):Int))) ((l++za9 [head])++zb3 s acts i xs j) [(⟨#[32,32]⟩:ByteArray),(stW s x2),(⟨#[32,47,32]⟩:ByteArray),(zb9 s (acA acts (i+j)))] (by first | omega | (rw [List.length_append];show _+(stLn s acts (i+j) x2).length≤_;rw [List.length_append];omega)) (by simp)) pj1_4)] [(0,vp 7 0),(12,q7 xs),(13,vi .i64 (xs.length:Int)),(14,vi .i64 (j:Int))] [(7,q3 l head s acts i xs j x2),(10,q6 l head s acts i xs j x2)] 12 10 7 (.bld 77 (.own 9 ((l++za9 [head])++zb3 s acts i xs j).length) [.d (.sl 1 (s.vars.map za3)),.d (.sl 5 (s.bounds.map za0.d)),cI s.init.kind,cPs s.init.r.t.parts,cB s.init.r.t.k.neg,.d (nsl s.init.r.t.k.abs),cB s.init.r.eq,cFs s.init.kids,.d (.sl 3 (s.procs.map za2.d)),.d (.sl 10 (s.acts.map za5.d)),cIs acts,cI ((i+j+1:Nat):Int)]) (dy:=some 28) (opy:=.load 39 (.tmp 27)) { rs:=[(27,vp 7 2)],rl:=[(7,.bld 77 (.own 9 ((l++za9 [head])++zb3 s acts i xs j).length) [.d (.sl 1 (s.vars.map za3)),.d (.sl 5 (s.bounds.map za0.d)),cI s.init.kind,cPs s.init.r.t.parts,cB s.init.r.t.k.neg,.d (nsl s.init.r.t.k.abs),cB s.init.r.eq,cFs s.init.kids,.d (.sl 3 (s.procs.map za2.d)),.d (.sl 10 (s.acts.map za5.d)),cIs acts,cI ((i+j+1:Nat):Int)])],ws:=[(28,some (.t (.agg [.d (.sl 1 (s.vars.map za3)),.d (.sl 5 (s.bounds.map za0.d)),cI s.init.kind,cPs s.init.r.t.parts,cB s.init.r.t.k.neg,.d (nsl s.init.r.t.k.abs),cB s.init.r.eq,cFs s.init.kids,.d (.sl 3 (s.procs.map za2.d)),.d (.sl 10 (s.acts.map za5.d))])))] } (fun _ _ _ _=>Op.loadB_agg (d:=28) (t:=27) (n:=7) (o:=0) (m:=10) (T:=77) (c0:=.own 9 ((l++za9 [head])++zb3 s acts i xs j).length) (rest:=[.d (.sl 1 (s.vars.map za3)),.d (.sl 5 (s.bounds.map za0.d)),cI s.init.kind,cPs s.init.r.t.parts,cB s.init.r.t.k.neg,.d (nsl s.init.r.t.k.abs),cB s.init.r.eq,cFs s.init.kids,.d (.sl 3 (s.procs.map za2.d)),.d (.sl 10 (s.acts.map za5.d)),cIs acts,cI ((i+j+1:Nat):Int)]) (xs:=[.d (.sl 1 (s.vars.map za3)),.d (.sl 5 (s.bounds.map za0.d)),cI s.init.kind,cPs s.init.r.t.parts,cB s.init.r.t.k.neg,.d (nsl s.init.r.t.k.abs),cB s.init.r.eq,cFs s.init.kids,.d (.sl 3 (s.procs.map za2.d)),.d (.sl 10 (s.acts.map za5.d))]) pj1_6 rfl rfl) rfl rfl rfl (by kernel_rfl) (by kernel_rfl) h ?_;clear h;intro a w h
   refine zai (za4 (rn zae 31 [(0,.add .i64 (m:=(j:Int)) (n:=1) (zaj (by omega) (by omega)))] [(0,vp 7 0),(12,q7 xs),(13,vi .i64 (xs.length:Int)),(14,vi .i64 ((j:Int)+1))] [(7,q3 l head s acts i xs j x2),(10,q6 l head s acts i xs j x2)] h ?_));clear h;intro a w h
   refine za4 ?_
   replace h:=renS 10 9 [(0,vp 7 0),(12,q7 xs),(13,vi .i64 (xs.length:Int)),(14,vi .i64 ((j:Int)+1))] [(7,.bld 77 (.own 9 (((l++za9 [head])++zb3 s acts i xs j)++za9 [(⟨#[32,32]⟩:ByteArray),(stW s x2),(⟨#[32,47,32]⟩:ByteArray),(zb9 s (acA acts (i+j)))]).length) [.d (.sl 1 (s.vars.map za3)),.d (.sl 5 (s.bounds.map za0.d)),cI s.init.kind,cPs s.init.r.t.parts,cB s.init.r.t.k.neg,.d (nsl s.init.r.t.k.abs),cB s.init.r.eq,cFs s.init.kids,.d (.sl 3 (s.procs.map za2.d)),.d (.sl 10 (s.acts.map za5.d)),cIs acts,cI ((i+j+1:Nat):Int)]),(9,q6 l head s acts i xs j x2)] h
   replace h:=h.conv (f':=F.of [(0,vp 7 0),(12,q7 xs),(13,vi .i64 (xs.length:Int)),(14,vi .i64 ((j:Int)+1))] [(7,.bld 77 (.own 9 ((l++za9 [head])++zb3 s acts i xs (j+1)).length) [.d (.sl 1 (s.vars.map za3)),.d (.sl 5 (s.bounds.map za0.d)),cI s.init.kind,cPs s.init.r.t.parts,cB s.init.r.t.k.neg,.d (nsl s.init.r.t.k.abs),cB s.init.r.eq,cFs s.init.kids,.d (.sl 3 (s.procs.map za2.d)),.d (.sl 10 (s.acts.map za5.d)),cIs acts,cI ((i+j+1:Nat):Int)]),(9,.row 5 1 (bw ((l++za9 [head])++zb3 s acts i xs (j+1))))]) (congrArg (fun (z_:List UInt8)=>F.of [(0,vp 7 0),(12,q7 xs),(13,vi .i64 (xs.length:Int)),(14,vi .i64 ((j:Int)+1))] [(7,.bld 77 (.own 9 z_.length) [.d (.sl 1 (s.vars.map za3)),.d (.sl 5 (s.bounds.map za0.d)),cI s.init.kind,cPs s.init.r.t.parts,cB s.init.r.t.k.neg,.d (nsl s.init.r.t.k.abs),cB s.init.r.eq,cFs s.init.kids,.d (.sl 3 (s.procs.map za2.d)),.d (.sl 10 (s.acts.map za5.d)),cIs acts,cI ((i+j+1:Nat):Int)]),(9,.row 5 1 (bw z_))]) (show ((((l++za9 [head])++zb3 s acts i xs j)++za9 [(⟨#[32,32]⟩:ByteArray),(stW s x2),(⟨#[32,47,32]⟩:ByteArray),(zb9 s (acA acts (i+j)))]):List UInt8)=((l++za9 [head])++zb3 s acts i xs (j+1)) from (by rw [← zc4 hx2,← List.append_assoc];rfl)))
   replace h:=h.conv (f':=F.of [(0,vp 7 0),(12,q7 xs),(13,vi .i64 (xs.length:Int)),(14,vi .i64 ((j:Int)+1))] [(7,.bld 77 (.own 9 ((l++za9 [head])++zb3 s acts i xs (j+1)).length) [.d (.sl 1 (s.vars.map za3)),.d (.sl 5 (s.bounds.map za0.d)),cI s.init.kind,cPs s.init.r.t.parts,cB s.init.r.t.k.neg,.d (nsl s.init.r.t.k.abs),cB s.init.r.eq,cFs s.init.kids,.d (.sl 3 (s.procs.map za2.d)),.d (.sl 10 (s.acts.map za5.d)),cIs acts,cI ((i+(j+1):Nat):Int)]),(9,.row 5 1 (bw ((l++za9 [head])++zb3 s acts i xs (j+1))))]) (by rw [show (((i+j+1:Nat):Int):Int)=((i+(j+1):Nat):Int) from rfl])
   refine zas (x:=j) (y:=j+1) h ?_ ?_
   ·have:=zao hx2
    show j+1≤xs.length
    omega
   ·show xs.length - (j+1)<xs.length - j
    have:=zao hx2;omega
  ·have hc2:=hc;clear hc
   have hc2':=of_decide_eq_false hc2
   refine wp_exit (zar (zar (zag ?_)))
   replace h:=h.conv (f':=F.of [(0,vp 7 0),(12,q7 xs),(13,vi .i64 (xs.length:Int)),(14,vi .i64 (j:Int)),(15,vb (decide ((j:Int)<(xs.length:Int))))] [(7,.bld 77 (.own 9 ((l++za9 [head])++zb3 s acts i xs xs.length).length) [.d (.sl 1 (s.vars.map za3)),.d (.sl 5 (s.bounds.map za0.d)),cI s.init.kind,cPs s.init.r.t.parts,cB s.init.r.t.k.neg,.d (nsl s.init.r.t.k.abs),cB s.init.r.eq,cFs s.init.kids,.d (.sl 3 (s.procs.map za2.d)),.d (.sl 10 (s.acts.map za5.d)),cIs acts,cI ((i+j:Nat):Int)]),(9,.row 5 1 (bw ((l++za9 [head])++zb3 s acts i xs xs.length)))]) (congrArg (fun (z_:List UInt8)=>F.of [(0,vp 7 0),(12,q7 xs),(13,vi .i64 (xs.length:Int)),(14,vi .i64 (j:Int)),(15,vb (decide ((j:Int)<(xs.length:Int))))] [(7,.bld 77 (.own 9 z_.length) [.d (.sl 1 (s.vars.map za3)),.d (.sl 5 (s.bounds.map za0.d)),cI s.init.kind,cPs s.init.r.t.parts,cB s.init.r.t.k.neg,.d (nsl s.init.r.t.k.abs),cB s.init.r.eq,cFs s.init.kids,.d (.sl 3 (s.procs.map za2.d)),.d (.sl 10 (s.acts.map za5.d)),cIs acts,cI ((i+j:Nat):Int)]),(9,.row 5 1 (bw z_))]) (show (((l++za9 [head])++zb3 s acts i xs j):List UInt8)=((l++za9 [head])++zb3 s acts i xs xs.length) from (by rw [show j=xs.length by have:=of_decide_eq_false hc2;omega])))
   replace h:=h.conv (f':=F.of [(0,vp 7 0),(12,q7 xs),(13,vi .i64 (xs.length:Int)),(14,vi .i64 (j:Int)),(15,vb (decide ((j:Int)<(xs.length:Int))))] [(7,.bld 77 (.own 9 ((l++za9 [head])++zb3 s acts i xs xs.length).length) [.d (.sl 1 (s.vars.map za3)),.d (.sl 5 (s.bounds.map za0.d)),cI s.init.kind,cPs s.init.r.t.parts,cB s.init.r.t.k.neg,.d (nsl s.init.r.t.k.abs),cB s.init.r.eq,cFs s.init.kids,.d (.sl 3 (s.procs.map za2.d)),.d (.sl 10 (s.acts.map za5.d)),cIs acts,cI ((i+xs.length:Nat):Int)]),(9,.row 5 1 (bw ((l++za9 [head])++zb3 s acts i xs xs.length)))]) (by rw [show (((i+j:Nat):Int):Int)=((i+xs.length:Nat):Int) from (by have:=of_decide_eq_false hc2;omega)])
   refine zaz [] h Exit.normal (.inr rfl)  rfl trivial ?_
   rfl
theorem pk1_0:zaa Tryd.prog 20:=zaa.mk' (by kernel_rfl)
theorem pk1_3:zaa Tryd.prog 21:=zaa.mk' (by kernel_rfl)
theorem pk1_4:zaa Tryd.prog 22:=zaa.mk' (by kernel_rfl)
def zad (v:Int):ByteArray:=if v=1 then ⟨#[72,79,76,68,83]⟩ else if v=2 then ⟨#[86,73,79,76,65,84,69,68]⟩ else if v=3 then ⟨#[85,78,75,78,79,87,78]⟩ else ⟨#[69,82,82,79,82]⟩
theorem zdl (v:Int):(zad v).size≤8:=by
 unfold zad
 split
 ·decide
 ·split
  ·decide
  ·split
   ·decide
   ·decide
structure RnOk (r:zbo):Prop where
  stem:∀ x ∈ r.stem,StOk 4 x
  cyc:∀ x ∈ r.cycle,StOk 4 x
  len:r.stem.length+r.cycle.length≤10
  acts:r.acts.length≤1000
theorem zb2 (a:ByteArray):(za9 [a]).length=a.size+1:=by rw [zba,baL];simp [zav]
theorem zcd (a b:ByteArray):(za9 [a,b]).length=a.size+b.size+1:=by rw [zba,baL,baL];simp [zav]
def zbg (v:Int) (why:ByteArray):List UInt8:=([]++za9 [zad v])++za9 [⟨#[119,104,121,58,32]⟩,why]
def runW (s:zap) (r:zbo):List UInt8:=(za9 [⟨#[115,116,101,109,58]⟩]++zb3 s r.acts 0 r.stem r.stem.length)++(za9 [⟨#[99,121,99,108,101,58]⟩]++zb3 s r.acts r.stem.length r.cycle r.cycle.length)
def zbs (s:zap) (v:Int) (why:ByteArray) (r:zbo):List UInt8:=if v=2 then zbg v why++runW s r else zbg v why
theorem zcu (v:Int) (why:ByteArray):(zbg v why).length=(zad v).size+why.size+7:=by
 unfold zbg
 rw [List.nil_append,List.length_append,zb2,zcd,show (⟨#[119,104,121,58,32]⟩:ByteArray).size=5 from rfl];omega
theorem txtW_ne {s:zap} {v:Int} {why:ByteArray} {r:zbo}:zbs s v why r≠[]:=by
 intro e
 have h1:=congrArg List.length e
 unfold zbs at h1
 have h2:=zcu v why
 split at h1
 ·rw [List.length_append,List.length_nil] at h1;omega
 ·rw [List.length_nil] at h1;omega
theorem txtW_no {s:zap} {v:Int} {why:ByteArray} {r:zbo} (h:¬ v=2):([]++za9 [zad v])++za9 [⟨#[119,104,121,58,32]⟩,why]=zbs s v why r:=by unfold zbs;rw [if_neg h];rfl
theorem txtW_yes {s:zap} {v:Int} {why:ByteArray} {r:zbo} (h:v=2):(((((([]++za9 [zad v])++za9 [⟨#[119,104,121,58,32]⟩,why])++za9 [⟨#[115,116,101,109,58]⟩])++zb3 s r.acts 0 r.stem r.stem.length))++za9 [⟨#[99,121,99,108,101,58]⟩])++zb3 s r.acts (0+r.stem.length) r.cycle r.cycle.length=zbs s v why r:=by
 unfold zbs zbg runW;rw [if_pos h,Nat.zero_add];simp only [List.append_assoc]
theorem runW_len {s:zap} {r:zbo} (hz:zc2 s) (hl:s.acts.length≤1000000) (hr:RnOk r):(zb3 s r.acts 0 r.stem r.stem.length).length≤430000000∧(zb3 s r.acts r.stem.length r.cycle r.cycle.length).length≤430000000:=by
 have h1:=zc9 hz hl hr.stem r.acts 0 _ (Nat.le_refl _)
 have h2:=zc9 hz hl hr.cyc r.acts r.stem.length _ (Nat.le_refl _)
 have h3:=hr.len
 have h4:r.stem.length*43000000≤10*43000000:=Nat.mul_le_mul_right _ (by omega)
 have h5:r.cycle.length*43000000≤10*43000000:=Nat.mul_le_mul_right _ (by omega)
 exact ⟨by omega,by omega⟩
def wrongL (why:ByteArray) (ln cl:Int) (e:Int):List ByteArray:=[why,⟨#[32]⟩,itW ln,⟨#[58]⟩,itW cl,⟨#[32]⟩,itW e]
def zbc (why:ByteArray) (ln cl:Int) (e:Int):List UInt8:=([]++za9 [zad 4])++za9 (wrongL why ln cl e)
theorem wrongW_ne {why:ByteArray} {ln cl e:Int}:zbc why ln cl e≠[]:=by
 intro h
 have h1:=congrArg List.length h
 unfold zbc at h1
 rw [List.nil_append,List.length_append,zb2,List.length_nil] at h1
 omega
theorem zd9 {n:Int} (h0:-9223372036854775808≤n) (h1:n≤9223372036854775807):(itW n).size≤30:=itW_sz (k:=29) (by have e:(10:Nat) ^ 29=100000000000000000000000000000:=rfl;omega) (by decide)
set_option maxHeartbeats 4000000 in
theorem PName (v:Int) :Fn Tryd.prog 20 [] [vi .i64 v] (vs (zad v)) []:=by
 refine Fn.body Tryd.func20 rfl 10 rfl fun w H B a h=>?_
 refine rq zae 0 [] [(0,vi .i64 v),(2,.t (.c (.d (.raw (.string ByteArray.empty)))))] [] h ?_;clear h;intro a w h
 refine wp_seq (rq zae 0 [] [(2,.t (.c (.d (.raw (.string ByteArray.empty))))),(3,vi .i64 v)] [] h ?_);clear h;intro a w h
 refine wp_block (rq zae 0 [] [(2,.t (.c (.d (.raw (.string ByteArray.empty))))),(3,vi .i64 v),(4,vb (v == 1))] [] h ?_);clear h;intro a w h
 refine zac (v == 1) h rfl (fun hc=>?_) (fun hc=>?_)
 ·have hc1:=hc;clear hc
  have hc1':=hc1;(try simp at hc1')
  refine rq zae 0 [] [(2,.t (.c (.d (.raw (.string (⟨#[72,79,76,68,83]⟩:ByteArray))))))] [] h ?_;clear h;intro a w h
  refine wp_ret (zb4 (zah ?_))
  refine zaz [.c (.d (.raw (.string (⟨#[72,79,76,68,83]⟩:ByteArray))))] h Exit.ret (.inl rfl)  rfl ⟨RV.tmp _ _ rfl,trivial⟩ ?_
  have p1:v=1:=by simpa using hc1
  unfold zad;rw [if_pos p1];first | done | rfl
 ·have hc2:=hc;clear hc
  have hc2':=hc2;(try simp at hc2')
  refine rq zae 0 [] [(2,.t (.c (.d (.raw (.string ByteArray.empty))))),(3,vi .i64 v),(6,vb (v == 2))] [] h ?_;clear h;intro a w h
  refine zac (v == 2) h rfl (fun hc=>?_) (fun hc=>?_)
  ·have hc3:=hc;clear hc
   have hc3':=hc3;(try simp at hc3')
   refine rq zae 0 [] [(2,.t (.c (.d (.raw (.string (⟨#[86,73,79,76,65,84,69,68]⟩:ByteArray))))))] [] h ?_;clear h;intro a w h
   refine wp_ret (zb4 (zah ?_))
   refine zaz [.c (.d (.raw (.string (⟨#[86,73,79,76,65,84,69,68]⟩:ByteArray))))] h Exit.ret (.inl rfl)  rfl ⟨RV.tmp _ _ rfl,trivial⟩ ?_
   have p1:¬ v=1:=by simpa using hc2
   have p2:v=2:=by simpa using hc3
   unfold zad;rw [if_neg p1,if_pos p2];first | done | rfl
  ·have hc4:=hc;clear hc
   have hc4':=hc4;(try simp at hc4')
   refine rq zae 0 [] [(2,.t (.c (.d (.raw (.string ByteArray.empty))))),(8,vb (v == 3))] [] h ?_;clear h;intro a w h
   refine zac (v == 3) h rfl (fun hc=>?_) (fun hc=>?_)
   ·have hc5:=hc;clear hc
    have hc5':=hc5;(try simp at hc5')
    refine rq zae 0 [] [(2,.t (.c (.d (.raw (.string (⟨#[85,78,75,78,79,87,78]⟩:ByteArray))))))] [] h ?_;clear h;intro a w h
    refine wp_ret (zb4 (zah ?_))
    refine zaz [.c (.d (.raw (.string (⟨#[85,78,75,78,79,87,78]⟩:ByteArray))))] h Exit.ret (.inl rfl)  rfl ⟨RV.tmp _ _ rfl,trivial⟩ ?_
    have p1:¬ v=1:=by simpa using hc2
    have p2:¬ v=2:=by simpa using hc4
    have p3:v=3:=by simpa using hc5
    unfold zad;rw [if_neg p1,if_neg p2,if_pos p3];first | done | rfl
   ·have hc6:=hc;clear hc
    have hc6':=hc6;(try simp at hc6')
    refine wp_skip (zai (za4 (rq zae 0 [] [(2,.t (.c (.d (.raw (.string (⟨#[69,82,82,79,82]⟩:ByteArray))))))] [] h ?_)));clear h;intro a w h
    refine wp_ret ?_
    refine zaz [.c (.d (.raw (.string (⟨#[69,82,82,79,82]⟩:ByteArray))))] h Exit.ret (.inl rfl)  rfl ⟨RV.tmp _ _ rfl,trivial⟩ ?_
    have p1:¬ v=1:=by simpa using hc2
    have p2:¬ v=2:=by simpa using hc4
    have p3:¬ v=3:=by simpa using hc6
    unfold zad;rw [if_neg p1,if_neg p2,if_neg p3];first | done | rfl
set_option maxHeartbeats 4000000 in
theorem RName (v:Int) :Fn Tryd.prog 23 [] [vi .i64 v] (vs (zad v)) []:=by
 refine Fn.body Tryd.func23 rfl 10 rfl fun w H B a h=>?_
 refine rq zae 0 [] [(0,vi .i64 v),(2,.t (.c (.d (.raw (.string ByteArray.empty)))))] [] h ?_;clear h;intro a w h
 refine wp_seq (rq zae 0 [] [(2,.t (.c (.d (.raw (.string ByteArray.empty))))),(3,vi .i64 v)] [] h ?_);clear h;intro a w h
 refine wp_block (rq zae 0 [] [(2,.t (.c (.d (.raw (.string ByteArray.empty))))),(3,vi .i64 v),(4,vb (v == 1))] [] h ?_);clear h;intro a w h
 refine zac (v == 1) h rfl (fun hc=>?_) (fun hc=>?_)
 ·have hc1:=hc;clear hc
  have hc1':=hc1;(try simp at hc1')
  refine rq zae 0 [] [(2,.t (.c (.d (.raw (.string (⟨#[72,79,76,68,83]⟩:ByteArray))))))] [] h ?_;clear h;intro a w h
  refine wp_ret (zb4 (zah ?_))
  refine zaz [.c (.d (.raw (.string (⟨#[72,79,76,68,83]⟩:ByteArray))))] h Exit.ret (.inl rfl)  rfl ⟨RV.tmp _ _ rfl,trivial⟩ ?_
  have p1:v=1:=by simpa using hc1
  unfold zad;rw [if_pos p1];first | done | rfl
 ·have hc2:=hc;clear hc
  have hc2':=hc2;(try simp at hc2')
  refine rq zae 0 [] [(2,.t (.c (.d (.raw (.string ByteArray.empty))))),(3,vi .i64 v),(6,vb (v == 2))] [] h ?_;clear h;intro a w h
  refine zac (v == 2) h rfl (fun hc=>?_) (fun hc=>?_)
  ·have hc3:=hc;clear hc
   have hc3':=hc3;(try simp at hc3')
   refine rq zae 0 [] [(2,.t (.c (.d (.raw (.string (⟨#[86,73,79,76,65,84,69,68]⟩:ByteArray))))))] [] h ?_;clear h;intro a w h
   refine wp_ret (zb4 (zah ?_))
   refine zaz [.c (.d (.raw (.string (⟨#[86,73,79,76,65,84,69,68]⟩:ByteArray))))] h Exit.ret (.inl rfl)  rfl ⟨RV.tmp _ _ rfl,trivial⟩ ?_
   have p1:¬ v=1:=by simpa using hc2
   have p2:v=2:=by simpa using hc3
   unfold zad;rw [if_neg p1,if_pos p2];first | done | rfl
  ·have hc4:=hc;clear hc
   have hc4':=hc4;(try simp at hc4')
   refine rq zae 0 [] [(2,.t (.c (.d (.raw (.string ByteArray.empty))))),(8,vb (v == 3))] [] h ?_;clear h;intro a w h
   refine zac (v == 3) h rfl (fun hc=>?_) (fun hc=>?_)
   ·have hc5:=hc;clear hc
    have hc5':=hc5;(try simp at hc5')
    refine rq zae 0 [] [(2,.t (.c (.d (.raw (.string (⟨#[85,78,75,78,79,87,78]⟩:ByteArray))))))] [] h ?_;clear h;intro a w h
    refine wp_ret (zb4 (zah ?_))
    refine zaz [.c (.d (.raw (.string (⟨#[85,78,75,78,79,87,78]⟩:ByteArray))))] h Exit.ret (.inl rfl)  rfl ⟨RV.tmp _ _ rfl,trivial⟩ ?_
    have p1:¬ v=1:=by simpa using hc2
    have p2:¬ v=2:=by simpa using hc4
    have p3:v=3:=by simpa using hc5
    unfold zad;rw [if_neg p1,if_neg p2,if_pos p3];first | done | rfl
   ·have hc6:=hc;clear hc
    have hc6':=hc6;(try simp at hc6')
    refine wp_skip (zai (za4 (rq zae 0 [] [(2,.t (.c (.d (.raw (.string (⟨#[69,82,82,79,82]⟩:ByteArray))))))] [] h ?_)));clear h;intro a w h
    refine wp_ret ?_
    refine zaz [.c (.d (.raw (.string (⟨#[69,82,82,79,82]⟩:ByteArray))))] h Exit.ret (.inl rfl)  rfl ⟨RV.tmp _ _ rfl,trivial⟩ ?_
    have p1:¬ v=1:=by simpa using hc2
    have p2:¬ v=2:=by simpa using hc4
    have p3:¬ v=3:=by simpa using hc6
    unfold zad;rw [if_neg p1,if_neg p2,if_neg p3];first | done | rfl
abbrev q8 (v:Int) (why:ByteArray) (s:zap) (r:zbo):L:=.bld 77 (.own 9 (([]++za9 [(zad v)])++za9 [(⟨#[119,104,121,58,32]⟩:ByteArray),why]).length) [.d (.sl 1 (s.vars.map za3)),.d (.sl 5 (s.bounds.map za0.d)),cI s.init.kind,cPs s.init.r.t.parts,cB s.init.r.t.k.neg,.d (nsl s.init.r.t.k.abs),cB s.init.r.eq,cFs s.init.kids,.d (.sl 3 (s.procs.map za2.d)),.d (.sl 10 (s.acts.map za5.d)),cIs r.acts,cI 0]
abbrev q9 (v:Int) (why:ByteArray) (s:zap) (r:zbo):L:=.bld 77 (.own 8 (([]++za9 [(zad v)])++za9 [(⟨#[119,104,121,58,32]⟩:ByteArray),why]).length) [.d (.sl 1 (s.vars.map za3)),.d (.sl 5 (s.bounds.map za0.d)),cI s.init.kind,cPs s.init.r.t.parts,cB s.init.r.t.k.neg,.d (nsl s.init.r.t.k.abs),cB s.init.r.eq,cFs s.init.kids,.d (.sl 3 (s.procs.map za2.d)),.d (.sl 10 (s.acts.map za5.d)),cIs r.acts,cI 0]
abbrev q10 (v:Int) (why:ByteArray) (s:zap) (r:zbo):L:=.row 5 1 (bw (((((([]++za9 [(zad v)])++za9 [(⟨#[119,104,121,58,32]⟩:ByteArray),why])++za9 [(⟨#[115,116,101,109,58]⟩:ByteArray)])++zb3 s r.acts 0 r.stem r.stem.length)++za9 [(⟨#[99,121,99,108,101,58]⟩:ByteArray)])++zb3 s r.acts (0+r.stem.length) r.cycle r.cycle.length))
abbrev q11 (v:Int) (why:ByteArray) (s:zap) (r:zbo):L:=.row 5 1 (bw (((([]++za9 [(zad v)])++za9 [(⟨#[119,104,121,58,32]⟩:ByteArray),why])++za9 [(⟨#[115,116,101,109,58]⟩:ByteArray)])++zb3 s r.acts 0 r.stem r.stem.length))
abbrev q12 (v:Int) (why:ByteArray) (r:zbo) (rd:Int) (lf:Int):L:=.box [cI v,.d (.raw (.string why)),.d (.sl 2 (r.stem.map StD.d)),.d (.sl 2 (r.cycle.map StD.d)),cIs r.acts,cI rd,cI lf]
abbrev q13 (v:Int) (why:ByteArray):L:=.row 5 1 (bw (([]++za9 [(zad v)])++za9 [(⟨#[119,104,121,58,32]⟩:ByteArray),why]))
abbrev q14:V:=.t (.c (.d (.raw (.string ByteArray.empty))))
set_option maxHeartbeats 4000000 in
theorem PText (s:zap) (v:Int) (why:ByteArray) (r:zbo) (rd lf:Int) (hz:zc2 s) (hla:s.acts.length≤1000000) (hr:RnOk r) (hw:why.size≤1048576):Fn Tryd.prog 8 [] [.t (.agg [.d (.sl 1 (s.vars.map za3)),.d (.sl 5 (s.bounds.map za0.d)),cI s.init.kind,cPs s.init.r.t.parts,cB s.init.r.t.k.neg,.d (nsl s.init.r.t.k.abs),cB s.init.r.eq,cFs s.init.kids,.d (.sl 3 (s.procs.map za2.d)),.d (.sl 10 (s.acts.map za5.d))]),.t (.agg [cI v,.d (.raw (.string why)),.d (.sl 2 (r.stem.map StD.d)),.d (.sl 2 (r.cycle.map StD.d)),cIs r.acts,cI rd,cI lf])] (vs ⟨(zbs s v why r).toArray⟩) []:=by
 have lwy:(⟨#[119,104,121,58,32]⟩:ByteArray).size=5:=rfl
 have lst:(⟨#[115,116,101,109,58]⟩:ByteArray).size=5:=rfl
 have lnm:=zdl v
 have lrw:=runW_len hz hla hr
 have lrl:=hr.len
 refine Fn.body Tryd.func8 rfl 40 rfl fun w H B a h=>?_
 refine rq zae 30 [] [(2,vp 30 0),(3,vp 31 0),(4,q14)] [(30,.box [.d (.sl 1 (s.vars.map za3)),.d (.sl 5 (s.bounds.map za0.d)),cI s.init.kind,cPs s.init.r.t.parts,cB s.init.r.t.k.neg,.d (nsl s.init.r.t.k.abs),cB s.init.r.eq,cFs s.init.kids,.d (.sl 3 (s.procs.map za2.d)),.d (.sl 10 (s.acts.map za5.d))]),(31,q12 v why r rd lf)] h ?_;clear h;intro a w h
 refine rq zae 32 [(5,.gen _ _ _ fun _ _ _ _=>Op.boxB (d:=11) 7 8 (by decide) 5 (T:=77) (rest:=[.d (.sl 1 (s.vars.map za3)),.d (.sl 5 (s.bounds.map za0.d)),cI s.init.kind,cPs s.init.r.t.parts,cB s.init.r.t.k.neg,.d (nsl s.init.r.t.k.abs),cB s.init.r.eq,cFs s.init.kids,.d (.sl 3 (s.procs.map za2.d)),.d (.sl 10 (s.acts.map za5.d)),cIs r.acts,cI 0]) (ds:=[.sl 1 (s.vars.map za3),.sl 5 (s.bounds.map za0.d),.raw (.int .i64 s.init.kind),.sl 3 (s.init.r.t.parts.map zdd.d),.raw (.bool s.init.r.t.k.neg),nsl s.init.r.t.k.abs,.raw (.bool s.init.r.eq),.sl 6 (s.init.kids.map zab.d),.sl 3 (s.procs.map za2.d),.sl 10 (s.acts.map za5.d),.sl 1 (r.acts.map zdg),.raw (.int .i64 0)]) (.agg [.d (.raw (.pointer none)),.d (.raw za6),.d (.sl 1 (s.vars.map za3)),.d (.sl 5 (s.bounds.map za0.d)),cI s.init.kind,cPs s.init.r.t.parts,cB s.init.r.t.k.neg,.d (nsl s.init.r.t.k.abs),cB s.init.r.eq,cFs s.init.kids,.d (.sl 3 (s.procs.map za2.d)),.d (.sl 10 (s.acts.map za5.d)),cIs r.acts,cI 0]) (OV.tmp 10 _) rfl rfl)] [(3,vp 31 0),(4,q14),(5,vp 7 0)] [(31,q12 v why r rd lf),(7,.bld 77 (.own 8 0) [.d (.sl 1 (s.vars.map za3)),.d (.sl 5 (s.bounds.map za0.d)),cI s.init.kind,cPs s.init.r.t.parts,cB s.init.r.t.k.neg,.d (nsl s.init.r.t.k.abs),cB s.init.r.eq,cFs s.init.kids,.d (.sl 3 (s.procs.map za2.d)),.d (.sl 10 (s.acts.map za5.d)),cIs r.acts,cI 0]),(8,.row 5 1 (bw []))] h ?_;clear h;intro a w h
 refine rq zae 32 [(3,.call (PName v) pk1_0),(4,.gen _ _ _ fun _ _ _ _=>Op.buildD (d:=16) (len:=1) (rows:=[(zad v)].map za3) (rs:=[(15,.t (.c (.d (.raw (.string (zad v))))))]) zd5 (.cons (i:=0) (OV.tmp 15 _) (.nil)) (by kernel_rfl) rfl (by simp [za3]) (by decide) (by decide)),(5,.call (WLineA (.sl 1 (s.vars.map za3)) (.sl 5 (s.bounds.map za0.d)) (.raw (.int .i64 s.init.kind)) (.sl 3 (s.init.r.t.parts.map zdd.d)) (.raw (.bool s.init.r.t.k.neg)) (nsl s.init.r.t.k.abs) (.raw (.bool s.init.r.eq)) (.sl 6 (s.init.kids.map zab.d)) (.sl 3 (s.procs.map za2.d)) (.sl 10 (s.acts.map za5.d)) (.sl 1 (r.acts.map zdg)) (.raw (.int .i64 0)) [] [(zad v)] (by simp only [zb2,List.length_nil];omega) (by simp)) pj1_4)] [(3,vp 31 0),(4,q14),(5,vp 7 0)] [(31,q12 v why r rd lf),(7,.bld 77 (.own 9 ([]++za9 [(zad v)]).length) [.d (.sl 1 (s.vars.map za3)),.d (.sl 5 (s.bounds.map za0.d)),cI s.init.kind,cPs s.init.r.t.parts,cB s.init.r.t.k.neg,.d (nsl s.init.r.t.k.abs),cB s.init.r.eq,cFs s.init.kids,.d (.sl 3 (s.procs.map za2.d)),.d (.sl 10 (s.acts.map za5.d)),cIs r.acts,cI 0]),(9,.row 5 1 (bw ([]++za9 [(zad v)])))] h ?_;clear h;intro a w h
 replace h:=renS 9 8 [(3,vp 31 0),(4,q14),(5,vp 7 0)] [(31,q12 v why r rd lf),(7,.bld 77 (.own 8 ([]++za9 [(zad v)]).length) [.d (.sl 1 (s.vars.map za3)),.d (.sl 5 (s.bounds.map za0.d)),cI s.init.kind,cPs s.init.r.t.parts,cB s.init.r.t.k.neg,.d (nsl s.init.r.t.k.abs),cB s.init.r.eq,cFs s.init.kids,.d (.sl 3 (s.procs.map za2.d)),.d (.sl 10 (s.acts.map za5.d)),cIs r.acts,cI 0]),(8,.row 5 1 (bw ([]++za9 [(zad v)])))] h
 refine rq zae 32 [(3,.gen _ _ _ fun _ _ _ _=>Op.buildD (d:=21) (len:=2) (rows:=[(⟨#[119,104,121,58,32]⟩:ByteArray),why].map za3) (rs:=[(20,.t (.c (.d (.raw (.string why)))))]) zd5 (.cons (i:=0) (OV.const (.string (⟨#[119,104,121,58,32]⟩:ByteArray)) rfl) (.cons (i:=1) (OV.tmp 20 _) (.nil))) (by kernel_rfl) rfl (by simp [za3]) (by decide) (by decide)),(4,.call (WLineA (.sl 1 (s.vars.map za3)) (.sl 5 (s.bounds.map za0.d)) (.raw (.int .i64 s.init.kind)) (.sl 3 (s.init.r.t.parts.map zdd.d)) (.raw (.bool s.init.r.t.k.neg)) (nsl s.init.r.t.k.abs) (.raw (.bool s.init.r.eq)) (.sl 6 (s.init.kids.map zab.d)) (.sl 3 (s.procs.map za2.d)) (.sl 10 (s.acts.map za5.d)) (.sl 1 (r.acts.map zdg)) (.raw (.int .i64 0)) ([]++za9 [(zad v)]) [(⟨#[119,104,121,58,32]⟩:ByteArray),why] (by simp only [List.nil_append,zb2,zcd];omega) (by simp)) pj1_4)] [(3,vp 31 0),(4,q14),(5,vp 7 0)] [(31,q12 v why r rd lf),(7,q8 v why s r),(9,q13 v why)] h ?_;clear h;intro a w h
 refine wp_seq (rq zae 32 [] [(3,vp 31 0),(4,q14),(5,vp 7 0),(25,vb (v == 2))] [(31,q12 v why r rd lf),(7,q8 v why s r),(9,q13 v why)] h ?_);clear h;intro a w h
 refine zac (v == 2) h rfl (fun hc=>?_) (fun hc=>?_)
 ·have hc1:=hc;clear hc
  have hc1':=hc1;(try simp at hc1')
  replace h:=renS 9 8 [(3,vp 31 0),(4,q14),(5,vp 7 0),(25,vb (v == 2))] [(31,q12 v why r rd lf),(7,q9 v why s r),(8,q13 v why)] h
  refine rq zae 32 [(4,.call (WStates s r.acts 0 (([]++za9 [(zad v)])++za9 [(⟨#[119,104,121,58,32]⟩:ByteArray),why]) (⟨#[115,116,101,109,58]⟩:ByteArray) r.stem hz hla hr.stem (by omega) (by omega) (by simp only [List.nil_append,List.length_append,zb2,zcd];omega) (by decide)) pk1_3)] [(3,vp 31 0),(4,q14),(5,vp 7 0)] [(31,q12 v why r rd lf),(7,.bld 77 (.own 9 (((([]++za9 [(zad v)])++za9 [(⟨#[119,104,121,58,32]⟩:ByteArray),why])++za9 [(⟨#[115,116,101,109,58]⟩:ByteArray)])++zb3 s r.acts 0 r.stem r.stem.length).length) [.d (.sl 1 (s.vars.map za3)),.d (.sl 5 (s.bounds.map za0.d)),cI s.init.kind,cPs s.init.r.t.parts,cB s.init.r.t.k.neg,.d (nsl s.init.r.t.k.abs),cB s.init.r.eq,cFs s.init.kids,.d (.sl 3 (s.procs.map za2.d)),.d (.sl 10 (s.acts.map za5.d)),cIs r.acts,cI ((0+r.stem.length:Nat):Int)]),(9,q11 v why s r)] h ?_;clear h;intro a w h
  replace h:=renS 9 8 [(3,vp 31 0),(4,q14),(5,vp 7 0)] [(31,q12 v why r rd lf),(7,.bld 77 (.own 8 (((([]++za9 [(zad v)])++za9 [(⟨#[119,104,121,58,32]⟩:ByteArray),why])++za9 [(⟨#[115,116,101,109,58]⟩:ByteArray)])++zb3 s r.acts 0 r.stem r.stem.length).length) [.d (.sl 1 (s.vars.map za3)),.d (.sl 5 (s.bounds.map za0.d)),cI s.init.kind,cPs s.init.r.t.parts,cB s.init.r.t.k.neg,.d (nsl s.init.r.t.k.abs),cB s.init.r.eq,cFs s.init.kids,.d (.sl 3 (s.procs.map za2.d)),.d (.sl 10 (s.acts.map za5.d)),cIs r.acts,cI ((0+r.stem.length:Nat):Int)]),(8,q11 v why s r)] h
  refine rn zae 32 [(4,.call (WStates s r.acts (0+r.stem.length) (((([]++za9 [(zad v)])++za9 [(⟨#[119,104,121,58,32]⟩:ByteArray),why])++za9 [(⟨#[115,116,101,109,58]⟩:ByteArray)])++zb3 s r.acts 0 r.stem r.stem.length) (⟨#[99,121,99,108,101,58]⟩:ByteArray) r.cycle hz hla hr.cyc (by omega) (by omega) (by simp only [List.nil_append,List.length_append,zb2,zcd];omega) (by decide)) pk1_3)] [(4,q14),(5,vp 7 0)] [(7,.bld 77 (.own 9 (((((([]++za9 [(zad v)])++za9 [(⟨#[119,104,121,58,32]⟩:ByteArray),why])++za9 [(⟨#[115,116,101,109,58]⟩:ByteArray)])++zb3 s r.acts 0 r.stem r.stem.length)++za9 [(⟨#[99,121,99,108,101,58]⟩:ByteArray)])++zb3 s r.acts (0+r.stem.length) r.cycle r.cycle.length).length) [.d (.sl 1 (s.vars.map za3)),.d (.sl 5 (s.bounds.map za0.d)),cI s.init.kind,cPs s.init.r.t.parts,cB s.init.r.t.k.neg,.d (nsl s.init.r.t.k.abs),cB s.init.r.eq,cFs s.init.kids,.d (.sl 3 (s.procs.map za2.d)),.d (.sl 10 (s.acts.map za5.d)),cIs r.acts,cI ((0+r.stem.length+r.cycle.length:Nat):Int)]),(9,q10 v why s r)] h ?_;clear h;intro a w h
  refine za4 ?_
  replace h:=renS 9 8 [(4,q14),(5,vp 7 0)] [(7,.bld 77 (.own 8 (((((([]++za9 [(zad v)])++za9 [(⟨#[119,104,121,58,32]⟩:ByteArray),why])++za9 [(⟨#[115,116,101,109,58]⟩:ByteArray)])++zb3 s r.acts 0 r.stem r.stem.length)++za9 [(⟨#[99,121,99,108,101,58]⟩:ByteArray)])++zb3 s r.acts (0+r.stem.length) r.cycle r.cycle.length).length) [.d (.sl 1 (s.vars.map za3)),.d (.sl 5 (s.bounds.map za0.d)),cI s.init.kind,cPs s.init.r.t.parts,cB s.init.r.t.k.neg,.d (nsl s.init.r.t.k.abs),cB s.init.r.eq,cFs s.init.kids,.d (.sl 3 (s.procs.map za2.d)),.d (.sl 10 (s.acts.map za5.d)),cIs r.acts,cI ((0+r.stem.length+r.cycle.length:Nat):Int)]),(8,q10 v why s r)] h
  replace h:=h.conv (f':=F.of [(4,q14),(5,vp 7 0)] [(7,.bld 77 (.own 8 (zbs s v why r).length) [.d (.sl 1 (s.vars.map za3)),.d (.sl 5 (s.bounds.map za0.d)),cI s.init.kind,cPs s.init.r.t.parts,cB s.init.r.t.k.neg,.d (nsl s.init.r.t.k.abs),cB s.init.r.eq,cFs s.init.kids,.d (.sl 3 (s.procs.map za2.d)),.d (.sl 10 (s.acts.map za5.d)),cIs r.acts,cI ((0+r.stem.length+r.cycle.length:Nat):Int)]),(8,.row 5 1 (bw (zbs s v why r)))]) (congrArg (fun (z_:List UInt8)=>F.of [(4,q14),(5,vp 7 0)] [(7,.bld 77 (.own 8 z_.length) [.d (.sl 1 (s.vars.map za3)),.d (.sl 5 (s.bounds.map za0.d)),cI s.init.kind,cPs s.init.r.t.parts,cB s.init.r.t.k.neg,.d (nsl s.init.r.t.k.abs),cB s.init.r.eq,cFs s.init.kids,.d (.sl 3 (s.procs.map za2.d)),.d (.sl 10 (s.acts.map za5.d)),cIs r.acts,cI ((0+r.stem.length+r.cycle.length:Nat):Int)]),(8,.row 5 1 (bw z_))]) (show ((((((([]++za9 [(zad v)])++za9 [(⟨#[119,104,121,58,32]⟩:ByteArray),why])++za9 [(⟨#[115,116,101,109,58]⟩:ByteArray)])++zb3 s r.acts 0 r.stem r.stem.length)++za9 [(⟨#[99,121,99,108,101,58]⟩:ByteArray)])++zb3 s r.acts (0+r.stem.length) r.cycle r.cycle.length):List UInt8)=(zbs s v why r) from (txtW_yes (by simpa using hc1))))
  refine rq zae 32 [(1,.gen _ _ _ fun _ _ _ _=>Op.nilP (d:=37) (t:=36) (n:=7) (o:=0)),(3,.call (WrString [.sl 1 (s.vars.map za3),.sl 5 (s.bounds.map za0.d),.raw (.int .i64 s.init.kind),.sl 3 (s.init.r.t.parts.map zdd.d),.raw (.bool s.init.r.t.k.neg),nsl s.init.r.t.k.abs,.raw (.bool s.init.r.eq),.sl 6 (s.init.kids.map zab.d),.sl 3 (s.procs.map za2.d),.sl 10 (s.acts.map za5.d),.sl 1 (r.acts.map zdg),.raw (.int .i64 ((0+r.stem.length+r.cycle.length:Nat):Int))] 8 (by decide) (zbs s v why r) txtW_ne) pk1_4)] [(4,.t (.c (.d (.raw (.string (⟨(zbs s v why r).toArray⟩:ByteArray))))))] [] h ?_;clear h;intro a w h
  refine wp_ret ?_
  refine zaz [.c (.d (.raw (.string (⟨(zbs s v why r).toArray⟩:ByteArray))))] h Exit.ret (.inl rfl)  rfl ⟨RV.tmp _ _ rfl,trivial⟩ ?_
  rfl
 ·have hc2:=hc;clear hc
  have hc2':=hc2;(try simp at hc2')
  refine wp_skip (za4 ?_)
  replace h:=renS 9 8 [(3,vp 31 0),(4,q14),(5,vp 7 0),(25,vb (v == 2))] [(31,q12 v why r rd lf),(7,q9 v why s r),(8,q13 v why)] h
  replace h:=h.conv (f':=F.of [(3,vp 31 0),(4,q14),(5,vp 7 0),(25,vb (v == 2))] [(31,q12 v why r rd lf),(7,.bld 77 (.own 8 (zbs s v why r).length) [.d (.sl 1 (s.vars.map za3)),.d (.sl 5 (s.bounds.map za0.d)),cI s.init.kind,cPs s.init.r.t.parts,cB s.init.r.t.k.neg,.d (nsl s.init.r.t.k.abs),cB s.init.r.eq,cFs s.init.kids,.d (.sl 3 (s.procs.map za2.d)),.d (.sl 10 (s.acts.map za5.d)),cIs r.acts,cI 0]),(8,.row 5 1 (bw (zbs s v why r)))]) (congrArg (fun (z_:List UInt8)=>F.of [(3,vp 31 0),(4,q14),(5,vp 7 0),(25,vb (v == 2))] [(31,q12 v why r rd lf),(7,.bld 77 (.own 8 z_.length) [.d (.sl 1 (s.vars.map za3)),.d (.sl 5 (s.bounds.map za0.d)),cI s.init.kind,cPs s.init.r.t.parts,cB s.init.r.t.k.neg,.d (nsl s.init.r.t.k.abs),cB s.init.r.eq,cFs s.init.kids,.d (.sl 3 (s.procs.map za2.d)),.d (.sl 10 (s.acts.map za5.d)),cIs r.acts,cI 0]),(8,.row 5 1 (bw z_))]) (show ((([]++za9 [(zad v)])++za9 [(⟨#[119,104,121,58,32]⟩:ByteArray),why]):List UInt8)=(zbs s v why r) from (txtW_no (by simpa using hc2))))
  refine rq zae 32 [(1,.gen _ _ _ fun _ _ _ _=>Op.nilP (d:=37) (t:=36) (n:=7) (o:=0)),(3,.call (WrString [.sl 1 (s.vars.map za3),.sl 5 (s.bounds.map za0.d),.raw (.int .i64 s.init.kind),.sl 3 (s.init.r.t.parts.map zdd.d),.raw (.bool s.init.r.t.k.neg),nsl s.init.r.t.k.abs,.raw (.bool s.init.r.eq),.sl 6 (s.init.kids.map zab.d),.sl 3 (s.procs.map za2.d),.sl 10 (s.acts.map za5.d),.sl 1 (r.acts.map zdg),.raw (.int .i64 0)] 8 (by decide) (zbs s v why r) txtW_ne) pk1_4)] [(4,.t (.c (.d (.raw (.string (⟨(zbs s v why r).toArray⟩:ByteArray))))))] [] h ?_;clear h;intro a w h
  refine wp_ret ?_
  refine zaz [.c (.d (.raw (.string (⟨(zbs s v why r).toArray⟩:ByteArray))))] h Exit.ret (.inl rfl)  rfl ⟨RV.tmp _ _ rfl,trivial⟩ ?_
  rfl
abbrev q15 (why:ByteArray) (ln:Int) (cl:Int) (e:Int):L:=.row 5 1 (bw (([]++za9 [(zad 4)])++za9 [why,(⟨#[32]⟩:ByteArray),(itW ln),(⟨#[58]⟩:ByteArray),(itW cl),(⟨#[32]⟩:ByteArray),(itW e)]))
abbrev q16:V:=.t (.c (.d (.raw (.string ByteArray.empty))))
set_option maxHeartbeats 4000000 in
theorem PWrong (why:ByteArray) (ln cl e:Int) (hw:why.size≤1048576) (hln:-9223372036854775808≤ln∧ln≤9223372036854775807) (hcl:-9223372036854775808≤cl∧cl≤9223372036854775807) (he:-9223372036854775808≤e∧e≤9223372036854775807):Fn Tryd.prog 10 [] [.t (.c (.d (.raw (.string why)))),.t (.agg [cI ln,cI cl]),vi .i64 e] (vs ⟨(zbc why ln cl e).toArray⟩) []:=by
 have ls1:(⟨#[32]⟩:ByteArray).size=1:=rfl
 have ls2:(⟨#[58]⟩:ByteArray).size=1:=rfl
 have lnm:=zdl 4
 have li1:=zd9 hln.1 hln.2
 have li2:=zd9 hcl.1 hcl.2
 have li3:=zd9 he.1 he.2
 refine Fn.body Tryd.func10 rfl 30 rfl fun w H B a h=>?_
 refine rq zae 30 [] [(0,.t (.c (.d (.raw (.string why))))),(2,vi .i64 e),(4,vp 30 0),(6,q16)] [(30,.box [cI ln,cI cl])] h ?_;clear h;intro a w h
 refine rq zae 31 [(1,.gen _ _ _ fun _ _ _ _=>Op.boxB (d:=9) 7 8 (by decide) 5 (T:=77) (rest:=[.d (.raw za6),.d (.raw za6),cI 0,.d (.raw za6),cB false,.d (nsl []),cB false,.d (.raw za6),.d (.raw za6),.d (.raw za6),.d (.raw za6),cI 0]) (ds:=[.raw za6,.raw za6,.raw (.int .i64 0),.raw za6,.raw (.bool false),nsl [],.raw (.bool false),.raw za6,.raw za6,.raw za6,.raw za6,.raw (.int .i64 0)]) (.agg [.d (.raw (.pointer none)),.d (.raw za6),.d (.raw za6),.d (.raw za6),cI 0,.d (.raw za6),cB false,.d (nsl []),cB false,.d (.raw za6),.d (.raw za6),.d (.raw za6),.d (.raw za6),cI 0]) (OV.tmp 8 _) rfl rfl)] [(0,.t (.c (.d (.raw (.string why))))),(2,vi .i64 e),(4,vp 30 0),(6,q16),(7,vp 7 0)] [(30,.box [cI ln,cI cl]),(7,.bld 77 (.own 8 0) [.d (.raw za6),.d (.raw za6),cI 0,.d (.raw za6),cB false,.d (nsl []),cB false,.d (.raw za6),.d (.raw za6),.d (.raw za6),.d (.raw za6),cI 0]),(8,.row 5 1 (bw []))] h ?_;clear h;intro a w h
 refine rq zae 31 [(1,.call (PName 4) pk1_0),(2,.gen _ _ _ fun _ _ _ _=>Op.buildD (d:=12) (len:=1) (rows:=[(zad 4)].map za3) (rs:=[(11,.t (.c (.d (.raw (.string (zad 4))))))]) zd5 (.cons (i:=0) (OV.tmp 11 _) (.nil)) (by kernel_rfl) rfl (by simp [za3]) (by decide) (by decide)),(3,.call (WLineA (.raw za6) (.raw za6) (.raw (.int .i64 0)) (.raw za6) (.raw (.bool false)) (nsl []) (.raw (.bool false)) (.raw za6) (.raw za6) (.raw za6) (.raw za6) (.raw (.int .i64 0)) [] [(zad 4)] (by simp only [List.length_append,zba,zav,List.flatMap_cons,List.flatMap_nil,List.length_nil,← baL];omega) (by simp)) pj1_4)] [(0,.t (.c (.d (.raw (.string why))))),(2,vi .i64 e),(4,vp 30 0),(6,q16),(7,vp 7 0)] [(30,.box [cI ln,cI cl]),(7,.bld 77 (.own 9 ([]++za9 [(zad 4)]).length) [.d (.raw za6),.d (.raw za6),cI 0,.d (.raw za6),cB false,.d (nsl []),cB false,.d (.raw za6),.d (.raw za6),.d (.raw za6),.d (.raw za6),cI 0]),(9,.row 5 1 (bw ([]++za9 [(zad 4)])))] h ?_;clear h;intro a w h
 replace h:=renS 9 8 [(0,.t (.c (.d (.raw (.string why))))),(2,vi .i64 e),(4,vp 30 0),(6,q16),(7,vp 7 0)] [(30,.box [cI ln,cI cl]),(7,.bld 77 (.own 8 ([]++za9 [(zad 4)]).length) [.d (.raw za6),.d (.raw za6),cI 0,.d (.raw za6),cB false,.d (nsl []),cB false,.d (.raw za6),.d (.raw za6),.d (.raw za6),.d (.raw za6),cI 0]),(8,.row 5 1 (bw ([]++za9 [(zad 4)])))] h
 refine rq zae 31 [(4,.call (zc7 ln hln.1 hln.2) pe1_3),(7,.call (zc7 cl hcl.1 hcl.2) pe1_3),(9,.call (zc7 e he.1 he.2) pe1_3),(10,.gen _ _ _ fun _ _ _ _=>Op.buildD (d:=24) (len:=7) (rows:=[why,(⟨#[32]⟩:ByteArray),(itW ln),(⟨#[58]⟩:ByteArray),(itW cl),(⟨#[32]⟩:ByteArray),(itW e)].map za3) (rs:=[(15,.t (.c (.d (.raw (.string why))))),(18,.t (.c (.d (.raw (.string (itW ln)))))),(21,.t (.c (.d (.raw (.string (itW cl)))))),(23,.t (.c (.d (.raw (.string (itW e))))))]) zd5 (.cons (i:=0) (OV.tmp 15 _) (.cons (i:=1) (OV.const (.string (⟨#[32]⟩:ByteArray)) rfl) (.cons (i:=2) (OV.tmp 18 _) (.cons (i:=3) (OV.const (.string (⟨#[58]⟩:ByteArray)) rfl) (.cons (i:=4) (OV.tmp 21 _) (.cons (i:=5) (OV.const (.string (⟨#[32]⟩:ByteArray)) rfl) (.cons (i:=6) (OV.tmp 23 _) (.nil)))))))) (by kernel_rfl) rfl (by simp [za3]) (by decide) (by decide)),(11,.call (WLineA (.raw za6) (.raw za6) (.raw (.int .i64 0)) (.raw za6) (.raw (.bool false)) (nsl []) (.raw (.bool false)) (.raw za6) (.raw za6) (.raw za6) (.raw za6) (.raw (.int .i64 0)) ([]++za9 [(zad 4)]) [why,(⟨#[32]⟩:ByteArray),(itW ln),(⟨#[58]⟩:ByteArray),(itW cl),(⟨#[32]⟩:ByteArray),(itW e)] (by simp only [List.nil_append,List.length_append,zba,zav,List.flatMap_cons,List.flatMap_nil,List.length_nil,← baL,List.length_cons];omega) (by simp)) pj1_4)] [(6,q16),(7,vp 7 0)] [(7,.bld 77 (.own 9 (([]++za9 [(zad 4)])++za9 [why,(⟨#[32]⟩:ByteArray),(itW ln),(⟨#[58]⟩:ByteArray),(itW cl),(⟨#[32]⟩:ByteArray),(itW e)]).length) [.d (.raw za6),.d (.raw za6),cI 0,.d (.raw za6),cB false,.d (nsl []),cB false,.d (.raw za6),.d (.raw za6),.d (.raw za6),.d (.raw za6),cI 0]),(9,q15 why ln cl e)] h ?_;clear h;intro a w h
 replace h:=renS 9 8 [(6,q16),(7,vp 7 0)] [(7,.bld 77 (.own 8 (([]++za9 [(zad 4)])++za9 [why,(⟨#[32]⟩:ByteArray),(itW ln),(⟨#[58]⟩:ByteArray),(itW cl),(⟨#[32]⟩:ByteArray),(itW e)]).length) [.d (.raw za6),.d (.raw za6),cI 0,.d (.raw za6),cB false,.d (nsl []),cB false,.d (.raw za6),.d (.raw za6),.d (.raw za6),.d (.raw za6),cI 0]),(8,q15 why ln cl e)] h
 replace h:=h.conv (f':=F.of [(6,q16),(7,vp 7 0)] [(7,.bld 77 (.own 8 (zbc why ln cl e).length) [.d (.raw za6),.d (.raw za6),cI 0,.d (.raw za6),cB false,.d (nsl []),cB false,.d (.raw za6),.d (.raw za6),.d (.raw za6),.d (.raw za6),cI 0]),(8,.row 5 1 (bw (zbc why ln cl e)))]) (congrArg (fun (z_:List UInt8)=>F.of [(6,q16),(7,vp 7 0)] [(7,.bld 77 (.own 8 z_.length) [.d (.raw za6),.d (.raw za6),cI 0,.d (.raw za6),cB false,.d (nsl []),cB false,.d (.raw za6),.d (.raw za6),.d (.raw za6),.d (.raw za6),cI 0]),(8,.row 5 1 (bw z_))]) (show ((([]++za9 [(zad 4)])++za9 [why,(⟨#[32]⟩:ByteArray),(itW ln),(⟨#[58]⟩:ByteArray),(itW cl),(⟨#[32]⟩:ByteArray),(itW e)]):List UInt8)=(zbc why ln cl e) from rfl))
 refine rq zae 31 [(1,.gen _ _ _ fun _ _ _ _=>Op.nilP (d:=27) (t:=26) (n:=7) (o:=0)),(3,.call (WrString [.raw za6,.raw za6,.raw (.int .i64 0),.raw za6,.raw (.bool false),nsl [],.raw (.bool false),.raw za6,.raw za6,.raw za6,.raw za6,.raw (.int .i64 0)] 8 (by decide) (zbc why ln cl e) wrongW_ne) pk1_4)] [(6,.t (.c (.d (.raw (.string (⟨(zbc why ln cl e).toArray⟩:ByteArray))))))] [] h ?_;clear h;intro a w h
 refine wp_ret ?_
 refine zaz [.c (.d (.raw (.string (⟨(zbc why ln cl e).toArray⟩:ByteArray))))] h Exit.ret (.inl rfl)  rfl ⟨RV.tmp _ _ rfl,trivial⟩ ?_
 rfl
end S
end Go.Proofs.YtlfebjeoeijlfaaDoor
