/-
  Part 2 of the proof of the statement ReportBack: the walk through the program and the references lifted to the given row. It holds for every input.
-/
import Derived.Test.YtlfebjeoeijlfaaDoorRB1
import Derived.Shelf.Small.Bits
import Derived.Test.YtlfebjeoeijlfaaDoorProg
import Derived.Laws.Bits64b
import Derived.Deep.RegionWith
import Derived.Deep.LoopGhost
import Derived.Laws.Strings
import Derived.Laws.MakeOwn
import Derived.Shelf.Small.Wraps
import Derived.Shelf.Strings.Prefix
import Derived.Shelf.Strings.Builder1
import Derived.Shelf.Strconv.Itoa3
import Derived.Lib.ItoaNum
set_option maxRecDepth 100000
open Go.RowKit
namespace Go.Proofs.YtlfebjeoeijlfaaDoor
namespace S
theorem tl_7:Sz Tryd.prog 3 1 false:=Sz.mk' (by kernel_rfl) Tryd.underlying3 _ rfl
section
variable {P:Program}
theorem Oper.wp_imp {o:Oper} {a:Act} {w:World} {R R':Act→World→Prop} {Q:Exit→Act→World→Prop} (h:Oper.wp P o a w R Q) (hi:∀ a w,R a w→R' a w):Oper.wp P o a w R' Q:=by
 exact Go.Oper.wp_mono hi h
end
end S
end Go.Proofs.YtlfebjeoeijlfaaDoor
section
namespace Go.Proofs
open Go.Shelf
end Go.Proofs
end
namespace Go.Proofs.YtlfebjeoeijlfaaDoor
def bl (x:Nat):Nat:=Lib.bitLen x
/-! ### windows -/
def ch (s:ByteArray) (i:Nat):Nat:=(s.data.toList.map UInt8.toNat).getD i 0
def isd (s:ByteArray) (i:Nat):Prop:=48≤ch s i∧ch s i≤57
def alld (s:ByteArray) (k:Nat):Prop:=∀ i,i<k→isd s i
instance (s:ByteArray) (i:Nat):Decidable (isd s i):=inferInstanceAs (Decidable (_∧_))
instance (s:ByteArray) (k:Nat):Decidable (alld s k):=Nat.decidableBallLT k (fun i _=>isd s i)
/-! ### texts -/
def bytes (s:ByteArray):List Nat:=s.data.toList.map UInt8.toNat
theorem bytes_length (s:ByteArray):(bytes s).length=s.size:=by simp [bytes]
theorem bytes_inj {s t:ByteArray} (h:bytes s=bytes t):s=t:=by
 apply ByteArray.ext
 apply Array.toList_inj.1
 unfold bytes at h
 have h2:=congrArg (fun l=>l.map UInt8.ofNat) h
 simpa [List.map_map,Function.comp_def] using h2
def dvl (l:List Nat):Nat:=l.foldl (fun n c=>n*10+(c - 48)) 0
theorem dvl_snoc (l:List Nat) (c:Nat):dvl (l++[c])=dvl l*10+(c - 48):=by simp [dvl]
theorem dvl_foldl (l:List Nat):∀ a,l.foldl (fun n c=>n*10+(c - 48)) a=a*10 ^ l.length+dvl l:=by
 induction l with
 | nil=>intro a;simp [dvl]
 | cons c l ih =>
  intro a
  have h1:=ih (a*10+(c - 48))
  have h2:=ih (0*10+(c - 48))
  simp only [dvl,List.foldl_cons,List.length_cons] at h1 h2 ⊢
  rw [h1,h2,Nat.pow_succ,Nat.add_mul,Nat.mul_assoc a,Nat.mul_comm 10 (10 ^ l.length)]
  simp
  omega
theorem zcj (c:Nat) (l:List Nat):dvl (c :: l)=(c - 48)*10 ^ l.length+dvl l:=by
 have:=dvl_foldl l (0*10+(c - 48))
 simp only [dvl,List.foldl_cons] at this ⊢
 simpa using this
def allD (l:List Nat):Prop:=∀ c ∈ l,48≤c∧c≤57
theorem dvl_lt {l:List Nat} (h:allD l):dvl l<10 ^ l.length:=by
 induction l with
 | nil=>simp [dvl]
 | cons c l ih =>
  have h1:=ih (fun x hx=>h x (by simp [hx]))
  have h2:=h c (by simp)
  rw [zcj,List.length_cons,Nat.pow_succ]
  have:(c - 48)*10 ^ l.length≤9*10 ^ l.length:=Nat.mul_le_mul_right _ (by omega)
  omega
def isT (l:List Nat) (n:Nat):Prop:=0<l.length∧allD l∧dvl l=n∧(1<l.length→l.getD 0 0≠48)
theorem isT_ge {l:List Nat} {n:Nat} (h:isT l n) (h1:1<l.length):10 ^ (l.length - 1)≤n:=by
 obtain ⟨_,hd,hv,hz⟩:=h
 cases l with
 | nil=>simp at h1
 | cons c l =>
  have hc:=hd c (by simp)
  have h3:=hz h1
  simp at h3
  rw [← hv,zcj]
  simp only [List.length_cons,Nat.add_sub_cancel]
  have:1*10 ^ l.length≤(c - 48)*10 ^ l.length:=Nat.mul_le_mul_right _ (by omega)
  omega
theorem dvl_inj {l m:List Nat} (hl:allD l) (hm:allD m) (hlen:l.length=m.length) (h:dvl l=dvl m):l=m:=by
 induction l generalizing m with
 | nil=>cases m with
  | nil=>rfl
  | cons d m=>simp at hlen
 | cons c l ih=>cases m with
  | nil=>simp at hlen
  | cons d m =>
   have hc:=hl c (by simp)
   have hd:=hm d (by simp)
   have hl':allD l:=fun x hx=>hl x (by simp [hx])
   have hm':allD m:=fun x hx=>hm x (by simp [hx])
   have hlen':l.length=m.length:=by simpa using hlen
   rw [zcj,zcj,hlen'] at h
   have h1:=dvl_lt hl'
   have h2:=dvl_lt hm'
   rw [hlen'] at h1
   have hcd:c=d:=by
    rcases Nat.lt_trichotomy (c - 48) (d - 48) with k | k | k
    ·have:(c - 48+1)*10 ^ m.length≤(d - 48)*10 ^ m.length:=Nat.mul_le_mul_right _ k
     rw [Nat.add_mul] at this;omega
    ·omega
    ·have:(d - 48+1)*10 ^ m.length≤(c - 48)*10 ^ m.length:=Nat.mul_le_mul_right _ k
     rw [Nat.add_mul] at this;omega
   subst hcd
   rw [ih hl' hm' hlen' (by omega)]
theorem isT_len_lt {l m:List Nat} {a b:Nat} (hl:isT l a) (hm:isT m b) (h:l.length<m.length):a<b:=by
 have h1:=dvl_lt hl.2.1
 rw [hl.2.2.1] at h1
 have h2:=isT_ge hm (by have:=hl.1;omega)
 have h3:10 ^ l.length≤10 ^ (m.length - 1):=Nat.pow_le_pow_right (by omega) (by omega)
 omega
theorem isT_inj {l m:List Nat} {a:Nat} (hl:isT l a) (hm:isT m a):l=m:=by
 rcases Nat.lt_trichotomy l.length m.length with h | h | h
 ·have:=isT_len_lt hl hm h;omega
 ·exact dvl_inj hl.2.1 hm.2.1 h (hl.2.2.1.trans hm.2.2.1.symm)
 ·have:=isT_len_lt hm hl h;omega
theorem isT_short {l:List Nat} {n k:Nat} (h:isT l n) (hn:n<10 ^ k) (hk:0<k):l.length≤k:=by
 rcases Nat.lt_or_ge 1 l.length with h1 | h1
 ·have h2:=isT_ge h h1
  rcases Nat.lt_or_ge k l.length with h3 | h3
  ·have:10 ^ k≤10 ^ (l.length - 1):=Nat.pow_le_pow_right (by omega) (by omega)
   omega
  ·exact h3
 ·omega
def lowD (D:List Nat):Nat:=match D with | []=>0 | d :: D=>(d - 48)+10*lowD D
theorem lowD_snoc (D:List Nat) (c:Nat):lowD (D++[c])=lowD D+10 ^ D.length*(c - 48):=by
 induction D with
 | nil=>simp [lowD]
 | cons d D ih=>simp only [List.cons_append,lowD,ih,List.length_cons,Nat.pow_succ,Nat.mul_add];rw [Nat.mul_comm (10 ^ D.length) 10,Nat.mul_assoc];omega
theorem dvl_reverse (D:List Nat):dvl D.reverse=lowD D:=by
 induction D with
 | nil=>rfl
 | cons d D ih=>rw [List.reverse_cons,dvl_snoc,ih,lowD];omega
theorem dvl_zero {l:List Nat} (h:l.getD 0 0=48):dvl l.tail=dvl l:=by
 cases l with
 | nil=>rfl
 | cons c l =>
  simp at h
  subst h
  rw [zcj];simp
theorem isT_zero:isT [48] 0:=⟨by simp,by intro c hc;simp at hc;omega,rfl,by simp⟩
theorem isT_str {s t:ByteArray} {n:Nat} (h:isT (bytes s) n) (k:isT (bytes t) n):s=t:=bytes_inj (isT_inj h k)
def LbB (zs:List Nat):Prop:=∀ z ∈ zs,z<256
theorem LbB_nil:LbB []:=fun _ h=>by simp at h
theorem LbB_drop {zs:List Nat} (h:LbB zs) (k:Nat):LbB (zs.drop k):=fun z hz=>h z (List.mem_of_mem_drop hz)
theorem LbB_append {xs ys:List Nat} (h:LbB xs) (k:LbB ys):LbB (xs++ys):=fun z hz=>by
 rcases List.mem_append.1 hz with a | a
 ·exact h z a
 ·exact k z a
theorem LbB_snoc {xs:List Nat} {x:Nat} (h:LbB xs) (k:x<256):LbB (xs++[x]):=LbB_append h (fun z hz=>by simp at hz;omega)
theorem limB_lt {zs:List Nat} (h:LbB zs) (i:Nat):lim zs i<256:=by
 by_cases hi:i<zs.length
 ·have:lim zs i=zs[i]:=by unfold lim;simp [List.getD_eq_getElem?_getD,hi]
  rw [this];exact h _ (List.getElem_mem hi)
 ·rw [lim_of_le (by omega)];omega
/-- the slice at ao, of length zs.length and capacity c, reads as zs -/
structure RdB (w:World) (ao:Option Addr) (c:Nat) (zs:List Nat):Prop where
  cap:zs.length≤c
  mx:c≤9223372036854775807
  nl:ao=none→c=0
  lb:LbB zs
  ad:0<zs.length→ao=some ⟨bk ao,of ao,none⟩
  cell:∀ i,i<zs.length→w.cell? ⟨bk ao,of ao+i,none⟩=some (.int .u8 (lim zs i))
theorem RdB.nil (w:World):RdB w none 0 []:=⟨Nat.le_refl _,by omega,fun _=>rfl,LbB_nil,fun h=>by simp at h,fun i h=>by simp at h⟩
theorem RdB.drop {w:World} {b o c:Nat} {zs:List Nat} (h:RdB w (some ⟨b,o,none⟩) c zs) (k:Nat) (hk:k≤zs.length):RdB w (some ⟨b,o+k,none⟩) (c - k) (zs.drop k):=by
 have h1:=h.cap
 refine ⟨by rw [List.length_drop];omega,Nat.le_trans (Nat.sub_le _ _) h.mx,fun e=>by simp at e,LbB_drop h.lb _,fun _=>rfl,?_⟩
 intro i hi
 rw [List.length_drop] at hi
 have:=h.cell (k+i) (by omega)
 simp only [bk,of] at this ⊢
 rw [lim_drop,Nat.add_assoc];exact this
theorem RdB.isAt {w:World} {ao:Option Addr} {c:Nat} {zs:List Nat} (h:RdB w ao c zs) (hp:0<zs.length):∃ b o,ao=some ⟨b,o,none⟩:=⟨_,_,h.ad hp⟩
theorem run_ixB {P:Program} {t e:TypeId} (ht:P.underlying t=some (.slice e)) (hs:∀ w,(sizeOf e).run P w = .ok 1 w) {w0:World} {ao:Option Addr} {c:Nat} {zs:List Nat} (h:RdB w0 ao c zs)
   (k:IntKind) (i:Int) (w:World) (h0:0≤i) (h1:i<zs.length) :
   (Instr.indexAt t (.slice ao zs.length c) (.int k i)).run P w = .ok (.pointer (some ⟨bk ao,of ao+i.toNat,none⟩)) w:=by
  have h2:=h.ad (by omega)
  rw [h2]
  simp [Instr.indexAt,asIntOf,run_underlying ht,h0,h1,go_sem,hs,bk,of]
/-- the slice at ao is a row of the call's own (from block B on) that holds zs -/
structure OwB (w:World) (B:Nat) (ao:Option Addr) (c:Nat) (zs:List Nat):Prop where
  lb:LbB zs
  row:w.ownsRow B 5 1 (.slice ao zs.length c) zs.length (zs.map fun (x:Nat)=>Value.int .u8 (x:Int))
theorem OwB.nil (w:World) (B:Nat):OwB w B none 0 []:=⟨LbB_nil,World.ownsRow_nil _ _ _ _⟩
theorem OwB.rd {w:World} {B:Nat} {ao:Option Addr} {c:Nat} {zs:List Nat} (h:OwB w B ao c zs):RdB w ao c zs:=by
 have hr:=h.row
 rcases hr.2 with ⟨hv,hn⟩ | ⟨g,cap,cur,hv,hb,hg,hnc,hcm,hcs,htake⟩
 ·have:zs=[]:=List.length_eq_zero_iff.1 hn
  subst this
  simp at hv
  obtain ⟨rfl,rfl⟩:=hv
  exact RdB.nil w
 ·simp only [Value.slice.injEq,true_and] at hv
  obtain ⟨rfl,rfl⟩:=hv
  refine ⟨hnc,by simpa [maxLen] using hcm,fun e=>by simp at e,h.lb,fun _=>rfl,?_⟩
  intro i hi
  have:=hr.cellAt i (by omega)
  simp only [bk,of,Nat.zero_add]
  rw [this,List.getElem?_map,zb7 hi]
  rfl
theorem OwB.lt {w:World} {B:Nat} {ao:Option Addr} {c:Nat} {zs:List Nat} (h:OwB w B ao c zs):∀ k,(Value.slice ao zs.length c).ownBlock=some k→B≤k∧k<w.heap.size:=h.row.lt
theorem OwB.blk {w:World} {B:Nat} {ao:Option Addr} {c:Nat} {zs:List Nat} (h:OwB w B ao c zs) (hp:0<zs.length):B≤bk ao∧bk ao<w.heap.size∧of ao=0∧ao=some ⟨bk ao,0,none⟩:=by
 rcases h.row.2 with ⟨hv,hn⟩ | ⟨g,cap,cur,hv,hb,hg,hnc,hcm,hcs,htake⟩
 ·omega
 ·simp only [Value.slice.injEq,true_and] at hv
  obtain ⟨rfl,rfl⟩:=hv
  exact ⟨hb,(Array.getElem?_eq_some_iff.1 hg).1,rfl,rfl⟩
theorem OwB.frozen {w:World} {B:Nat} {ao:Option Addr} {c:Nat} {zs:List Nat} (h:OwB w B ao c zs) (hp:0<zs.length) (i:Nat):w.frozen? ⟨bk ao,of ao+i,none⟩=false:=by
 rcases h.row.2 with ⟨hv,hn⟩ | ⟨g,cap,cur,hv,hb,hg,hnc,hcm,hcs,htake⟩
 ·omega
 ·have hr:=h.row
  simp only [Value.slice.injEq,true_and] at hv
  obtain ⟨rfl,rfl⟩:=hv
  simp only [bk,of,Nat.zero_add]
  exact hr.frozenAt i
theorem OwB.ext {w w':World} {B:Nat} {ao:Option Addr} {c:Nat} {zs:List Nat} (h:OwB w B ao c zs) (k:Ext w w'):OwB w' B ao c zs :=
 ⟨h.lb,h.row.kept (row:=none) ⟨k.os,k.tape,k.output,k.size,fun i hi _=>k.block i hi⟩ (by cases hv:Value.ownBlock _ <;> simp)⟩
theorem size8 (w:World):(sizeOf 5).run Tryd.prog w = .ok 1 w:=by kernel_rfl
theorem info8:(Tryd.prog.info? 5).map (fun i=>(i.zero,i.size,i.bytes))=some (some (.int .u8 0),1,1):=by kernel_rfl
theorem undB:Tryd.prog.underlying 73=some (.slice 5):=Tryd.underlying73
theorem ixnB {w0:World} {ao:Option Addr} {c:Nat} {zs:List Nat} (h:RdB w0 ao c zs) (k:IntKind) (i:Int) (w:World) (h0:0≤i) (h1:i<zs.length) :
   (Instr.indexAt 73 (.slice ao zs.length c) (.int k i)).run Tryd.prog w = .ok (.pointer (some ⟨bk ao,of ao+i.toNat,none⟩)) w:=run_ixB undB size8 h k i w h0 h1
theorem pushB {wi w:World} {ops:Array Oper} {rest:List Oper} {o:Oper} {a:Act} {Q:Exit→Act→World→Prop} (hgd:o.guard=none) (s x:Operand)
  (ho:o.op = .call { callee:=.builtin .append,args:=#[s,x],argTypes:=#[73,73] })
  {B:Nat} (ao:Option Addr) (c:Nat) (zs:List Nat) (n:Nat) (hn:n=zs.length) (hs:a.eval s = .slice ao n c) (hown:OwB w B ao c zs)
  (E:Int) (hE:0≤E) (hy:E<256) (hx:a.eval x = .slice (some ⟨w.heap.size,0,none⟩) 1 1)
  (hlen:zs.length≤4294967296) (hB:B=wi.heap.size) (hext:Ext wi w)
  (h:∀ ao' c' w', OwB w' B ao' c' (zs++[E.toNat])→Ext wi w'→wpList Tryd.prog ops Q rest (a.put o.dst (.slice ao' (zs.length+1) c')) w') :
  wpList Tryd.prog ops Q (o :: rest) a (w.alloc (.cells #[.int .u8 E] 5)):=by
 subst hn
 obtain ⟨i0,hi,hz0,hz1,hz2⟩:=info_parts info8
 have hsz:=hext.size
 refine wpList_append_own _ hgd s x 73 ho B 5 i0 (.int .u8 0) 1 1 undB hi hz0 hz1 hz2 rfl (by decide) _ _ _ hs (hown.row.alloc _) ⟨w.heap.size,0,none⟩ 1 1 [.int .u8 E] hx rfl ?_ ?_ ?_ ?_ ?_ ?_
 ·intro j u hj
  match j,hj with
  | 0,hj=>simp at hj;subst hj;simp [Addr.add]
 ·intro u hu;simp at hu;subst hu;rfl
 ·unfold maxLen;omega
 ·omega
 ·simp;omega
 ·intro v' w' hown' hgrow _
  obtain ⟨y,rfl⟩:=Int.eq_ofNat_of_zero_le hE
  have hlb:LbB (zs++[y]):=LbB_snoc hown.lb (by omega)
  have he:Ext wi w':=(hext.alloc _).grown hgrow (fun k hk=>by have:=(hown.lt k hk).1;omega)
  rcases hown'.2 with ⟨hv,hn⟩ | ⟨g,cap,cur,hv,hb,hg,hnc,hcm,hcs,htake⟩
  ·omega
  ·subst hv
   refine h _ _ w' ⟨hlb,?_⟩ he
   simpa using hown'
theorem OwB.store {w:World} {B:Nat} {ao:Option Addr} {c:Nat} {zs:List Nat} (h:OwB w B ao c zs) (i:Nat) (hi:i<zs.length) (E:Int) (y:Nat) (hE:E=(y:Int)) (hy:y<256) :
  OwB (w.setCell ⟨bk ao,of ao+i,none⟩ (.int .u8 E)) B ao c (zs.set i y)∧w.grownBy (w.setCell ⟨bk ao,of ao+i,none⟩ (.int .u8 E)) (some (bk ao)):=by
 subst hE
 obtain ⟨h1,h2,h3,h4⟩:=h.blk (by omega)
 have hr:=h.row
 rw [h4] at hr
 have:=hr.stored i (.int .u8 (y:Int))
 rw [h3,Nat.zero_add]
 refine ⟨⟨?_,?_⟩,this.2⟩
 ·intro z hz
  rcases List.mem_or_eq_of_mem_set hz with hm | hm
  ·exact h.lb z hm
  ·omega
 ·rw [h4,List.length_set,List.map_set]
  exact this.1
theorem pushGB {wi w:World} {ops:Array Oper} {rest:List Oper} {o:Oper} {a:Act} {Q:Exit→Act→World→Prop} (hgd:o.guard=none) (s x:Operand)
  (ho:o.op = .call { callee:=.builtin .append,args:=#[s,x],argTypes:=#[73,73] })
  {B:Nat} (ao:Option Addr) (c:Nat) (zs:List Nat) (n:Nat) (hn:n=zs.length) (hs:a.eval s = .slice ao n c) (hown:OwB w B ao c zs)
  (E:Int) (hE:0≤E) (hy:E<256) (hx:a.eval x = .slice (some ⟨w.heap.size,0,none⟩) 1 1)
  (hlen:zs.length≤4294967296) (hB:B=wi.heap.size) (hext:Ext wi w)
  (h:∀ ao' c' w', OwB w' B ao' c' (zs++[E.toNat])→Ext wi w'→w.grownBy w' (Value.slice ao zs.length c).ownBlock→wpList Tryd.prog ops Q rest (a.put o.dst (.slice ao' (zs.length+1) c')) w') :
  wpList Tryd.prog ops Q (o :: rest) a (w.alloc (.cells #[.int .u8 E] 5)):=by
 subst hn
 obtain ⟨i0,hi,hz0,hz1,hz2⟩:=info_parts info8
 have hsz:=hext.size
 refine wpList_append_own _ hgd s x 73 ho B 5 i0 (.int .u8 0) 1 1 undB hi hz0 hz1 hz2 rfl (by decide) _ _ _ hs (hown.row.alloc _) ⟨w.heap.size,0,none⟩ 1 1 [.int .u8 E] hx rfl ?_ ?_ ?_ ?_ ?_ ?_
 ·intro j u hj
  match j,hj with
  | 0,hj=>simp at hj;subst hj;simp [Addr.add]
 ·intro u hu;simp at hu;subst hu;rfl
 ·unfold maxLen;omega
 ·omega
 ·simp;omega
 ·intro v' w' hown' hgrow _
  obtain ⟨y,rfl⟩:=Int.eq_ofNat_of_zero_le hE
  have hlb:LbB (zs++[y]):=LbB_snoc hown.lb (by omega)
  have he:Ext wi w':=(hext.alloc _).grown hgrow (fun k hk=>by have:=(hown.lt k hk).1;omega)
  rcases hown'.2 with ⟨hv,hn⟩ | ⟨g,cap,cur,hv,hb,hg,hnc,hcm,hcs,htake⟩
  ·omega
  ·subst hv
   refine h _ _ w' ⟨hlb,?_⟩ he (zbr (World.grownBy_alloc _ _ _) hgrow)
   simpa using hown'
def ByR (w:World) (xs:List Nat) (b:Nat) (po:Option Addr) (pc:Nat) (rest i:Value) (wr:World):Prop :=
  ∃ (k R:Nat) (zs:List Nat),k≤xs.length∧i = .int .i64 ((k:Int) - 1)∧rest = .int .u64 R∧R<b∧Hid (zs.length=xs.length)∧Own wr w.heap.size po pc zs∧Ext w wr∧Hid (vd xs k=vd zs k*b+R)
theorem by_step {xs zs:List Nat} {k b R:Nat} (h:vd xs (k+1)=vd zs (k+1)*b+R) (hx:k<xs.length) (hz:k<zs.length) :
  Hid (vd xs k=vd (zs.set k ((R*4294967296+lim xs k) / b)) k*b+(R*4294967296+lim xs k) % b):=by
 unfold Hid
 rw [vd_step hx,vd_step (zs:=zs.set k ((R*4294967296+lim xs k) / b)) (by rw [List.length_set];exact hz),zct hz,vd_set (by omega),h,Nat.add_mul,Nat.mul_assoc 4294967296]
 have h1:=Nat.div_add_mod (R*4294967296+lim xs k) b
 rw [Nat.mul_comm b] at h1
 omega
theorem by_lt {R x b:Nat} (h:R<b) (hx:x<4294967296):(R*4294967296+x) / b<4294967296:=by
 rw [Nat.div_lt_iff_lt_mul (by omega)]
 have:(R+1)*4294967296≤b*4294967296:=Nat.mul_le_mul_right _ h
 rw [Nat.mul_comm 4294967296 b]
 omega
set_option maxHeartbeats 1000000 in
theorem byLimb_any (ao:Option Addr) (n c:Nat) (xs:List Nat) (E:Int) (b:Nat) (w:World) (hn:n=xs.length) (hE:E=(b:Int)) (ha:Rd w ao c xs) (hl:xs.length≤1000000) (hb:0<b) (hb2:b<4294967296) :
  Calls Tryd.prog 67 #[.slice ao n c,.int .u32 E] w fun e w'=>∃ po pc zs,e = .returned (.tuple #[.slice po zs.length pc,.int .u32 ((val xs % b:Nat):Int)])∧Own w' w.heap.size po pc zs∧Canon zs∧val zs=val xs / b∧Ext w w':=by
 subst hn hE
 have bA:=ha.cap
 have mA:=ha.mx
 go_enter Tryd.func67,Tryd.ntmps67
 go_wp2_with (at_make;refine mkf rfl _ _ rfl _ _ _ rfl rfl ?_ ?_ (Ext.refl w) ?_;omega;omega;intro w1 hown hx0 hext)
 go_loopw [7,8] (ByR w xs b (some ⟨w.heap.size,0,none⟩) xs.length) (fun _ i _=>(intOf i+1).toNat)
 case atStart=>exact ⟨xs.length,0,List.replicate xs.length 0,Nat.le_refl _,rfl,rfl,hb,by simp [Hid],by simpa using hown,hext,by unfold Hid;rw [vd_end (by omega),vd_end (by simp)];simp⟩
 case round =>
  obtain ⟨k,R,zs,hk,rfl,rfl,hR,hzl,hown,hext,heq⟩:=hrel
  rcases k with _ | k
  ·have hv:val xs=val zs*b+R:=by have:=heq.out;rwa [vd_zero,vd_zero] at this
   have hq:val zs=val xs / b:=by rw [hv,Nat.mul_comm,Nat.mul_add_div hb,Nat.div_eq_of_lt hR,Nat.add_zero]
   have hm:val xs % b=R:=by rw [hv,Nat.mul_comm,Nat.mul_add_mod,Nat.mod_eq_of_lt hR]
   have Hq:=Lib.hid hq
   have Hm:=Lib.hid hm
   clear hv hq hm heq
   go_wp2_with fail
   refine (Trim_got _ _ _ zs _ hzl.out.symm hown.rd (by have:=hzl.out;omega)).mono ?_
   intro e w2 hg
   rw [Hq.out] at hg
   obtain ⟨ao3,c3,zs3,rfl,h1,h2,h3,h4⟩:=hg.from hext
   go_wp2_with fail
   go_ret2
   exact ⟨ao3,c3,zs3,by rw [Hm.out];rfl,h1,h2,h3,h4⟩
  ·have hx:=(ha.ext hext).cell k (by omega)
   have hix:=ixk ha xs.length rfl k (by omega) wr
   have bx:=lim_lt ha.lb k
   have hkz:k<zs.length:=by have:=hzl.out;omega
   have hiz:=ixk hown.rd xs.length hzl.out.symm k (by omega) wr
   have hxz:=hown.rd.cell k hkz
   have hf:=hown.frozen (by omega) k
   have hor:=or_join R (lim xs k) (by omega) bx
   have hq1:=by_lt (b:=b) hR bx
   have hm1:(R*4294967296+lim xs k) % b<b:=Nat.mod_lt _ hb
   have hs:=by_step heq.out (by omega) hkz
   obtain ⟨H,hH⟩:∃ H,H=R*4294967296+lim xs k:=⟨_,rfl⟩
   rw [← hH] at hor hq1 hm1 hs
   have bH:H<18446744073709551616:=by omega
   have htd:=tdiv_nat H b
   have htm:=tmod_nat H b
   obtain ⟨q,hq⟩:∃ q,q=H / b:=⟨_,rfl⟩
   obtain ⟨m,hm⟩:∃ m,m=H % b:=⟨_,rfl⟩
   rw [← hq] at htd hq1 hs
   rw [← hm] at htm hm1 hs
   have hnd:(H:Int) / (b:Int)=(q:Int):=by rw [hq];push_cast;rfl
   have hnm:(H:Int) % (b:Int)=(m:Int):=by rw [hm];push_cast;rfl
   clear hH hq hm
   go_wp2_with fail
   have hst:=hown.store k hkz (q:Int) q rfl hq1
   go_roundw
   case rel=>exact ⟨k,m,zs.set k q,by omega,by go_num,rfl,hm1,by unfold Hid;rw [List.length_set];exact hzl.out,hst.1,hext.store (show w.heap.size≤w.heap.size by omega) _,hs⟩
   case measure=>simp [intOf]
def revK (zs ys:List Nat) (k:Nat):Prop:=ys.length=zs.length∧∀ t,t<zs.length→lim ys t=if t<k∨zs.length - k≤t then lim zs (zs.length - 1 - t) else lim zs t
theorem revK_step {zs ys:List Nat} {k:Nat} (h:revK zs ys k) (hk:k<zs.length - 1 - k):revK zs ((ys.set k (lim ys (zs.length - 1 - k))).set (zs.length - 1 - k) (lim ys k)) (k+1):=by
 obtain ⟨hl,h⟩:=h
 refine ⟨by simp [hl],?_⟩
 intro t ht
 have h1:=h k (by omega)
 have h2:=h (zs.length - 1 - k) (by omega)
 rw [if_neg (by omega)] at h1 h2
 by_cases e:t=zs.length - 1 - k
 ·subst e
  rw [zct (by simp;omega),h1,if_pos (by omega)]
  congr 1;omega
 ·rw [lim_set_ne (by omega)]
  by_cases e2:t=k
  ·subst e2
   rw [zct (by omega),h2,if_pos (by omega)]
  ·rw [lim_set_ne (by omega),h t ht]
   by_cases c1:t<k∨zs.length - k≤t
   ·rw [if_pos c1,if_pos (by omega)]
   ·rw [if_neg c1,if_neg (by omega)]
theorem revK_end {zs ys:List Nat} {k:Nat} (h:revK zs ys k) (hk:zs.length≤k+k+1):ys=zs.reverse:=by
 obtain ⟨hl,h⟩:=h
 apply list_ext_lim (by simp [hl])
 intro t ht
 have ht':t<zs.length:=by omega
 have hr:lim zs.reverse t=lim zs (zs.length - 1 - t):=by
  unfold lim
  rw [List.getD_eq_getElem?_getD,List.getD_eq_getElem?_getD,List.getElem?_reverse ht']
 rw [hr,h t ht']
 split
 ·rfl
 ·congr 1;omega
set_option maxHeartbeats 1000000 in
theorem Reverse_any (ao:Option Addr) (n c:Nat) (zs:List Nat) (B:Nat) (w:World) (hn:n=zs.length) (ha:OwB w B ao c zs) :
  Calls Tryd.prog 68 #[.slice ao n c] w fun e w'=>e = .returned (.tuple #[])∧OwB w' B ao c zs.reverse∧w.grownBy w' (some (bk ao)):=by
 subst hn
 have bA:=ha.rd.cap
 have mA:=ha.rd.mx
 go_enter Tryd.func68,Tryd.ntmps68
 go_wp2_with fail
 go_loopw [2,3] (fun i j wr=>∃ (k:Nat) (ys:List Nat),k≤zs.length∧i = .int .i64 k∧j = .int .i64 ((zs.length:Int) - 1 - k)∧Hid (revK zs ys k)∧OwB wr B ao c ys∧w.grownBy wr (some (bk ao))) (fun _ j _=>(intOf j+1).toNat)
 case atStart=>exact ⟨0,zs,by omega,rfl,by go_num,⟨rfl,fun t ht=>by rw [if_neg (by omega)]⟩,ha,World.grownBy.refl _ _⟩
 case round =>
  obtain ⟨k,ys,hk,rfl,rfl,hrev,hown,hg⟩:=hrel
  have hyl:ys.length=zs.length:=hrev.out.1
  have Hyl:=Lib.hid hyl
  by_cases hkA:k<zs.length - 1 - k
  ·have hx1:=hown.rd.cell k (by omega)
   have hx2:=hown.rd.cell (zs.length - 1 - k) (by omega)
   have hi1:=fun w=>ixnB hown.rd .i64 (k:Int) w (by omega) (by omega)
   have hi2:=fun w=>ixnB hown.rd .i64 ((zs.length:Int) - 1 - (k:Int)) w (by omega) (by omega)
   rw [hyl] at hi1 hi2
   have et:((zs.length:Int) - 1 - (k:Int)).toNat=zs.length - 1 - k:=by omega
   rw [et] at hi2
   have hf1:=hown.frozen (by omega) k
   have hf2:=hown.frozen (by omega) (zs.length - 1 - k)
   clear hyl et
   go_wp2_with fail
   go_region
   all_goals
    have hst1:=hown.store k (by have:=Hyl.out;omega) _ (lim ys (zs.length - 1 - k)) rfl (limB_lt hown.lb _)
    have hst2:=hst1.1.store (zs.length - 1 - k) (by rw [List.length_set];have:=Hyl.out;omega) _ (lim ys k) rfl (limB_lt hown.lb _)
    have hrs:=revK_step hrev.out hkA
    clear hx1 hx2 hi1 hi2 hf1 hf2
    go_wp2_with fail
    go_roundw
    case rel=>exact ⟨k+1,_,by omega,by go_num,by go_num,hrs,hst2.1.ext (Ext.refl _).drew,zbr (zbr hg hst1.2) (zbr hst2.2 (grown_of_ext (Ext.refl _).drew _))⟩
    case measure=>simp [intOf];omega
  ·have he:=revK_end hrev.out (by omega)
   have He:=Lib.hid he
   clear he hyl
   go_wp2_with fail
   go_end0
   exact ⟨rfl,by rw [← He.out];exact hown,hg⟩
def GotText (w:World) (n:Nat) (e:Ending) (w':World):Prop:=∃ s,e = .returned (.string s)∧isT (bytes s) n∧Ext w w'
def strN (L:List Nat):ByteArray:=strOfNums (L.map fun (x:Nat)=>(x:Int))
theorem bytes_strN {L:List Nat} (h:LbB L):bytes (strN L)=L:=by
 unfold bytes strN
 rw [strOfNums_data,List.map_map,List.map_map]
 conv=>rhs;rw [← List.map_id L]
 apply List.map_congr_left
 intro x hx
 have:=h x hx
 simp only [Function.comp_apply,Int.toNat_natCast,id]
 rw [UInt8.toNat_ofNat']
 omega
theorem run_str {w:World} {b o c:Nat} {L:List Nat} (h:RdB w (some ⟨b,o,none⟩) c L) :
  (convert 73 9 (.slice (some ⟨b,o,none⟩) L.length c)).run Tryd.prog w = .ok (.string (strN L)) w:=by
 refine run_convert_bytes_arg w 73 5 undB Tryd.underlying5 b o L.length c (L.map fun (x:Nat)=>(x:Int)) (by simp) ?_ 9 Tryd.underlying9
 intro i hi
 have:=h.cell i hi
 simp only [bk,of] at this
 rw [this]
 have e:L[i]?=some (lim L i):=zb7 hi
 simp only [List.getD_eq_getElem?_getD,List.getElem?_map,e]
 rfl
theorem text_step {D:List Nat} {p R N:Nat} (h:lowD D+10 ^ D.length*(R+10*p)=N):lowD (D++[48+R % 10])+10 ^ (D++[48+R % 10]).length*(R / 10+p)=N:=by
 rw [lowD_snoc,List.length_append,List.length_cons,List.length_nil,Nat.zero_add,Nat.pow_succ,← h,Nat.add_sub_cancel_left,Nat.mul_assoc]
 rw [show R+10*p=10*(R / 10+p)+R % 10 from by omega,Nat.mul_add (10 ^ D.length) (10*(R / 10+p)) (R % 10)]
 omega
def TextI (w:World) (n0 N V:Nat) (d0:Nat) (ao:Option Addr) (c:Nat) (zs:List Nat) (out rest i:Value) (wr:World):Prop :=
  ∃ (j R:Nat) (po:Option Addr) (pc:Nat) (D:List Nat),j≤9∧i = .int .i64 j∧rest = .int .u32 R∧R<10 ^ (9 - j)∧out = .slice po D.length pc∧Hid (D.length=d0+j)∧d0≤10*n0∧allD D∧OwB wr w.heap.size po pc D∧Own wr w.heap.size ao c zs∧Ext w wr ∧
    Hid (lowD D+10 ^ D.length*(R+10 ^ (9 - j)*V)=N)
def TextO (w:World) (n0 N g:Nat) (a out:Value) (wr:World):Prop :=
  ∃ (ao:Option Addr) (c:Nat) (zs:List Nat) (po:Option Addr) (pc:Nat) (D:List Nat),a = .slice ao zs.length c∧out = .slice po D.length pc∧D.length≤10*n0+9∧zs.length≤1000000∧allD D∧Canon zs∧OwB wr w.heap.size po pc D∧Rd wr ao c zs∧Ext w wr ∧
    Hid (lowD D+10 ^ D.length*val zs=N)∧Hid (val zs=g)
def TextS (w:World) (N:Nat) (out:Value) (wr:World):Prop :=
  ∃ (b o c:Nat) (L:List Nat),out = .slice (some ⟨b,o,none⟩) L.length c∧allD L∧Hid (dvl L=N)∧RdB wr (some ⟨b,o,none⟩) c L∧Ext w wr
def lenOf:Value→Nat
  | .slice _ n _=>n
  | _=>0
theorem pw_10 (n:Nat):pw n≤10 ^ (10*n):=by
 unfold pw
 rw [Nat.pow_mul]
 exact Nat.pow_le_pow_left (by decide) n
set_option maxHeartbeats 2000000 in
theorem Text_any (ao:Option Addr) (n c:Nat) (xs:List Nat) (w:World) (hn:n=xs.length) (ha:Rd w ao c xs) (hl:xs.length≤10000) :
  Calls Tryd.prog 54 #[.slice ao n c] w (GotText w (val xs)):=by
 subst hn
 have hA:=ha.trm
 have cA:=canon_trm ha.lb
 have lA:=trm_le xs
 rw [← val_trm xs]
 rcases Nat.eq_zero_or_pos (trm xs).length with h0 | hp
 ·have e0:trm xs=[]:=List.length_eq_zero_iff.1 h0
  rw [e0]
  have hz:(((trm xs).length:Int) == 0)=true:=beq_iff_eq.2 (by omega)
  clear h0 e0
  go_enter Tryd.func54,Tryd.ntmps54
  go_wp2_with fail
  refine (trim_any ao _ c xs w rfl ha).mono ?_
  rintro e w' ⟨rfl,rfl⟩
  go_wp2_with fail
  go_ret
  exact ⟨_,rfl,isT_zero,Ext.refl _⟩
 ·have hz:(((trm xs).length:Int) == 0)=false:=beq_eq_false_iff_ne.2 (by omega)
  obtain ⟨N,hN⟩:∃ N,N=val (trm xs):=⟨_,rfl⟩
  have hNpos:0<N:=by
   have:=zcl cA hp
   have:=pw_pos ((trm xs).length - 1)
   omega
  have hNb:N<10 ^ (10*xs.length):=by
   rw [hN]
   exact Nat.lt_of_lt_of_le (Nat.lt_of_lt_of_le (val_lt cA.1) (pw_le lA)) (pw_10 _)
  have HNb:=Lib.hid hNb
  clear hNb
  rw [← hN]
  go_enter Tryd.func54,Tryd.ntmps54
  go_wp2_with fail
  refine (trim_any ao _ c xs w rfl ha).mono ?_
  rintro e w' ⟨rfl,rfl⟩
  go_wp2_with fail
  go_loopg [0,3] N (TextO w xs.length N)
  case atStart=>exact ⟨ao,c,trm xs,none,0,[],rfl,rfl,by simp,by omega,(fun c hc=>by simp at hc),cA,OwB.nil _ _,hA,Ext.refl _,by unfold Hid;rw [hN];simp [lowD],hN.symm⟩
  case round =>
   obtain ⟨bo,d,zs,po,pc,D,rfl,rfl,hDl,hzl,hDd,cZ,hown,hrd,hext,heq,hgk⟩:=hrel
   rcases Nat.eq_zero_or_pos zs.length with hz0 | hzp
   ·have ez:zs=[]:=List.length_eq_zero_iff.1 hz0
    subst ez
    have hv:dvl D.reverse=N:=by rw [dvl_reverse,← heq.out];simp [val]
    have hD0:0<D.length:=by
     cases D with
     | nil=>simp [dvl] at hv;omega
     | cons d D=>simp
    have Hv:=Lib.hid hv
    clear hv heq
    go_wp2_with fail
    refine (Reverse_any _ _ _ D _ _ rfl hown).mono ?_
    rintro e w2 ⟨rfl,hown2,hg2⟩
    have hext2:Ext w w2:=hext.grown hg2 (fun k hk=>by cases hk;exact (hown.blk hD0).1)
    have hrd2:=hown2.rd
    have hl2:(D.reverse).length=D.length:=by simp
    obtain ⟨b,o,hat⟩:=hrd2.isAt (by omega)
    have hdd:allD D.reverse:=fun c hc=>hDd c (by simpa using hc)
    rw [← hl2]
    generalize D.reverse=L at *
    subst hat
    clear hown hg2 hown2 hext hrd hDd
    have Hl2:=Lib.hid hl2
    clear hl2
    go_wp2_with fail
    go_loopw [3] (TextS w N) (fun a _=>lenOf a)
    case atStart=>exact ⟨b,o,pc,L,rfl,hdd,Hv,hrd2,hext2⟩
    case round =>
     obtain ⟨b,o,pc,L,rfl,hLd,hLv,hLr,hLe⟩:=hrel
     have hL0:0<L.length:=by
      cases L with
      | nil=>have:=hLv.out;simp [dvl] at this;omega
      | cons d D=>simp
     have hx:=hLr.cell 0 hL0
     have hcap:=hLr.cap
     have hmx:=hLr.mx
     simp only [bk,of,Nat.add_zero] at hx
     by_cases h48:lim L 0=48
     ·have hb:(((lim L 0:Nat):Int) == 48)=true:=by simp [h48]
      have hv2:dvl L.tail=N:=by rw [dvl_zero h48];exact hLv.out
      have hL1:0<L.tail.length:=by
       cases hL:L.tail with
       | nil=>rw [hL] at hv2;simp [dvl] at hv2;omega
       | cons d D=>simp
      rw [List.length_tail] at hL1
      have hdr:=hLr.drop 1 hL0
      rw [List.drop_one] at hdr
      clear h48
      go_wp2_with fail
      go_roundw
      case rel=>exact ⟨b,o+1,pc - 1,L.tail,by simp,(fun c hc=>hLd c (List.mem_of_mem_tail hc)),hv2,hdr,hLe⟩
      case measure=>simp [lenOf];try omega
     ·have hb:(((lim L 0:Nat):Int) == 48)=false:=beq_eq_false_iff_ne.2 (by omega)
      have hcv:=run_str hLr
      have hlb:=hLr.lb
      go_wp2_with fail
      go_ret
      exact ⟨strN L,rfl,by rw [bytes_strN hlb];exact ⟨hL0,hLd,hLv.out,fun _=>h48⟩,hLe⟩
   ·have hV:=zcl cZ hzp
    have hV1:=pw_pos (zs.length - 1)
    have hVl:=val_lt cZ.1
    have hDb:D.length<10*xs.length:=by
     have h1:=heq.out
     have h2:=HNb.out
     have h3:10 ^ D.length*1≤10 ^ D.length*val zs:=Nat.mul_le_mul_left _ (by omega)
     exact (Nat.pow_lt_pow_iff_right (by omega)).1 (show 10 ^ D.length<10 ^ (10*xs.length) by omega)
    have hVp:0<val zs:=by omega
    clear hV hV1
    have HVl:=Lib.hid hVl
    clear hVl
    go_wp2_with fail
    refine (byLimb_any _ _ _ zs _ 1000000000 _ rfl rfl hrd hzl (by omega) (by omega)).mono ?_
    rintro e w2 ⟨eo,ec,ys,rfl,hyo,hyk,hyv,hyx⟩
    have hyl:ys.length≤1000000:=Nat.le_trans (canon_len hyk (by rw [hyv];exact Nat.lt_of_le_of_lt (Nat.div_le_self _ _) HVl.out)) hzl
    have heq2:lowD D+10 ^ D.length*(val zs % 1000000000+10 ^ (9 - 0)*val ys)=N:=by
     have e:val zs % 1000000000+10 ^ (9 - 0)*val ys=val zs:=by
      rw [hyv];simp;omega
     rw [e];exact heq.out
    have Heq2:=Lib.hid heq2
    have hRb:val zs % 1000000000<10 ^ (9 - 0):=Nat.mod_lt _ (by decide)
    replace hyv:=Lib.hid hyv
    have hdec:val ys<val zs:=by rw [hyv.out];omega
    have hown2:=hown.ext hyx
    have hext2:=hext.trans hyx
    have hext0:=hext.size
    clear heq2 hown hext heq
    go_wp2_with fail
    go_loopw [3,4,18] (TextI w xs.length N (val ys) D.length eo ec ys) (fun _ _ i _=>(9 - intOf i).toNat)
    case atStart=>exact ⟨0,val zs % 1000000000,po,pc,D,by omega,rfl,rfl,hRb,rfl,rfl,by omega,hDd,hown2,hyo.mono hext0,hext2,Heq2⟩
    case round =>
     obtain ⟨j,R,po,pc,E,hj,rfl,rfl,hR,rfl,hEl,hDn,hEd,hown,hyo,hext,heq⟩:=hrel
     have hEl2:E.length≤200000:=by have:=hEl.out;omega
     by_cases hj9:j<9
     ·have hRb:R<1000000000:=Nat.lt_of_lt_of_le hR (by exact Nat.pow_le_pow_right (by omega) (by omega):10 ^ (9 - j)≤10 ^ 9)
      have e9:10 ^ (9 - j)=10*10 ^ (9 - (j+1)):=by
       rw [Nat.mul_comm,← Nat.pow_succ];congr 1;omega
      have hst:lowD (E++[48+R % 10])+10 ^ (E++[48+R % 10]).length*(R / 10+10 ^ (9 - (j+1))*val ys)=N:=by
       apply text_step
       rw [← Nat.mul_assoc,← e9];exact heq.out
      have hR':R / 10<10 ^ (9 - (j+1)):=by omega
      have Hst:=Lib.hid hst
      have HR':=Lib.hid hR'
      clear hst hR' hR e9 heq
      go_wp2_with (at_builtin;refine pushGB (wi:=w) rfl _ _ rfl _ _ E _ rfl rfl hown _ ?_ ?_ rfl ?_ rfl hext ?_;omega;omega;omega;intro ao' c' w3 hown3 hext3 hg3)
      go_roundw
      case rel =>
       have et:(48+(R:Int) % 10).toNat=48+R % 10:=by omega
       rw [et] at hown3
       exact ⟨j+1,R / 10,ao', c', E++[48+R % 10],by omega,by go_num,by go_num,HR'.out,by simp,by unfold Hid;rw [List.length_append,hEl.out];simp;omega,hDn,(fun c hc=>by rcases List.mem_append.1 hc with h | h;exact hEd c h;simp at h;omega),hown3,hyo.keptO hg3 (ownsRow_ne hyo.row hown.row (by decide)),hext3,Hst⟩
      case measure=>simp [intOf];try omega
     ·obtain rfl:j=9:=by omega
      have hR0:R=0:=by simpa using hR
      have heq3:lowD E+10 ^ E.length*val ys=N:=by have:=heq.out;rw [hR0] at this;simpa using this
      have Heq3:=Lib.hid heq3
      clear hR0 heq3 hR
      go_wp2_with fail
      go_roundg (val ys)
      case rel=>exact ⟨eo,ec,ys,po,pc,E,rfl,rfl,by have:=hEl.out;omega,hyl,hEd,hyk,hown,hyo.rd,hext,Heq3,rfl⟩
      case measure=>have:=hgk.out;omega
theorem cells32:(Value.int .u32 0).cells=#[Value.int .u32 0]:=rfl
namespace S
theorem fmod_neg_range (a:Int) {b:Int} (h:b<0):b<a.fmod b∧a.fmod b≤0:=by
 have h1:=Int.fmod_lt_of_pos (-a) (b:=-b) (by omega)
 have h2:=Int.fmod_nonneg_of_pos (-a) (b:=-b) (by omega)
 rw [Int.neg_fmod_neg] at h1 h2
 omega
theorem fmod_range (a:Int) {b:Int} (_hb:b≠0):(0<b→0≤a.fmod b∧a.fmod b<b)∧(b<0→b<a.fmod b∧a.fmod b≤0) :=
 ⟨fun h=>⟨Int.fmod_nonneg_of_pos a h,Int.fmod_lt_of_pos a h⟩,fun h=>fmod_neg_range a h⟩
theorem fmod_natAbs_lt (X:Int) {Y:Int} (hY:Y≠0):(X.fmod Y).natAbs<Y.natAbs:=by
 obtain ⟨h1,h2⟩:=fmod_range X hY
 rcases Int.lt_or_lt_of_ne hY with g | g
 ·have:=h2 g;omega
 ·have:=h1 g;omega
def bez (r0 x0 y0 r1 x1 y1:Int):Int × Int × Int :=
  if _h:r1≤0 then (r0,x0,y0) else bez r1 x1 y1 (r0.fmod r1) (x0 - r0.fdiv r1*x1) (y0 - r0.fdiv r1*y1)
  termination_by r1.natAbs
  decreasing_by exact fmod_natAbs_lt _ (by omega)
theorem tt_6:SlT Tryd.prog 66 28 2:=SlT.mk' Tryd.underlying66 (by kernel_rfl)
def allN:Nat→(Nat→Bool)→Bool
  | 0,_=>true
  | n+1,p=>allN n p && p n
theorem zcp {p:Nat→Bool}:∀ {n:Nat}, allN n p=true ↔ ∀ i,i<n→p i=true
 | 0=>by simp [allN]
 | n+1=>by
  rw [allN,Bool.and_eq_true,zcp]
  exact ⟨fun h i hi=>(Nat.lt_succ_iff_lt_or_eq.1 hi).elim (h.1 i) fun e=>e ▸ h.2,fun h=>⟨fun i hi=>h i (by omega),h n (by omega)⟩⟩
structure RelD where
  t:Term
  eq:Bool
def RelD.d (x:RelD):List D:=[.sl 3 (x.t.parts.map zcz.d),.raw (.bool x.t.k.neg),nsl x.t.k.abs,.raw (.bool x.eq)]
inductive za9 where
  | mk (kind:Int) (r:RelD) (kids:List za9)
def za9.kind:za9→Int | ⟨k,_,_⟩=>k
def za9.r:za9→RelD | ⟨_,r,_⟩=>r
def za9.kids:za9→List za9 | ⟨_,_,ks⟩=>ks
theorem za9.ind {P:za9→Prop} (h:∀ k r ks,(∀ g ∈ ks,P g)→P ⟨k,r,ks⟩) (f:za9):P f :=
 za9.rec (motive_1:=P) (motive_2:=fun ks=>∀ g ∈ ks,P g) h (fun g hg=>(by cases hg)) (fun a l ha has g hg=>(List.mem_cons.1 hg).elim (fun e=>e ▸ ha) (has g)) f
def za9.fold {α:Type} (g:Int→RelD→List za9→List α→α):za9→α
  | ⟨k,r,ks⟩=>g k r ks (ks.attach.map fun x=>za9.fold g x.1)
  termination_by f=>SizeOf.sizeOf f
  decreasing_by have:=List.sizeOf_lt_of_mem x.2;simp;omega
theorem za9.fold_mk {α:Type} (g:Int→RelD→List za9→List α→α) (k:Int) (r:RelD) (ks:List za9):za9.fold g ⟨k,r,ks⟩=g k r ks (ks.map (za9.fold g)):=by
 rw [za9.fold,List.attach_map_val]
theorem za9.fold_eq {α:Type} (g:Int→RelD→List za9→List α→α) (f:za9):za9.fold g f=g f.kind f.r f.kids (f.kids.map (za9.fold g)):=by cases f;exact za9.fold_mk g _ _ _
def za9.d (f:za9):List D:=f.fold fun k r _ ds=>[.raw (.int .i64 k),.sl 3 (r.t.parts.map zcz.d),.raw (.bool r.t.k.neg),nsl r.t.k.abs,.raw (.bool r.eq),.sl 6 ds]
theorem za9.d_eq (f:za9):f.d=[.raw (.int .i64 f.kind),.sl 3 (f.r.t.parts.map zcz.d),.raw (.bool f.r.t.k.neg),nsl f.r.t.k.abs,.raw (.bool f.r.eq),.sl 6 (f.kids.map za9.d)]:=za9.fold_eq _ f
theorem za9.d_len (f:za9):f.d.length=6:=by rw [za9.d_eq];rfl
def rawD (x:D):List D:=[x]
structure za1 where
  is_:Bool
  lo:ZI
  hi:ZI
def za1.d (x:za1):List D:=[.raw (.bool x.is_),.raw (.bool x.lo.neg),nsl x.lo.abs,.raw (.bool x.hi.neg),nsl x.hi.abs]
structure zah where
  v:Int
  any:Bool
  t:Term
def zah.d (x:zah):List D:=[.raw (.int .i64 x.v),.raw (.bool x.any),.sl 3 (x.t.parts.map zcz.d),.raw (.bool x.t.k.neg),nsl x.t.k.abs]
structure za6 where
  proc:Int
  from_:Int
  to_:Int
  guard:za9
  moves:List zah
def za6.d (x:za6):List D:=[.raw (.int .i64 x.proc),.raw (.int .i64 x.from_),.raw (.int .i64 x.to_),.raw (.int .i64 x.guard.kind),.sl 3 (x.guard.r.t.parts.map zcz.d),.raw (.bool x.guard.r.t.k.neg),nsl x.guard.r.t.k.abs,.raw (.bool x.guard.r.eq),.sl 6 (x.guard.kids.map za9.d),.sl 5 (x.moves.map zah.d)]
structure za2 where
  name:ByteArray
  locs:List ByteArray
  cmds:D
def za2.d (x:za2):List D:=[.raw (.string x.name),.sl 1 (x.locs.map za3),x.cmds]
structure zaj where
  vars:List ByteArray
  bounds:List za1
  init:za9
  procs:List za2
  acts:List za6
def zaj.d (x:zaj):List D:=[.sl 1 (x.vars.map za3),.sl 5 (x.bounds.map za1.d),.raw (.int .i64 x.init.kind),.sl 3 (x.init.r.t.parts.map zcz.d),.raw (.bool x.init.r.t.k.neg),nsl x.init.r.t.k.abs,.raw (.bool x.init.r.eq),.sl 6 (x.init.kids.map za9.d),.sl 3 (x.procs.map za2.d),.sl 10 (x.acts.map za6.d)]
structure StD where
  locs:List Int
  vals:List ZI
def StD.d (x:StD):List D:=[.sl 1 (x.locs.map intD),.sl 2 (x.vals.map ziD)]
structure zbw where
  stem:List StD
  cycle:List StD
  acts:List Int
def zbw.d (x:zbw):List D:=[.sl 2 (x.stem.map StD.d),.sl 2 (x.cycle.map StD.d),.sl 1 (x.acts.map intD)]
abbrev zF (x:za9):List C:=[.d (.raw (.int .i64 x.kind)),.d (.sl 3 (x.r.t.parts.map zcz.d))]++zi x.r.t.k++[.d (.raw (.bool x.r.eq)),.d (.sl 6 (x.kids.map za9.d))]
abbrev zR_ (x:RelD):List C:=[.d (.sl 3 (x.t.parts.map zcz.d))]++zi x.t.k++[.d (.raw (.bool x.eq))]
abbrev vF (x:za9):V:=.t (.agg (zF x))
abbrev vR (x:RelD):V:=.t (.agg (zR_ x))
abbrev vFs (x:List za9):V:=.t (.c (.d (.sl 6 (x.map za9.d))))
abbrev vRs (x:List RelD):V:=.t (.c (.d (.sl 4 (x.map RelD.d))))
abbrev cFs (x:List za9):C:=.d (.sl 6 (x.map za9.d))
abbrev cRs (x:List RelD):C:=.d (.sl 4 (x.map RelD.d))
section
variable {P:Program}
theorem zau.fnc {t:TypeId} {z:C} {dd:TypeDesc} (hu:P.underlying t=some dd) (ha:(match dd with | .struct _ | .array _ _=>true | _=>false)=false) (hs:(P.info? t).map (·.size)=some 1) (hz:Zero P t [z]):zau P t ⟨1,false,[],[z],4⟩ :=
 ⟨Sz.mk' hs hu _ ha.symm,fun k off n ag h=>(by simp at h),fun _=>hz,fun h=>absurd rfl h,fun h=>(by cases h),fun h=>(by cases h),fun h=>(by cases h),fun k h=>(by cases h)⟩
end
theorem all_take {α:Type} {q:α→Bool} {xs:List α} {j:Nat} {x:α} (h:xs[j]?=some x):(xs.take (j+1)).all q=((xs.take j).all q && q x):=by
 have e:xs.take (j+1)=xs.take j++[x]:=by rw [List.take_add_one,h];rfl
 rw [e,List.all_append];simp
theorem all_step {α:Type} {q:α→Bool} {xs:List α} {j:Nat} {x:α} (h:xs[j]?=some x) (h1:(xs.take j).all q=true) (h2:q x=true):(xs.take (j+1)).all q=true:=by rw [all_take h,h1,h2];rfl
theorem all_stop {α:Type} {q:α→Bool} {xs:List α} {j:Nat} {x:α} (h:xs[j]?=some x) (h2:q x=false):xs.all q=false:=by
 cases h3:xs.all q with
 | false=>rfl
 | true=>rw [List.all_eq_true.1 h3 x (List.mem_of_getElem? h)] at h2;cases h2
theorem all_end {α:Type} {q:α→Bool} {xs:List α} {j:Nat} (hj:¬ (j:Int)<(xs.length:Int)) (h1:(xs.take j).all q=true):xs.all q=true:=by rwa [List.take_of_length_le (by omega)] at h1
def cnt {α:Type} (k:Int) (xs:List α):List α:=if k=4∨k=5 then xs else if k=3 then xs.take 1 else []
theorem cnt_map {α β:Type} (g:α→β) (k:Int) (xs:List α):cnt k (xs.map g)=(cnt k xs).map g:=by unfold cnt;split;rfl;split;rw [List.map_take];rfl
theorem cnt_mem {α:Type} {k:Int} {xs:List α} {x:α} (h:x ∈ cnt k xs):x ∈ xs:=by
 unfold cnt at h
 split at h
 ·exact h
 ·split at h
  ·exact List.mem_of_mem_take h
  ·cases h
def sizeGo (lim:Int):List (Int→Int)→Int→Int
  | [],n=>n
  | s :: ss,n=>if n≤lim then sizeGo lim ss (n+s (lim - n)) else n
def za9.size (f:za9):Int→Int:=f.fold fun k _ _ ss lim=>sizeGo lim (cnt k ss) 1
def fewR (L:Int) (r:RelD):Bool:=decide ((r.t.parts.length:Int)≤20) && decide ((r.t.k.abs.length:Int)≤L) && r.t.parts.all fun p=>decide ((p.c.abs.length:Int)≤L)
def za9.few (L:Int) (f:za9):Bool:=f.fold fun k r _ bs=>(!(k == 2) || fewR L r) && (cnt k bs).all id
theorem za9.few_eq (L:Int) (f:za9):f.few L=((!(f.kind == 2) || fewR L f.r) && (cnt f.kind f.kids).all (za9.few L)):=by
 have:=za9.fold_eq (fun k r _ (bs:List Bool)=>(!(k == 2) || fewR L r) && (cnt k bs).all id) f
 rw [cnt_map,List.all_map] at this;exact this
def fewF (f:za9) (most L:Int):Bool:=!decide (f.size most>most) && f.few L
def TokR (L:Nat) (r:RelD):Prop:=TOk 20 L r.t
def za9.ok (L:Nat) (f:za9):Prop:=f.fold fun k r _ ps=>(k=2→TokR L r)∧∀ p ∈ cnt k ps,p
theorem za9.ok_eq (L:Nat) (f:za9):f.ok L ↔ (f.kind=2→TokR L f.r)∧∀ g ∈ cnt f.kind f.kids,g.ok L:=by
 have:=za9.fold_eq (fun k r _ (ps:List Prop)=>(k=2→TokR L r)∧∀ p ∈ cnt k ps,p) f
 rw [cnt_map] at this
 unfold za9.ok
 rw [this]
 refine and_congr_right fun _=>⟨fun h g hg=>h _ (List.mem_map.2 ⟨g,hg,rfl⟩),fun h p hp=>?_⟩
 obtain ⟨g,hg,rfl⟩:=List.mem_map.1 hp
 exact h g hg
def za9.lb (f:za9):Prop:=f.fold fun _ r ks ps=>(TLb r.t∧ks.length≤9223372036854775807)∧∀ p ∈ ps,p
theorem za9.lb_eq (f:za9):f.lb ↔ (TLb f.r.t∧f.kids.length≤9223372036854775807)∧∀ g ∈ f.kids,g.lb:=by
 have:=za9.fold_eq (fun _ r ks (ps:List Prop)=>(TLb r.t∧ks.length≤9223372036854775807)∧∀ p ∈ ps,p) f
 unfold za9.lb
 rw [this]
 refine and_congr_right fun _=>⟨fun h g hg=>h _ (List.mem_map.2 ⟨g,hg,rfl⟩),fun h p hp=>?_⟩
 obtain ⟨g,hg,rfl⟩:=List.mem_map.1 hp
 exact h g hg
theorem fewR_ok {L:Nat} {r:RelD} (h:fewR L r=true) (hl:TLb r.t):TokR L r:=by
 simp only [fewR,Bool.and_eq_true,decide_eq_true_eq,List.all_eq_true] at h
 exact ⟨by omega,fun p hp=>⟨hl.2 p hp,by have:=h.2 p hp;omega⟩,hl.1,by omega⟩
theorem za9.few_ok {L:Nat} (f:za9):f.few L=true→f.lb→f.ok L :=
 za9.ind (P:=fun f=>f.few L=true→f.lb→f.ok L) (fun k r ks ih h hl=>by
  rw [za9.few_eq,Bool.and_eq_true] at h
  rw [za9.lb_eq] at hl
  rw [za9.ok_eq]
  refine ⟨fun hk=>fewR_ok (by have:=h.1;rw [show ((za9.mk k r ks).kind == 2)=true from by rw [hk];rfl] at this;simpa using this) hl.1.1,fun g hg=>ih g (cnt_mem hg) (List.all_eq_true.1 h.2 g hg) (hl.2 g (cnt_mem hg))⟩) f
theorem kf_5:SlT Tryd.prog 36 65 3:=SlT.mk' Tryd.underlying36 (by kernel_rfl)
def zero0:ZI:=⟨false,[]⟩
def ZOk (L:Nat) (z:ZI):Prop:=Lb z.abs∧z.abs.length≤L
structure ActOk (L:Nat) (a:za6):Prop where
  guard:a.guard.lb∧a.guard.ok L
  len:a.moves.length≤20
  mv:∀ m ∈ a.moves,TOk 20 L m.t
structure SysOk (L:Nat) (s:zaj):Prop where
  vars:s.vars.length≤8
  bnds:s.bounds.length≤20
  procs:s.procs.length≤6
  acts:s.acts.length≤20
  bnd:∀ b ∈ s.bounds,ZOk L b.lo∧ZOk L b.hi
  init:s.init.lb∧s.init.ok L
  act:∀ a ∈ s.acts,ActOk L a
structure StOk (M:Nat) (x:StD):Prop where
  locs:x.locs.length≤10
  vals:x.vals.length≤10
  val:∀ z ∈ x.vals,ZOk M z
theorem ki_0:Sz Tryd.prog 101 10 true:=Sz.mk' (by kernel_rfl) Tryd.underlying101 _ rfl
theorem ki_1:SlT Tryd.prog 37 101 10:=SlT.mk' Tryd.underlying37 (by kernel_rfl)
def form0:za9:=⟨0,⟨⟨[],zero0⟩,false⟩,[]⟩
def zbx:za6:=⟨0,0,0,form0,[]⟩
section
variable {P:Program}
theorem Op.appOO {d t u n n' sn len len2 len' es bs:Nat} {rows rows2 rows':List (List D)} {xt el ty:TypeId} {pos af gd} (hT:ElT P xt el es bs) (hlen:len=rows.length) (hlen2:len2=rows2.length) (hlen':len'=len+rows2.length) (hrow:rows++rows2=rows')
  (hb:(len+rows2.length)*bs≤140737488355328) :
  zan P ⟨some d,.call { callee:=.builtin .append,args:=#[.tmp t,.tmp u],argTypes:=#[xt,xt] }, ty,pos,af,gd⟩
   { rs:=[(t,.t (.c (.own n len))),(u,.t (.c (.own sn len2)))],rl:=[(n,.row el es rows),(sn,.row el es rows2)],ws:=[(d,some (.t (.c (.own n' len'))))],wl:=[(n', some (.row el es rows')),(n,none)],nw:=[n'] }:=by
 rintro e f a w Q ⟨H,B,hok⟩ hr hnw hb0
 subst hlen hlen2 hlen' hrow
 have hnew:=hnw n' (by simp)
 have hl:=hr.2 (n,.row el es rows) (by simp)
 have h1:CR H B (.own n rows.length) (a.eval (.tmp t)):=hok.slot t _ (hr.1 (t,.t (.c (.own n rows.length))) (by simp))
 have hl2:=hr.2 (sn,.row el es rows2) (by simp)
 have h2:CR H B (.own sn rows2.length) (a.eval (.tmp u)):=hok.slot u _ (hr.1 (u,.t (.c (.own sn rows2.length))) (by simp))
 have hes2:∀ r ∈ rows2,r.length=es:=by
  cases hB:B sn with
  | none=>have:=hok.loc sn _ hl2;simp only [LR,hB] at this;rw [this];intro r hr;cases hr
  | some q=>obtain ⟨_,_,_,_,_,g5,_⟩:=hok.row hl2 hB;exact g5
 have hsrc:(rows2=[]∧∃ ao c,a.eval (.tmp u) = .slice ao 0 c)∨(0<rows2.length∧∃ b c news,a.eval (.tmp u) = .slice (some ⟨b,0,none⟩) rows2.length c∧news.length=rows2.length*es∧(∀ j u,news[j]?=some u→w.cell? ((⟨b,0,none⟩:Addr).add j)=some u)∧RowAt H news es rows2∧(∀ u ∈ news,u.oneCell'=true)):=by
  simp only [CR] at h2
  cases hB:B sn with
  | none=>rw [hB] at h2;obtain ⟨h3,ao,h4⟩:=h2;exact .inl ⟨List.length_eq_zero_iff.1 h3,ao,0,h4⟩
  | some q =>
   obtain ⟨b,c⟩:=q
   rw [hB] at h2
   obtain ⟨arr,g1,g2,g3,g4,g5,g6⟩:=hok.row hl2 hB
   by_cases hz0:rows2.length=0
   ·exact .inl ⟨List.length_eq_zero_iff.1 hz0,_,c,by rw [h2,hz0]⟩
   ·have hle:rows2.length*es≤c*es:=Nat.mul_le_mul_right _ g3
    refine .inr ⟨by omega,b,c,arr.take (rows2.length*es),h2,by rw [List.length_take];omega,fun j u hu=>?_,fun i r hri f x hx2=>?_,fun u hu=>?_⟩
    ·rw [List.getElem?_take] at hu
     split at hu
     ·rw [Addr.add_mid,Nat.zero_add];simp [World.cell?, g1,hu]
     ·cases hu
    ·obtain ⟨u,k1,k2⟩:=g6 i r hri f x hx2
     refine ⟨u,?_,k2⟩
     have hi2:=(List.getElem?_eq_some_iff.1 hri).1
     have hf2:=(List.getElem?_eq_some_iff.1 hx2).1
     rw [g5 r (List.mem_of_getElem? hri)] at hf2
     have:(i+1)*es≤rows2.length*es:=Nat.mul_le_mul_right _ hi2
     rw [Nat.add_mul] at this
     rw [List.getElem?_take,if_pos (by omega)];exact k1
    ·obtain ⟨j,hj⟩:=List.mem_iff_getElem?.1 hu
     have hj1:=(List.getElem?_eq_some_iff.1 hj).1
     rw [List.length_take] at hj1
     have hes0:0<es:=Nat.pos_of_ne_zero fun e=>by simp [e] at hj1
     have h5:j / es<rows2.length:=Nat.div_lt_of_lt_mul (by rw [Nat.mul_comm];omega)
     have h6:j % es<es:=Nat.mod_lt _ hes0
     have h7:(rows2[j / es]'h5).length=es:=g5 _ (List.getElem_mem h5)
     obtain ⟨u2,k1,k2⟩:=g6 (j / es) _ (List.getElem?_eq_getElem h5) (j % es) _ (List.getElem?_eq_getElem (by rw [h7];exact h6))
     have h8:j / es*es+j % es=j:=by rw [Nat.mul_comm];exact Nat.div_add_mod j es
     rw [h8] at k1
     rw [List.getElem?_take,if_pos (by omega),k1] at hj
     injection hj with hj
     subst hj
     exact zdc (DR.flat k2)
 obtain ⟨i,z,hi,hz,hsz,hby,hzs⟩:=hT.ex
 have hne:n≠n':=fun e=>by have:=hnew.2.1;rw [← e,hl] at this;cases this
 have hlr:=hok.loc n _ hl
 have hml:rows.length+rows2.length≤maxLen:=by
  have:(rows.length+rows2.length)*1≤(rows.length+rows2.length)*bs:=Nat.mul_le_mul_left _ hT.bpos
  simp only [maxLen];omega
 -- the run, the new block
 have main:∃ v w' p,(Builtin.append_ #[xt,xt] ty #[a.eval (.tmp t),a.eval (.tmp u)]).run P w = .ok v w'∧CR H (fun x=>if x=n' then p else B x) (.own n' (rows.length+rows2.length)) v ∧
   LR H (fun x=>if x=n' then p else B x) w' n' (.row el es (rows++rows2))∧w'.os=w.os∧w'.tape=w.tape∧w'.output=w.output∧w.heap.size≤w'.heap.size∧(∀ k,k<w.heap.size→(∀ c,B n≠some (k,c))→w'.heap[k]?=w.heap[k]?) ∧
   (∀ b c,p=some (b,c)→b<w'.heap.size∧((∃ c', B n=some (b,c'))∨w.heap.size≤b)):=by
  generalize a.eval (.tmp t)=vt at h1
  generalize a.eval (.tmp u)=vu at hsrc
  -- nothing is added
  have empty:∀ ao c,rows2=[]→∃ v w' p,(Builtin.append_ #[xt,xt] ty #[vt,.slice ao 0 c]).run P w = .ok v w'∧CR H (fun x=>if x=n' then p else B x) (.own n' (rows.length+rows2.length)) v ∧
    LR H (fun x=>if x=n' then p else B x) w' n' (.row el es (rows++rows2))∧w'.os=w.os∧w'.tape=w.tape∧w'.output=w.output∧w.heap.size≤w'.heap.size∧(∀ k,k<w.heap.size→(∀ c,B n≠some (k,c))→w'.heap[k]?=w.heap[k]?) ∧
    (∀ b c,p=some (b,c)→b<w'.heap.size∧((∃ c', B n=some (b,c'))∨w.heap.size≤b)):=by
   rintro ao c rfl
   have hrun:∀ base m cap,m≤cap→(Builtin.append_ #[xt,xt] ty #[.slice base m cap,.slice ao 0 c]).run P w = .ok (.slice base m cap) w:=by
    intro base m cap hmc
    cases ao <;> cases base <;> simp [Builtin.append_,run_underlying hT.hu,sizeOf,typeInfo,hi,Builtin.lenOf,hmc,Builtin.firstCells,loadCells,loadCellsFrom,storeCells]
   refine ⟨vt,w,B n,?_,?_,?_,rfl,rfl,rfl,Nat.le_refl _,fun _ _ _=>rfl,fun b c hb=>⟨(hok.priv n _ b c hl hb).1,.inl ⟨c,hb⟩⟩⟩
   ·simp only [CR] at h1
    cases hB:B n with
    | none=>rw [hB] at h1;obtain ⟨_,ao0,h1⟩:=h1;rw [h1];exact hrun ao0 0 0 (Nat.le_refl _)
    | some q =>
     obtain ⟨b,cc⟩:=q
     rw [hB] at h1
     obtain ⟨arr,g1,g2,g3,g4,g5,g6⟩:=hok.row hl hB
     rw [h1];exact hrun _ _ _ g3
   ·simp only [CR,if_true,List.length_nil,Nat.add_zero] at h1 ⊢;exact h1
   ·simp only [LR,if_true,List.append_nil] at hlr ⊢;exact hlr
  rcases hsrc with ⟨hz0,ao,c,rfl⟩ | ⟨hp,b,c,news,rfl,n1,n2,n3,n4⟩
  ·exact empty ao c hz0
  ·obtain ⟨vt0,hvt0,hblk,hown⟩:∃ vt0,(Builtin.append_ #[xt,xt] ty #[vt,.slice (some ⟨b,0,none⟩) rows2.length c]).run P w=(Builtin.append_ #[xt,xt] ty #[vt0,.slice (some ⟨b,0,none⟩) rows2.length c]).run P w∧vt0.ownBlock=(B n).map (·.1)∧∃ xs,w.ownsRow 0 el es vt0 rows.length xs∧RowAt H xs es rows:=by
    simp only [CR] at h1
    cases hB:B n with
    | none =>
     simp only [LR,hB] at hlr
     rw [hB] at h1
     subst hlr
     obtain ⟨_,ao0,rfl⟩:=h1
     refine ⟨.slice none 0 0,?_,rfl,[],⟨by simp,.inl ⟨rfl,rfl⟩⟩,fun i r hr=>by simp at hr⟩
     cases ao0 with
     | none=>rfl
     | some a0=>exact zd4 hT.hu hi hz hsz a0 n1 n2 hp (by simpa using hml) (by rw [hby];simpa using hb)
    | some q =>
     obtain ⟨b2,cc⟩:=q
     rw [hB] at h1
     obtain ⟨arr2,g1,g2,g3,g4,g5,g6⟩:=hok.row hl hB
     have hle:rows.length*es≤cc*es:=Nat.mul_le_mul_right _ g3
     refine ⟨vt,rfl,by rw [h1];rfl,arr2.take (rows.length*es),⟨by rw [List.length_take];omega,.inr ⟨b2,cc,⟨arr2⟩,h1,Nat.zero_le _,g1,g3,g4,by simpa using g2,rfl⟩⟩,?_⟩
     intro i r hri f x hx2
     obtain ⟨u,k1,k2⟩:=g6 i r hri f x hx2
     refine ⟨u,?_,k2⟩
     have hi2:=(List.getElem?_eq_some_iff.1 hri).1
     have hf2:=(List.getElem?_eq_some_iff.1 hx2).1
     rw [g5 r (List.mem_of_getElem? hri)] at hf2
     have:(i+1)*es≤rows.length*es:=Nat.mul_le_mul_right _ hi2
     rw [Nat.add_mul] at this
     rw [List.getElem?_take,if_pos (by omega)];exact k1
   obtain ⟨xs,hown,hxs⟩:=hown
   obtain ⟨v', w', r1,r2,r3,r4⟩:=run_append_own (P:=P) w 0 xt ty el i z es bs hT.hu hi hz hsz hby hzs hT.pos vt0 rows.length xs hown ⟨b,0,none⟩ rows2.length c news n1 n2 n4 hml hb (Nat.zero_le _)
   have hall:∀ r ∈ rows++rows2,r.length=es:=by
    intro r hr2
    rcases List.mem_append.1 hr2 with h' | h'
    ·cases hB:B n with
     | none=>simp only [LR,hB] at hlr;rw [hlr] at h';cases h'
     | some q=>obtain ⟨_,_,_,_,_,g5,_⟩:=hok.row hl hB;exact g5 r h'
    ·exact hes2 r h'
   have hboth:RowAt H (xs++news) es (rows++rows2):=by
    intro i2 r hri f x hx2
    by_cases hlt:i2<rows.length
    ·rw [List.getElem?_append_left hlt] at hri
     obtain ⟨u,k1,k2⟩:=hxs i2 r hri f x hx2
     exact ⟨u,by rw [List.getElem?_append_left (List.getElem?_eq_some_iff.1 k1).1];exact k1,k2⟩
    ·rw [List.getElem?_append_right (by omega)] at hri
     obtain ⟨u,k1,k2⟩:=n3 _ r hri f x hx2
     refine ⟨u,?_,k2⟩
     have hq:rows.length*es≤i2*es:=Nat.mul_le_mul_right _ (by omega)
     rw [List.getElem?_append_right (by rw [hown.1];omega),hown.1,← k1]
     congr 1
     rw [Nat.sub_mul];omega
   obtain ⟨q1,q2⟩:=r2
   have hkk:∀ k,k<w.heap.size→(∀ c,B n≠some (k,c))→w'.heap[k]?=w.heap[k]?:=by
    intro k hk hnk
    refine r3.block k hk ?_
    rw [hblk]
    intro e1
    cases hB:B n with
    | none=>rw [hB] at e1;cases e1
    | some q=>obtain ⟨b2,cc⟩:=q;rw [hB] at e1;simp at e1;exact hnk cc (by rw [hB,e1])
   rcases q2 with ⟨_,hn0⟩ | ⟨g,cap,cur,rfl,_,k2,k3,k4,k5,k6⟩
   ·omega
   ·refine ⟨_,w', some (g,cap),hvt0.trans r1,?_,?_,r3.os,r3.tape,r3.output,r3.size,hkk,?_⟩
    ·simp [CR]
    ·simp only [LR,if_true]
     refine ⟨cur.toList,k2,by simpa using k5,by simpa using k3,k4,hall,?_⟩
     refine (zcf (by simpa using k5) (by simpa using k3) hall).2 fun i2 r hri f x hx2=>?_
     obtain ⟨u,j1,j2⟩:=hboth i2 r hri f x hx2
     refine ⟨u,?_,j2⟩
     rw [← k6,List.getElem?_take] at j1
     split at j1
     ·exact j1
     ·cases j1
    ·rintro b3 c3 e3
     injection e3 with e3
     injection e3 with e3 e4
     subst e3 e4
     refine ⟨(Array.getElem?_eq_some_iff.1 k2).1,?_⟩
     rcases zd3 hT.hu hi hz hsz hown hp n1 n2 n4 hml (by rw [hby];exact hb) r1 g rfl with hh | hh
     ·rw [hblk] at hh
      cases hB:B n with
      | none=>rw [hB] at hh;cases hh
      | some q=>obtain ⟨b2,cc⟩:=q;rw [hB] at hh;simp at hh;exact .inl ⟨cc,by rw [hh]⟩
     ·exact .inr (by omega)
 obtain ⟨v,w', p,r1,r2,r3,r4,r5,r6,r7,r8,r9⟩:=main
 have hok':Ok e ⟨f.s,fun m=>if m=n' then some (.row el es (rows++rows2)) else if m=n then none else f.l m⟩ H (fun x=>if x=n' then p else B x) a w' :=
  hok.renew hl hnew p r4 r5 r6 r7 r8 r9 r3 (fun _=>rfl) (fun _=>rfl)
 refine wp_of_run (d:=d) rfl ?_ ⟨H,_,hok'.put (x:=some (.t (.c (.own n' (rows.length+rows2.length))))) (hb0.1 (d,some (.t (.c (.own n' (rows.length+rows2.length))))) (by simp)) (zd5 f d _ _ rfl) (fun m=>?_) (fun y hy=>by injection hy with hy;subst hy;exact r2)⟩
 ·generalize a.eval=ρ at r1 ⊢
  have e1:(Array.map ρ #[.tmp t,.tmp u])=#[ρ (.tmp t),ρ (.tmp u)]:=by simp
  simp only [execOp,resolve,e1,Sem.run_bind,Sem.run_pure,Result.andThen_ok,invoke,builtin,r1]
 ·simp only [F.app,List.lookup]
  by_cases e1:m=n'
  ·simp [e1]
  ·have g1:(m == n')=false:=by simpa using e1
   by_cases e2:m=n
   ·subst e2;simp [g1,e1]
   ·have g2:(m == n)=false:=by simpa using e2
    simp [g1,g2,e1,e2]
end
section
variable {P:Program}
theorem Op.strEq {d:Nat} {x y:Operand} {s1 s2:ByteArray} {r:Bool} {rs rs':List (Nat × V)} {xt yt ty:TypeId} {pos af gd} (h:OV x (vs s1) rs) (h':OV y (vs s2) rs') (hr:(s1.toList == s2.toList)=r) :
  zan P ⟨some d,.binOp .eql xt x y yt,ty,pos,af,gd⟩ { rs:=rs++rs', ws:=[(d,some (vb r))] }:=by
 subst hr
 refine Op.raw2 rfl h h' rfl fun ρ w h1 h2=>?_
 simp [execOp,h1,h2,eqGuard,go_sem]
theorem Op.strAdd {d:Nat} {x y:Operand} {s1 s2 r:ByteArray} {rs rs':List (Nat × V)} {xt yt ty:TypeId} {pos af gd} (h:OV x (vs s1) rs) (h':OV y (vs s2) rs') (hl:s1.size+s2.size≤9223372036854775807) (hr:s1++s2=r) :
  zan P ⟨some d,.binOp .add xt x y yt,ty,pos,af,gd⟩ { rs:=rs++rs', ws:=[(d,some (vs r))] }:=by
 subst hr
 refine Op.raw2 rfl h h' rfl fun ρ w h1 h2=>?_
 have hn:¬ (((s1.size+s2.size:Nat):Int)>IntKind.i64.max):=by
  have:IntKind.i64.max=9223372036854775807:=rfl
  omega
 have hs:Op.stringOp .add s1 s2=pure (.string (s1++s2)):=by
  unfold Op.stringOp
  simp only [hn,if_false]
 simp [execOp,h1,h2,eqGuard,binOp_string_add,hs]
end
theorem pa1_0:Sz Tryd.prog 65 3 true:=Sz.mk' (by kernel_rfl) Tryd.underlying65 _ rfl
theorem pa1_4:SlT Tryd.prog 22 9 1:=SlT.mk' Tryd.underlying22 (by kernel_rfl)
def atI {α:Type} (xs:List α) (i:Int):Option α:=if 0≤i then xs[i.toNat]? else none
theorem zcm {α:Type} {xs:List α} {i:Int} {y:α} (h:atI xs i=some y):∃ k:Nat,i=(k:Int)∧xs[k]?=some y:=by
 unfold atI at h
 split at h
 ·exact ⟨i.toNat,(Int.toNat_of_nonneg (by assumption)).symm,h⟩
 ·cases h
theorem atI_no {α:Type} {xs:List α} {i:Int} (h:atI xs i=none) (h0:¬ i<0):i≥(xs.length:Int):=by
 unfold atI at h
 rw [if_pos (by omega)] at h
 have:=List.getElem?_eq_none_iff.1 h
 omega
theorem zcx {α:Type} {xs:List α} {k:Nat}:atI xs (k:Int)=xs[k]?:=by unfold atI;rw [if_pos (by omega),Int.toNat_natCast]
def zbv:za2:=⟨⟨#[]⟩,[],.raw za4⟩
def plW (s:zaj) (p l:Int):ByteArray:=match atI s.procs p with
  | none=>⟨#[63,64,63]⟩
  | some pr=>(pr.name++⟨#[64]⟩)++(match atI pr.locs l with | none=>⟨#[63]⟩ | some t=>t)
set_option maxHeartbeats 4000000 in
theorem PAtPN (xs:List za2) (i:Int) (hi:atI xs i=none):Fn Tryd.prog 46 [] [.t (.c (.d (.sl 3 (xs.map za2.d)))),vi .i64 i] (.tup [.agg [.d (.raw (.string zbv.name)),.d (.sl 1 (zbv.locs.map za3)),.d zbv.cmds],.c (cB false)]) []:=by
 refine Fn.body Tryd.func46 rfl 20 rfl fun w H B a h=>?_
 refine rq za0 0 [] [(0,.t (.c (.d (.sl 3 (xs.map za2.d))))),(1,vi .i64 i),(4,vp 0 0),(5,vb false)] [(0,.box [.d (.raw (.string ByteArray.empty)),.d (.raw za4),.d (.raw za4)])] h ?_;clear h;intro a w h
 refine rq za0 1 [] [(0,.t (.c (.d (.sl 3 (xs.map za2.d))))),(1,vi .i64 i),(4,vp 0 0),(5,vb false),(6,vp 1 0)] [(0,.box [.d (.raw (.string ByteArray.empty)),.d (.raw za4),.d (.raw za4)]),(1,.box [.d (.raw (.string ByteArray.empty)),.d (.raw za4),.d (.raw za4)])] h ?_;clear h;intro a w h
 refine wp_seq ?_
 rcases Bool.eq_false_or_eq_true (decide (i<0)) with hc | hc
 ·have hc1:=hc;clear hc
  have hc1':=of_decide_eq_true hc1
  refine rq za0 2 [(1,.cmp (op:=.lss) (m:=i) (n:=0) (b:=true) .i64 hc1)] [(0,.t (.c (.d (.sl 3 (xs.map za2.d))))),(1,vi .i64 i),(4,vp 0 0),(5,vb false),(6,vp 1 0),(14,vb true)] [(0,.box [.d (.raw (.string ByteArray.empty)),.d (.raw za4),.d (.raw za4)]),(1,.box [.d (.raw (.string ByteArray.empty)),.d (.raw za4),.d (.raw za4)])] h ?_;clear h;intro a w h
  refine zad true h rfl (fun hc=>?_) (fun hc=>?_)
  ·clear hc
   refine rq za0 2 [] [(0,.t (.c (.d (.sl 3 (xs.map za2.d))))),(1,vi .i64 i),(4,vp 0 0),(5,vb false)] [(0,.box [.d (.raw (.string ByteArray.empty)),.d (.raw za4),.d (.raw za4)])] h ?_;clear h;intro a w h
   refine wp_ret (zaf ?_)
   replace h:=zc9 0 1 1 [.d (.raw (.string ByteArray.empty)),.d (.raw za4),.d (.raw za4)] [(0,.t (.c (.d (.sl 3 (xs.map za2.d))))),(1,vi .i64 i),(4,vp 0 0),(5,vb false)] [(0,.box [.d (.raw (.string ByteArray.empty)),.d (.sl 1 ([].map za3)),.d (.raw za4)])] h rfl rfl
   refine zb0 [.agg [.d (.raw (.string ByteArray.empty)),.d (.sl 1 ([].map za3)),.d (.raw za4)],.c (cB false)] h Exit.ret (.inl rfl)  rfl ⟨RV.agg _ 0 0 _ _ _ _ pa1_0 rfl rfl rfl rfl,RV.tmp _ _ rfl,trivial⟩ ?_
   rfl
  ·cases hc
 ·have hc2:=hc;clear hc
  have hc2':=of_decide_eq_false hc2
  refine rq za0 2 [(1,.cmp (op:=.lss) (m:=i) (n:=0) (b:=false) .i64 hc2),(5,.len (c:=(.d (.sl 3 (xs.map za2.d)))) (n:=xs.length) (za8 _ _ _)),(6,.cmp (op:=.geq) (m:=i) (n:=(xs.length:Int)) (b:=true) .i64 (decide_eq_true (atI_no hi (of_decide_eq_false hc2))))] [(0,.t (.c (.d (.sl 3 (xs.map za2.d))))),(1,vi .i64 i),(4,vp 0 0),(5,vb false),(6,vp 1 0),(14,vb true)] [(0,.box [.d (.raw (.string ByteArray.empty)),.d (.raw za4),.d (.raw za4)]),(1,.box [.d (.raw (.string ByteArray.empty)),.d (.raw za4),.d (.raw za4)])] h ?_;clear h;intro a w h
  refine zad true h rfl (fun hc=>?_) (fun hc=>?_)
  ·clear hc
   refine rq za0 2 [] [(0,.t (.c (.d (.sl 3 (xs.map za2.d))))),(1,vi .i64 i),(4,vp 0 0),(5,vb false)] [(0,.box [.d (.raw (.string ByteArray.empty)),.d (.raw za4),.d (.raw za4)])] h ?_;clear h;intro a w h
   refine wp_ret (zaf ?_)
   replace h:=zc9 0 1 1 [.d (.raw (.string ByteArray.empty)),.d (.raw za4),.d (.raw za4)] [(0,.t (.c (.d (.sl 3 (xs.map za2.d))))),(1,vi .i64 i),(4,vp 0 0),(5,vb false)] [(0,.box [.d (.raw (.string ByteArray.empty)),.d (.sl 1 ([].map za3)),.d (.raw za4)])] h rfl rfl
   refine zb0 [.agg [.d (.raw (.string ByteArray.empty)),.d (.sl 1 ([].map za3)),.d (.raw za4)],.c (cB false)] h Exit.ret (.inl rfl)  rfl ⟨RV.agg _ 0 0 _ _ _ _ pa1_0 rfl rfl rfl rfl,RV.tmp _ _ rfl,trivial⟩ ?_
   rfl
  ·cases hc
set_option maxHeartbeats 4000000 in
theorem PAtPS0 (xs:List za2) (k:Nat) (y:za2) (hk:xs[k]?=some y):Fn Tryd.prog 46 [] [.t (.c (.d (.sl 3 (xs.map za2.d)))),vi .i64 (k:Int)] (.tup [.agg [.d (.raw (.string y.name)),.d (.sl 1 (y.locs.map za3)),.d y.cmds],.c (cB true)]) []:=by
 have lk:=zat hk
 refine Fn.body Tryd.func46 rfl 20 rfl fun w H B a h=>?_
 refine rq za0 0 [] [(0,.t (.c (.d (.sl 3 (xs.map za2.d))))),(1,vi .i64 (k:Int)),(4,vp 0 0),(5,vb false)] [(0,.box [.d (.raw (.string ByteArray.empty)),.d (.raw za4),.d (.raw za4)])] h ?_;clear h;intro a w h
 refine rq za0 1 [] [(0,.t (.c (.d (.sl 3 (xs.map za2.d))))),(1,vi .i64 (k:Int)),(4,vp 0 0),(5,vb false),(6,vp 1 0)] [(0,.box [.d (.raw (.string ByteArray.empty)),.d (.raw za4),.d (.raw za4)]),(1,.box [.d (.raw (.string ByteArray.empty)),.d (.raw za4),.d (.raw za4)])] h ?_;clear h;intro a w h
 refine wp_seq (rq za0 2 [(1,.cmp (op:=.lss) (m:=(k:Int)) (n:=0) (b:=false) .i64 (show (decide ((k:Int)<0))=false from decide_eq_false (by omega))),(5,.len (c:=(.d (.sl 3 (xs.map za2.d)))) (n:=xs.length) (za8 _ _ _)),(6,.cmp (op:=.geq) (m:=(k:Int)) (n:=(xs.length:Int)) (b:=false) .i64 (show (decide ((k:Int)≥(xs.length:Int)))=false from decide_eq_false (by omega)))] [(0,.t (.c (.d (.sl 3 (xs.map za2.d))))),(1,vi .i64 (k:Int)),(4,vp 0 0),(5,vb false),(6,vp 1 0),(14,vb false)] [(0,.box [.d (.raw (.string ByteArray.empty)),.d (.raw za4),.d (.raw za4)]),(1,.box [.d (.raw (.string ByteArray.empty)),.d (.raw za4),.d (.raw za4)])] h ?_);clear h;intro a w h
 refine zad false h rfl (fun hc=>?_) (fun hc=>?_)
 ·cases hc
 ·clear hc
  refine wp_skip (za5 (rq za0 2 [(2,.gen _ _ _ fun _ _ _ _=>Op.idxD (d:=18) (t:=16) (k:=.i64) kf_5 (zb2 hk (f:=za2.d)) (OV.tmp 17 _))] [(4,vp 0 0),(5,vb true)] [(0,.box [.d (.raw (.string y.name)),.d (.sl 1 (y.locs.map za3)),.d y.cmds])] h ?_));clear h;intro a w h
  refine wp_ret ?_
  refine zb0 [.agg [.d (.raw (.string y.name)),.d (.sl 1 (y.locs.map za3)),.d y.cmds],.c (cB true)] h Exit.ret (.inl rfl)  rfl ⟨RV.agg _ 0 0 _ _ _ _ pa1_0 rfl rfl rfl rfl,RV.tmp _ _ rfl,trivial⟩ ?_
  rfl
theorem PAtPS (xs:List za2) (i:Int) (y:za2) (hi:atI xs i=some y):Fn Tryd.prog 46 [] [.t (.c (.d (.sl 3 (xs.map za2.d)))),vi .i64 i] (.tup [.agg [.d (.raw (.string y.name)),.d (.sl 1 (y.locs.map za3)),.d y.cmds],.c (cB true)]) []:=by
 obtain ⟨k,rfl,hk⟩:=zcm hi
 exact PAtPS0 xs k y hk
set_option maxHeartbeats 4000000 in
theorem PAtAN (xs:List za6) (i:Int) (hi:atI xs i=none):Fn Tryd.prog 45 [] [.t (.c (.d (.sl 10 (xs.map za6.d)))),vi .i64 i] (.tup [.agg ([cI zbx.proc,cI zbx.from_,cI zbx.to_,cI zbx.guard.kind,cPs zbx.guard.r.t.parts]++zi zbx.guard.r.t.k++[cB zbx.guard.r.eq,cFs zbx.guard.kids,.d (.sl 5 (zbx.moves.map zah.d))]),.c (cB false)]) []:=by
 refine Fn.body Tryd.func45 rfl 20 rfl fun w H B a h=>?_
 refine rq za0 0 [] [(0,.t (.c (.d (.sl 10 (xs.map za6.d))))),(1,vi .i64 i),(4,vp 0 0),(5,vb false)] [(0,.box [cI 0,cI 0,cI 0,cI 0,.d (.raw za4),cB false,.d (nsl []),cB false,.d (.raw za4),.d (.raw za4)])] h ?_;clear h;intro a w h
 refine rq za0 1 [] [(0,.t (.c (.d (.sl 10 (xs.map za6.d))))),(1,vi .i64 i),(4,vp 0 0),(5,vb false),(6,vp 1 0)] [(0,.box [cI 0,cI 0,cI 0,cI 0,.d (.raw za4),cB false,.d (nsl []),cB false,.d (.raw za4),.d (.raw za4)]),(1,.box [cI 0,cI 0,cI 0,cI 0,.d (.raw za4),cB false,.d (nsl []),cB false,.d (.raw za4),.d (.raw za4)])] h ?_;clear h;intro a w h
 refine wp_seq ?_
 rcases Bool.eq_false_or_eq_true (decide (i<0)) with hc | hc
 ·have hc1:=hc;clear hc
  have hc1':=of_decide_eq_true hc1
  refine rq za0 2 [(1,.cmp (op:=.lss) (m:=i) (n:=0) (b:=true) .i64 hc1)] [(0,.t (.c (.d (.sl 10 (xs.map za6.d))))),(1,vi .i64 i),(4,vp 0 0),(5,vb false),(6,vp 1 0),(14,vb true)] [(0,.box [cI 0,cI 0,cI 0,cI 0,.d (.raw za4),cB false,.d (nsl []),cB false,.d (.raw za4),.d (.raw za4)]),(1,.box [cI 0,cI 0,cI 0,cI 0,.d (.raw za4),cB false,.d (nsl []),cB false,.d (.raw za4),.d (.raw za4)])] h ?_;clear h;intro a w h
  refine zad true h rfl (fun hc=>?_) (fun hc=>?_)
  ·clear hc
   refine rq za0 2 [] [(0,.t (.c (.d (.sl 10 (xs.map za6.d))))),(1,vi .i64 i),(4,vp 0 0),(5,vb false)] [(0,.box [cI 0,cI 0,cI 0,cI 0,.d (.raw za4),cB false,.d (nsl []),cB false,.d (.raw za4),.d (.raw za4)])] h ?_;clear h;intro a w h
   refine wp_ret (zaf ?_)
   replace h:=zc9 0 4 3 [cI 0,cI 0,cI 0,cI 0,.d (.raw za4),cB false,.d (nsl []),cB false,.d (.raw za4),.d (.raw za4)] [(0,.t (.c (.d (.sl 10 (xs.map za6.d))))),(1,vi .i64 i),(4,vp 0 0),(5,vb false)] [(0,.box [cI 0,cI 0,cI 0,cI 0,cPs [],cB false,.d (nsl []),cB false,.d (.raw za4),.d (.raw za4)])] h rfl rfl
   replace h:=zc9 0 8 6 [cI 0,cI 0,cI 0,cI 0,cPs [],cB false,.d (nsl []),cB false,.d (.raw za4),.d (.raw za4)] [(0,.t (.c (.d (.sl 10 (xs.map za6.d))))),(1,vi .i64 i),(4,vp 0 0),(5,vb false)] [(0,.box [cI 0,cI 0,cI 0,cI 0,cPs [],cB false,.d (nsl []),cB false,cFs [],.d (.raw za4)])] h rfl rfl
   replace h:=zc9 0 9 5 [cI 0,cI 0,cI 0,cI 0,cPs [],cB false,.d (nsl []),cB false,cFs [],.d (.raw za4)] [(0,.t (.c (.d (.sl 10 (xs.map za6.d))))),(1,vi .i64 i),(4,vp 0 0),(5,vb false)] [(0,.box [cI 0,cI 0,cI 0,cI 0,cPs [],cB false,.d (nsl []),cB false,cFs [],.d (.sl 5 ([].map zah.d))])] h rfl rfl
   refine zb0 [.agg [cI 0,cI 0,cI 0,cI 0,cPs [],cB false,.d (nsl []),cB false,cFs [],.d (.sl 5 ([].map zah.d))],.c (cB false)] h Exit.ret (.inl rfl)  rfl ⟨RV.agg _ 0 0 _ _ _ _ ki_0 rfl rfl rfl rfl,RV.tmp _ _ rfl,trivial⟩ ?_
   rfl
  ·cases hc
 ·have hc2:=hc;clear hc
  have hc2':=of_decide_eq_false hc2
  refine rq za0 2 [(1,.cmp (op:=.lss) (m:=i) (n:=0) (b:=false) .i64 hc2),(5,.len (c:=(.d (.sl 10 (xs.map za6.d)))) (n:=xs.length) (za8 _ _ _)),(6,.cmp (op:=.geq) (m:=i) (n:=(xs.length:Int)) (b:=true) .i64 (decide_eq_true (atI_no hi (of_decide_eq_false hc2))))] [(0,.t (.c (.d (.sl 10 (xs.map za6.d))))),(1,vi .i64 i),(4,vp 0 0),(5,vb false),(6,vp 1 0),(14,vb true)] [(0,.box [cI 0,cI 0,cI 0,cI 0,.d (.raw za4),cB false,.d (nsl []),cB false,.d (.raw za4),.d (.raw za4)]),(1,.box [cI 0,cI 0,cI 0,cI 0,.d (.raw za4),cB false,.d (nsl []),cB false,.d (.raw za4),.d (.raw za4)])] h ?_;clear h;intro a w h
  refine zad true h rfl (fun hc=>?_) (fun hc=>?_)
  ·clear hc
   refine rq za0 2 [] [(0,.t (.c (.d (.sl 10 (xs.map za6.d))))),(1,vi .i64 i),(4,vp 0 0),(5,vb false)] [(0,.box [cI 0,cI 0,cI 0,cI 0,.d (.raw za4),cB false,.d (nsl []),cB false,.d (.raw za4),.d (.raw za4)])] h ?_;clear h;intro a w h
   refine wp_ret (zaf ?_)
   replace h:=zc9 0 4 3 [cI 0,cI 0,cI 0,cI 0,.d (.raw za4),cB false,.d (nsl []),cB false,.d (.raw za4),.d (.raw za4)] [(0,.t (.c (.d (.sl 10 (xs.map za6.d))))),(1,vi .i64 i),(4,vp 0 0),(5,vb false)] [(0,.box [cI 0,cI 0,cI 0,cI 0,cPs [],cB false,.d (nsl []),cB false,.d (.raw za4),.d (.raw za4)])] h rfl rfl
   replace h:=zc9 0 8 6 [cI 0,cI 0,cI 0,cI 0,cPs [],cB false,.d (nsl []),cB false,.d (.raw za4),.d (.raw za4)] [(0,.t (.c (.d (.sl 10 (xs.map za6.d))))),(1,vi .i64 i),(4,vp 0 0),(5,vb false)] [(0,.box [cI 0,cI 0,cI 0,cI 0,cPs [],cB false,.d (nsl []),cB false,cFs [],.d (.raw za4)])] h rfl rfl
   replace h:=zc9 0 9 5 [cI 0,cI 0,cI 0,cI 0,cPs [],cB false,.d (nsl []),cB false,cFs [],.d (.raw za4)] [(0,.t (.c (.d (.sl 10 (xs.map za6.d))))),(1,vi .i64 i),(4,vp 0 0),(5,vb false)] [(0,.box [cI 0,cI 0,cI 0,cI 0,cPs [],cB false,.d (nsl []),cB false,cFs [],.d (.sl 5 ([].map zah.d))])] h rfl rfl
   refine zb0 [.agg [cI 0,cI 0,cI 0,cI 0,cPs [],cB false,.d (nsl []),cB false,cFs [],.d (.sl 5 ([].map zah.d))],.c (cB false)] h Exit.ret (.inl rfl)  rfl ⟨RV.agg _ 0 0 _ _ _ _ ki_0 rfl rfl rfl rfl,RV.tmp _ _ rfl,trivial⟩ ?_
   rfl
  ·cases hc
set_option maxHeartbeats 4000000 in
theorem PAtAS0 (xs:List za6) (k:Nat) (y:za6) (hk:xs[k]?=some y):Fn Tryd.prog 45 [] [.t (.c (.d (.sl 10 (xs.map za6.d)))),vi .i64 (k:Int)] (.tup [.agg ([cI y.proc,cI y.from_,cI y.to_,cI y.guard.kind,cPs y.guard.r.t.parts]++zi y.guard.r.t.k++[cB y.guard.r.eq,cFs y.guard.kids,.d (.sl 5 (y.moves.map zah.d))]),.c (cB true)]) []:=by
 have lk:=zat hk
 refine Fn.body Tryd.func45 rfl 20 rfl fun w H B a h=>?_
 refine rq za0 0 [] [(0,.t (.c (.d (.sl 10 (xs.map za6.d))))),(1,vi .i64 (k:Int)),(4,vp 0 0),(5,vb false)] [(0,.box [cI 0,cI 0,cI 0,cI 0,.d (.raw za4),cB false,.d (nsl []),cB false,.d (.raw za4),.d (.raw za4)])] h ?_;clear h;intro a w h
 refine rq za0 1 [] [(0,.t (.c (.d (.sl 10 (xs.map za6.d))))),(1,vi .i64 (k:Int)),(4,vp 0 0),(5,vb false),(6,vp 1 0)] [(0,.box [cI 0,cI 0,cI 0,cI 0,.d (.raw za4),cB false,.d (nsl []),cB false,.d (.raw za4),.d (.raw za4)]),(1,.box [cI 0,cI 0,cI 0,cI 0,.d (.raw za4),cB false,.d (nsl []),cB false,.d (.raw za4),.d (.raw za4)])] h ?_;clear h;intro a w h
 refine wp_seq (rq za0 2 [(1,.cmp (op:=.lss) (m:=(k:Int)) (n:=0) (b:=false) .i64 (show (decide ((k:Int)<0))=false from decide_eq_false (by omega))),(5,.len (c:=(.d (.sl 10 (xs.map za6.d)))) (n:=xs.length) (za8 _ _ _)),(6,.cmp (op:=.geq) (m:=(k:Int)) (n:=(xs.length:Int)) (b:=false) .i64 (show (decide ((k:Int)≥(xs.length:Int)))=false from decide_eq_false (by omega)))] [(0,.t (.c (.d (.sl 10 (xs.map za6.d))))),(1,vi .i64 (k:Int)),(4,vp 0 0),(5,vb false),(6,vp 1 0),(14,vb false)] [(0,.box [cI 0,cI 0,cI 0,cI 0,.d (.raw za4),cB false,.d (nsl []),cB false,.d (.raw za4),.d (.raw za4)]),(1,.box [cI 0,cI 0,cI 0,cI 0,.d (.raw za4),cB false,.d (nsl []),cB false,.d (.raw za4),.d (.raw za4)])] h ?_);clear h;intro a w h
 refine zad false h rfl (fun hc=>?_) (fun hc=>?_)
 ·cases hc
 ·clear hc
  refine wp_skip (za5 (rq za0 2 [(2,.gen _ _ _ fun _ _ _ _=>Op.idxD (d:=18) (t:=16) (k:=.i64) ki_1 (zb2 hk (f:=za6.d)) (OV.tmp 17 _))] [(4,vp 0 0),(5,vb true)] [(0,.box ([cI y.proc,cI y.from_,cI y.to_,cI y.guard.kind,cPs y.guard.r.t.parts]++zi y.guard.r.t.k++[cB y.guard.r.eq,cFs y.guard.kids,.d (.sl 5 (y.moves.map zah.d))]))] h ?_));clear h;intro a w h
  refine wp_ret ?_
  refine zb0 [.agg ([cI y.proc,cI y.from_,cI y.to_,cI y.guard.kind,cPs y.guard.r.t.parts]++zi y.guard.r.t.k++[cB y.guard.r.eq,cFs y.guard.kids,.d (.sl 5 (y.moves.map zah.d))]),.c (cB true)] h Exit.ret (.inl rfl)  rfl ⟨RV.agg _ 0 0 _ _ _ _ ki_0 rfl rfl rfl rfl,RV.tmp _ _ rfl,trivial⟩ ?_
  rfl
theorem PAtAS (xs:List za6) (i:Int) (y:za6) (hi:atI xs i=some y):Fn Tryd.prog 45 [] [.t (.c (.d (.sl 10 (xs.map za6.d)))),vi .i64 i] (.tup [.agg ([cI y.proc,cI y.from_,cI y.to_,cI y.guard.kind,cPs y.guard.r.t.parts]++zi y.guard.r.t.k++[cB y.guard.r.eq,cFs y.guard.kids,.d (.sl 5 (y.moves.map zah.d))]),.c (cB true)]) []:=by
 obtain ⟨k,rfl,hk⟩:=zcm hi
 exact PAtAS0 xs k y hk
set_option maxHeartbeats 4000000 in
theorem PAtTN (xs:List ByteArray) (i:Int) (hi:atI xs i=none):Fn Tryd.prog 42 [] [.t (.c (.d (.sl 1 (xs.map za3)))),vi .i64 i] (.tup [.c (.d (.raw (.string (⟨#[]⟩:ByteArray)))),.c (cB false)]) []:=by
 refine Fn.body Tryd.func42 rfl 20 rfl fun w H B a h=>?_
 refine rq za0 0 [] [(0,.t (.c (.d (.sl 1 (xs.map za3))))),(1,vi .i64 i),(4,.t (.c (.d (.raw (.string ByteArray.empty))))),(5,vb false)] [] h ?_;clear h;intro a w h
 refine rq za0 0 [] [(0,.t (.c (.d (.sl 1 (xs.map za3))))),(1,vi .i64 i),(4,.t (.c (.d (.raw (.string ByteArray.empty))))),(5,vb false),(6,.t (.c (.d (.raw (.string ByteArray.empty)))))] [] h ?_;clear h;intro a w h
 refine wp_seq ?_
 rcases Bool.eq_false_or_eq_true (decide (i<0)) with hc | hc
 ·have hc1:=hc;clear hc
  have hc1':=of_decide_eq_true hc1
  refine rq za0 0 [(1,.cmp (op:=.lss) (m:=i) (n:=0) (b:=true) .i64 hc1)] [(0,.t (.c (.d (.sl 1 (xs.map za3))))),(1,vi .i64 i),(4,.t (.c (.d (.raw (.string ByteArray.empty))))),(5,vb false),(6,.t (.c (.d (.raw (.string ByteArray.empty))))),(14,vb true)] [] h ?_;clear h;intro a w h
  refine zad true h rfl (fun hc=>?_) (fun hc=>?_)
  ·clear hc
   refine rq za0 0 [] [(0,.t (.c (.d (.sl 1 (xs.map za3))))),(1,vi .i64 i),(4,.t (.c (.d (.raw (.string ByteArray.empty))))),(5,vb false)] [] h ?_;clear h;intro a w h
   refine wp_ret (zaf ?_)
   refine zb0 [.c (.d (.raw (.string ByteArray.empty))),.c (cB false)] h Exit.ret (.inl rfl)  rfl ⟨RV.tmp _ _ rfl,RV.tmp _ _ rfl,trivial⟩ ?_
   rfl
  ·cases hc
 ·have hc2:=hc;clear hc
  have hc2':=of_decide_eq_false hc2
  refine rq za0 0 [(1,.cmp (op:=.lss) (m:=i) (n:=0) (b:=false) .i64 hc2),(5,.len (c:=(.d (.sl 1 (xs.map za3)))) (n:=xs.length) (za8 _ _ _)),(6,.cmp (op:=.geq) (m:=i) (n:=(xs.length:Int)) (b:=true) .i64 (decide_eq_true (atI_no hi (of_decide_eq_false hc2))))] [(0,.t (.c (.d (.sl 1 (xs.map za3))))),(1,vi .i64 i),(4,.t (.c (.d (.raw (.string ByteArray.empty))))),(5,vb false),(6,.t (.c (.d (.raw (.string ByteArray.empty))))),(14,vb true)] [] h ?_;clear h;intro a w h
  refine zad true h rfl (fun hc=>?_) (fun hc=>?_)
  ·clear hc
   refine rq za0 0 [] [(0,.t (.c (.d (.sl 1 (xs.map za3))))),(1,vi .i64 i),(4,.t (.c (.d (.raw (.string ByteArray.empty))))),(5,vb false)] [] h ?_;clear h;intro a w h
   refine wp_ret (zaf ?_)
   refine zb0 [.c (.d (.raw (.string ByteArray.empty))),.c (cB false)] h Exit.ret (.inl rfl)  rfl ⟨RV.tmp _ _ rfl,RV.tmp _ _ rfl,trivial⟩ ?_
   rfl
  ·cases hc
set_option maxHeartbeats 4000000 in
theorem PAtTS0 (xs:List ByteArray) (k:Nat) (y:ByteArray) (hk:xs[k]?=some y):Fn Tryd.prog 42 [] [.t (.c (.d (.sl 1 (xs.map za3)))),vi .i64 (k:Int)] (.tup [.c (.d (.raw (.string y))),.c (cB true)]) []:=by
 have lk:=zat hk
 refine Fn.body Tryd.func42 rfl 20 rfl fun w H B a h=>?_
 refine rq za0 0 [] [(0,.t (.c (.d (.sl 1 (xs.map za3))))),(1,vi .i64 (k:Int)),(4,.t (.c (.d (.raw (.string ByteArray.empty))))),(5,vb false)] [] h ?_;clear h;intro a w h
 refine rq za0 0 [] [(0,.t (.c (.d (.sl 1 (xs.map za3))))),(1,vi .i64 (k:Int)),(4,.t (.c (.d (.raw (.string ByteArray.empty))))),(5,vb false),(6,.t (.c (.d (.raw (.string ByteArray.empty)))))] [] h ?_;clear h;intro a w h
 refine wp_seq (rq za0 0 [(1,.cmp (op:=.lss) (m:=(k:Int)) (n:=0) (b:=false) .i64 (show (decide ((k:Int)<0))=false from decide_eq_false (by omega))),(5,.len (c:=(.d (.sl 1 (xs.map za3)))) (n:=xs.length) (za8 _ _ _)),(6,.cmp (op:=.geq) (m:=(k:Int)) (n:=(xs.length:Int)) (b:=false) .i64 (show (decide ((k:Int)≥(xs.length:Int)))=false from decide_eq_false (by omega)))] [(0,.t (.c (.d (.sl 1 (xs.map za3))))),(1,vi .i64 (k:Int)),(4,.t (.c (.d (.raw (.string ByteArray.empty))))),(5,vb false),(6,.t (.c (.d (.raw (.string ByteArray.empty))))),(14,vb false)] [] h ?_);clear h;intro a w h
 refine zad false h rfl (fun hc=>?_) (fun hc=>?_)
 ·cases hc
 ·clear hc
  refine wp_skip (za5 (rq za0 0 [(2,.gen _ _ _ fun _ _ _ _=>Op.idxD (d:=18) (t:=16) (k:=.i64) pa1_4 (zb2 hk (f:=za3)) (OV.tmp 17 _))] [(4,.t (.c (.d (.raw (.string y))))),(5,vb true)] [] h ?_));clear h;intro a w h
  refine wp_ret ?_
  refine zb0 [.c (.d (.raw (.string y))),.c (cB true)] h Exit.ret (.inl rfl)  rfl ⟨RV.tmp _ _ rfl,RV.tmp _ _ rfl,trivial⟩ ?_
  rfl
theorem PAtTS (xs:List ByteArray) (i:Int) (y:ByteArray) (hi:atI xs i=some y):Fn Tryd.prog 42 [] [.t (.c (.d (.sl 1 (xs.map za3)))),vi .i64 i] (.tup [.c (.d (.raw (.string y))),.c (cB true)]) []:=by
 obtain ⟨k,rfl,hk⟩:=zcm hi
 exact PAtTS0 xs k y hk
theorem pb1_0:zaa Tryd.prog 46:=zaa.mk' (by kernel_rfl)
theorem pb1_1:zaa Tryd.prog 42:=zaa.mk' (by kernel_rfl)
structure zcy (s:zaj):Prop where
  vars:∀ v ∈ s.vars,v.size≤1048576
  name:∀ p ∈ s.procs,p.name.size≤1048576
  locs:∀ p ∈ s.procs,∀ t ∈ p.locs,t.size≤1048576
theorem plW_n {s:zaj} {p l:Int} (h:atI s.procs p=none):plW s p l=(⟨#[63,64,63]⟩:ByteArray):=by unfold plW;rw [h]
theorem plW_s {s:zaj} {p l:Int} {pr:za2} (h:atI s.procs p=some pr) (h2:atI pr.locs l=none):plW s p l=(pr.name++(⟨#[64]⟩:ByteArray))++(⟨#[63]⟩:ByteArray):=by unfold plW;rw [h];simp only [h2]
theorem plW_t {s:zaj} {p l:Int} {pr:za2} {t:ByteArray} (h:atI s.procs p=some pr) (h2:atI pr.locs l=some t):plW s p l=(pr.name++(⟨#[64]⟩:ByteArray))++t:=by unfold plW;rw [h];simp only [h2]
theorem zb4 {α:Type} {xs:List α} {i:Int} {y:α} (h:atI xs i=some y):y ∈ xs:=by obtain ⟨k,_,hk⟩:=zcm h;exact List.mem_of_getElem? hk
set_option maxHeartbeats 4000000 in
theorem PPlaceN (s:zaj) (p l:Int) (_hz:zcy s) (hp:atI s.procs p=none):Fn Tryd.prog 41 [] [.t (.agg ([.d (.sl 1 (s.vars.map za3)),.d (.sl 5 (s.bounds.map za1.d)),cI s.init.kind,cPs s.init.r.t.parts]++zi s.init.r.t.k++[cB s.init.r.eq,cFs s.init.kids,.d (.sl 3 (s.procs.map za2.d)),.d (.sl 10 (s.acts.map za6.d))])),vi .i64 p,vi .i64 l] (vs (plW s p l)) []:=by
 refine Fn.body Tryd.func41 rfl 33 rfl fun w H B a h=>?_
 refine rq za0 0 [] [(1,vi .i64 p),(2,vi .i64 l),(3,vp 0 0),(6,.t (.c (.d (.raw (.string ByteArray.empty)))))] [(0,.box ([.d (.sl 1 (s.vars.map za3)),.d (.sl 5 (s.bounds.map za1.d)),cI s.init.kind,cPs s.init.r.t.parts]++zi s.init.r.t.k++[cB s.init.r.eq,cFs s.init.kids,.d (.sl 3 (s.procs.map za2.d)),.d (.sl 10 (s.acts.map za6.d))]))] h ?_;clear h;intro a w h
 refine rq za0 1 [(3,.call (PAtPN s.procs p hp) pb1_0)] [(2,vi .i64 l),(6,.t (.c (.d (.raw (.string ByteArray.empty))))),(7,vp 1 0),(8,vb false)] [(1,.box [.d (.raw (.string zbv.name)),.d (.sl 1 (zbv.locs.map za3)),.d zbv.cmds])] h ?_;clear h;intro a w h
 refine wp_seq (rq za0 2 [] [(2,vi .i64 l),(6,.t (.c (.d (.raw (.string ByteArray.empty))))),(7,vp 1 0),(8,vb false),(18,vb true)] [(1,.box [.d (.raw (.string zbv.name)),.d (.sl 1 (zbv.locs.map za3)),.d zbv.cmds])] h ?_);clear h;intro a w h
 refine zad true h rfl (fun hc=>?_) (fun hc=>?_)
 ·clear hc
  refine rq za0 2 [] [(2,vi .i64 l),(6,.t (.c (.d (.raw (.string (⟨#[63,64,63]⟩:ByteArray)))))),(7,vp 1 0),(8,vb false)] [(1,.box [.d (.raw (.string zbv.name)),.d (.sl 1 (zbv.locs.map za3)),.d zbv.cmds])] h ?_;clear h;intro a w h
  refine wp_ret (zaf ?_)
  refine zb0 [.c (.d (.raw (.string (⟨#[63,64,63]⟩:ByteArray))))] h Exit.ret (.inl rfl)  rfl ⟨RV.tmp _ _ rfl,trivial⟩ ?_
  rw [plW_n hp];rfl
 ·cases hc
set_option maxHeartbeats 4000000 in
theorem PPlaceS (s:zaj) (p l:Int) (pr:za2) (hz:zcy s) (hp:atI s.procs p=some pr) (hl:atI pr.locs l=none):Fn Tryd.prog 41 [] [.t (.agg ([.d (.sl 1 (s.vars.map za3)),.d (.sl 5 (s.bounds.map za1.d)),cI s.init.kind,cPs s.init.r.t.parts]++zi s.init.r.t.k++[cB s.init.r.eq,cFs s.init.kids,.d (.sl 3 (s.procs.map za2.d)),.d (.sl 10 (s.acts.map za6.d))])),vi .i64 p,vi .i64 l] (vs (plW s p l)) []:=by
 have lnm:=hz.name pr (zb4 hp)
 refine Fn.body Tryd.func41 rfl 33 rfl fun w H B a h=>?_
 refine rq za0 0 [] [(1,vi .i64 p),(2,vi .i64 l),(3,vp 0 0),(6,.t (.c (.d (.raw (.string ByteArray.empty)))))] [(0,.box ([.d (.sl 1 (s.vars.map za3)),.d (.sl 5 (s.bounds.map za1.d)),cI s.init.kind,cPs s.init.r.t.parts]++zi s.init.r.t.k++[cB s.init.r.eq,cFs s.init.kids,.d (.sl 3 (s.procs.map za2.d)),.d (.sl 10 (s.acts.map za6.d))]))] h ?_;clear h;intro a w h
 refine rq za0 1 [(3,.call (PAtPS s.procs p pr hp) pb1_0)] [(2,vi .i64 l),(6,.t (.c (.d (.raw (.string ByteArray.empty))))),(7,vp 1 0),(8,vb true)] [(1,.box [.d (.raw (.string pr.name)),.d (.sl 1 (pr.locs.map za3)),.d pr.cmds])] h ?_;clear h;intro a w h
 refine wp_seq (rq za0 2 [] [(2,vi .i64 l),(6,.t (.c (.d (.raw (.string ByteArray.empty))))),(7,vp 1 0),(8,vb true),(18,vb false)] [(1,.box [.d (.raw (.string pr.name)),.d (.sl 1 (pr.locs.map za3)),.d pr.cmds])] h ?_);clear h;intro a w h
 refine zad false h rfl (fun hc=>?_) (fun hc=>?_)
 ·cases hc
 ·clear hc
  refine wp_skip (za5 (rq za0 2 [(3,.call (PAtTN pr.locs l hl) pb1_1)] [(6,.t (.c (.d (.raw (.string ByteArray.empty))))),(7,vp 1 0),(8,vb false),(9,.t (.c (.d (.raw (.string (⟨#[]⟩:ByteArray))))))] [(1,.box [.d (.raw (.string pr.name)),.d (.sl 1 (pr.locs.map za3)),.d pr.cmds])] h ?_));clear h;intro a w h
  refine wp_seq (rq za0 2 [] [(6,.t (.c (.d (.raw (.string ByteArray.empty))))),(7,vp 1 0),(9,.t (.c (.d (.raw (.string (⟨#[]⟩:ByteArray)))))),(27,vb true)] [(1,.box [.d (.raw (.string pr.name)),.d (.sl 1 (pr.locs.map za3)),.d pr.cmds])] h ?_);clear h;intro a w h
  refine zad true h rfl (fun hc=>?_) (fun hc=>?_)
  ·clear hc
   refine rn za0 2 [] [(6,.t (.c (.d (.raw (.string ByteArray.empty))))),(7,vp 1 0),(9,.t (.c (.d (.raw (.string (⟨#[63]⟩:ByteArray))))))] [(1,.box [.d (.raw (.string pr.name)),.d (.sl 1 (pr.locs.map za3)),.d pr.cmds])] h ?_;clear h;intro a w h
   refine za5 (rq za0 2 [(2,.gen _ _ _ fun _ _ _ _=>Op.strAdd (d:=30) (xt:=9) (yt:=9) (s1:=pr.name) (s2:=(⟨#[64]⟩:ByteArray)) (r:=(pr.name++(⟨#[64]⟩:ByteArray))) (OV.tmp 29 _) (OV.const (.string (⟨#[64]⟩:ByteArray)) rfl) (by have:(⟨#[64]⟩:ByteArray).size=1:=rfl;omega) rfl),(4,.gen _ _ _ fun _ _ _ _=>Op.strAdd (d:=32) (xt:=9) (yt:=9) (s1:=(pr.name++(⟨#[64]⟩:ByteArray))) (s2:=(⟨#[63]⟩:ByteArray)) (r:=((pr.name++(⟨#[64]⟩:ByteArray))++(⟨#[63]⟩:ByteArray))) (OV.tmp 30 _) (OV.tmp 31 _) (by (try simp only [ByteArray.size_append]);have:(⟨#[64]⟩:ByteArray).size=1:=rfl;have:(⟨#[63]⟩:ByteArray).size=1:=rfl;omega) rfl)] [(6,.t (.c (.d (.raw (.string ((pr.name++(⟨#[64]⟩:ByteArray))++(⟨#[63]⟩:ByteArray)))))))] [] h ?_);clear h;intro a w h
   refine wp_ret ?_
   refine zb0 [.c (.d (.raw (.string ((pr.name++(⟨#[64]⟩:ByteArray))++(⟨#[63]⟩:ByteArray)))))] h Exit.ret (.inl rfl)  rfl ⟨RV.tmp _ _ rfl,trivial⟩ ?_
   rw [plW_s hp hl];rfl
  ·cases hc
set_option maxHeartbeats 4000000 in
theorem PPlaceT (s:zaj) (p l:Int) (pr:za2) (t:ByteArray) (hz:zcy s) (hp:atI s.procs p=some pr) (hl:atI pr.locs l=some t):Fn Tryd.prog 41 [] [.t (.agg ([.d (.sl 1 (s.vars.map za3)),.d (.sl 5 (s.bounds.map za1.d)),cI s.init.kind,cPs s.init.r.t.parts]++zi s.init.r.t.k++[cB s.init.r.eq,cFs s.init.kids,.d (.sl 3 (s.procs.map za2.d)),.d (.sl 10 (s.acts.map za6.d))])),vi .i64 p,vi .i64 l] (vs (plW s p l)) []:=by
 have lnm:=hz.name pr (zb4 hp)
 have lt:=hz.locs pr (zb4 hp) t (zb4 hl)
 refine Fn.body Tryd.func41 rfl 33 rfl fun w H B a h=>?_
 refine rq za0 0 [] [(1,vi .i64 p),(2,vi .i64 l),(3,vp 0 0),(6,.t (.c (.d (.raw (.string ByteArray.empty)))))] [(0,.box ([.d (.sl 1 (s.vars.map za3)),.d (.sl 5 (s.bounds.map za1.d)),cI s.init.kind,cPs s.init.r.t.parts]++zi s.init.r.t.k++[cB s.init.r.eq,cFs s.init.kids,.d (.sl 3 (s.procs.map za2.d)),.d (.sl 10 (s.acts.map za6.d))]))] h ?_;clear h;intro a w h
 refine rq za0 1 [(3,.call (PAtPS s.procs p pr hp) pb1_0)] [(2,vi .i64 l),(6,.t (.c (.d (.raw (.string ByteArray.empty))))),(7,vp 1 0),(8,vb true)] [(1,.box [.d (.raw (.string pr.name)),.d (.sl 1 (pr.locs.map za3)),.d pr.cmds])] h ?_;clear h;intro a w h
 refine wp_seq (rq za0 2 [] [(2,vi .i64 l),(6,.t (.c (.d (.raw (.string ByteArray.empty))))),(7,vp 1 0),(8,vb true),(18,vb false)] [(1,.box [.d (.raw (.string pr.name)),.d (.sl 1 (pr.locs.map za3)),.d pr.cmds])] h ?_);clear h;intro a w h
 refine zad false h rfl (fun hc=>?_) (fun hc=>?_)
 ·cases hc
 ·clear hc
  refine wp_skip (za5 (rq za0 2 [(3,.call (PAtTS pr.locs l t hl) pb1_1)] [(6,.t (.c (.d (.raw (.string ByteArray.empty))))),(7,vp 1 0),(8,vb true),(9,.t (.c (.d (.raw (.string t)))))] [(1,.box [.d (.raw (.string pr.name)),.d (.sl 1 (pr.locs.map za3)),.d pr.cmds])] h ?_));clear h;intro a w h
  refine wp_seq (rq za0 2 [] [(6,.t (.c (.d (.raw (.string ByteArray.empty))))),(7,vp 1 0),(9,.t (.c (.d (.raw (.string t))))),(27,vb false)] [(1,.box [.d (.raw (.string pr.name)),.d (.sl 1 (pr.locs.map za3)),.d pr.cmds])] h ?_);clear h;intro a w h
  refine zad false h rfl (fun hc=>?_) (fun hc=>?_)
  ·cases hc
  ·clear hc
   refine wp_skip (za5 (rq za0 2 [(2,.gen _ _ _ fun _ _ _ _=>Op.strAdd (d:=30) (xt:=9) (yt:=9) (s1:=pr.name) (s2:=(⟨#[64]⟩:ByteArray)) (r:=(pr.name++(⟨#[64]⟩:ByteArray))) (OV.tmp 29 _) (OV.const (.string (⟨#[64]⟩:ByteArray)) rfl) (by have:(⟨#[64]⟩:ByteArray).size=1:=rfl;omega) rfl),(4,.gen _ _ _ fun _ _ _ _=>Op.strAdd (d:=32) (xt:=9) (yt:=9) (s1:=(pr.name++(⟨#[64]⟩:ByteArray))) (s2:=t) (r:=((pr.name++(⟨#[64]⟩:ByteArray))++t)) (OV.tmp 30 _) (OV.tmp 31 _) (by (try simp only [ByteArray.size_append]);have:(⟨#[64]⟩:ByteArray).size=1:=rfl;omega) rfl)] [(6,.t (.c (.d (.raw (.string ((pr.name++(⟨#[64]⟩:ByteArray))++t))))))] [] h ?_));clear h;intro a w h
   refine wp_ret ?_
   refine zb0 [.c (.d (.raw (.string ((pr.name++(⟨#[64]⟩:ByteArray))++t))))] h Exit.ret (.inl rfl)  rfl ⟨RV.tmp _ _ rfl,trivial⟩ ?_
   rw [plW_t hp hl];rfl
theorem PPlace (s:zaj) (p l:Int) (hz:zcy s):Fn Tryd.prog 41 [] [.t (.agg ([.d (.sl 1 (s.vars.map za3)),.d (.sl 5 (s.bounds.map za1.d)),cI s.init.kind,cPs s.init.r.t.parts]++zi s.init.r.t.k++[cB s.init.r.eq,cFs s.init.kids,.d (.sl 3 (s.procs.map za2.d)),.d (.sl 10 (s.acts.map za6.d))])),vi .i64 p,vi .i64 l] (vs (plW s p l)) []:=by
 cases hp:atI s.procs p with
 | none=>exact PPlaceN s p l hz hp
 | some pr =>
  cases hl:atI pr.locs l with
  | none=>exact PPlaceS s p l pr hz hp hl
  | some t=>exact PPlaceT s p l pr t hz hp hl
end S
set_option maxHeartbeats 1000000 in
theorem From_any (s:Bool) (ao:Option Addr) (n c:Nat) (zs:List Nat) (w:World) (hn:n=zs.length) (h:Rd w ao c zs) (hl:zs.length≤400000) :
  Calls Tryd.prog 77 #[.bool s,.slice ao n c] w (GotZ w (iv s zs) zs.length):=by
 subst hn
 cases s
 ·go_enter Tryd.func77,Tryd.ntmps77
  go_wp2_with fail
  refine (TrimM _ _ _ zs _ rfl (h.ext ((Ext.refl _).alloc _)) (by first | omega | (simp;done) | (simp;omega))).mono ?_
  rintro e w1 ⟨r1a,r1c,r1z,r1B,rfl,r1b,r1o,r1k,r1v,r1l,xx⟩
  try simp at r1b
  try simp only [List.length_cons,List.length_nil] at r1l
  have hE:Ext w w1:=Ext.trans ((Ext.refl _).alloc _) xx
  have hz1:w.heap.size+1≤w1.heap.size:=(by have hq:=Ext.size xx;(try simp at hq);omega)
  have hb0:w.heap.size<w1.heap.size:=(by omega)
  have fq0_0:=Ext.free (p:=⟨w.heap.size,0,none⟩) (v:=.bool false) xx (by first | exact True | go_simp | (repeat (first | assumption | (refine (World.cell?_setCell_far _ _ _ _ (by simp <;> omega)).trans ?_) | (refine (World.cell?_alloc_lt _ _ _ (World.block_lt_of_cell? _ _ (by assumption))).trans ?_) | go_simp))) (by first | assumption | go_simp)
  have q0_0:=Ext.cell (p:=⟨w.heap.size,0,none⟩) (v:=.bool false) xx (by first | exact True | go_simp | (repeat (first | assumption | (refine (World.cell?_setCell_far _ _ _ _ (by simp <;> omega)).trans ?_) | (refine (World.cell?_alloc_lt _ _ _ (World.block_lt_of_cell? _ _ (by assumption))).trans ?_) | go_simp)))
  have fq0_1:=Ext.free (p:=⟨w.heap.size,1,none⟩) (v:=.slice none 0 0) xx (by first | exact True | go_simp | (repeat (first | assumption | (refine (World.cell?_setCell_far _ _ _ _ (by simp <;> omega)).trans ?_) | (refine (World.cell?_alloc_lt _ _ _ (World.block_lt_of_cell? _ _ (by assumption))).trans ?_) | go_simp))) (by first | assumption | go_simp)
  have q0_1:=Ext.cell (p:=⟨w.heap.size,1,none⟩) (v:=.slice none 0 0) xx (by first | exact True | go_simp | (repeat (first | assumption | (refine (World.cell?_setCell_far _ _ _ _ (by simp <;> omega)).trans ?_) | (refine (World.cell?_alloc_lt _ _ _ (World.block_lt_of_cell? _ _ (by assumption))).trans ?_) | go_simp)))
  clear xx
  go_wp2_with fail
  refine bodyPost_ret (v:=.agg #[.bool false,.slice r1a r1z.length r1c]) (by simp [results,Tryd.results77,go_sem,q0_0,q0_1]) rfl ?_
  exact ⟨false,r1a,r1c,r1z,r1B,rfl,(by omega),(Own.st (Own.st r1o (b:=w.heap.size) (by omega) _ _) (b:=w.heap.size) (by omega) _ _),(CanZ.pos r1k.out),(by unfold Hid;rw [iv_false,iv_false,r1v.out]),(by first | omega | (simp;done) | (simp;omega)),(Ext.st (Ext.st hE (b:=w.heap.size) (by omega) _ _) (b:=w.heap.size) (by omega) _ _)⟩
 ·go_enter Tryd.func77,Tryd.ntmps77
  go_wp2_with fail
  refine (TrimM _ _ _ zs _ rfl (h.ext ((Ext.refl _).alloc _)) (by first | omega | (simp;done) | (simp;omega))).mono ?_
  rintro e w1 ⟨r1a,r1c,r1z,r1B,rfl,r1b,r1o,r1k,r1v,r1l,xx⟩
  try simp at r1b
  try simp only [List.length_cons,List.length_nil] at r1l
  have hE:Ext w w1:=Ext.trans ((Ext.refl _).alloc _) xx
  have hz1:w.heap.size+1≤w1.heap.size:=(by have hq:=Ext.size xx;(try simp at hq);omega)
  have hb0:w.heap.size<w1.heap.size:=(by omega)
  have fq0_0:=Ext.free (p:=⟨w.heap.size,0,none⟩) (v:=.bool false) xx (by first | exact True | go_simp | (repeat (first | assumption | (refine (World.cell?_setCell_far _ _ _ _ (by simp <;> omega)).trans ?_) | (refine (World.cell?_alloc_lt _ _ _ (World.block_lt_of_cell? _ _ (by assumption))).trans ?_) | go_simp))) (by first | assumption | go_simp)
  have q0_0:=Ext.cell (p:=⟨w.heap.size,0,none⟩) (v:=.bool false) xx (by first | exact True | go_simp | (repeat (first | assumption | (refine (World.cell?_setCell_far _ _ _ _ (by simp <;> omega)).trans ?_) | (refine (World.cell?_alloc_lt _ _ _ (World.block_lt_of_cell? _ _ (by assumption))).trans ?_) | go_simp)))
  have fq0_1:=Ext.free (p:=⟨w.heap.size,1,none⟩) (v:=.slice none 0 0) xx (by first | exact True | go_simp | (repeat (first | assumption | (refine (World.cell?_setCell_far _ _ _ _ (by simp <;> omega)).trans ?_) | (refine (World.cell?_alloc_lt _ _ _ (World.block_lt_of_cell? _ _ (by assumption))).trans ?_) | go_simp))) (by first | assumption | go_simp)
  have q0_1:=Ext.cell (p:=⟨w.heap.size,1,none⟩) (v:=.slice none 0 0) xx (by first | exact True | go_simp | (repeat (first | assumption | (refine (World.cell?_setCell_far _ _ _ _ (by simp <;> omega)).trans ?_) | (refine (World.cell?_alloc_lt _ _ _ (World.block_lt_of_cell? _ _ (by assumption))).trans ?_) | go_simp)))
  clear xx
  rcases Nat.eq_zero_or_pos r1z.length with h0 | hp
  ·have e0:r1z=[]:=List.length_eq_zero_iff.1 h0
   subst e0
   clear h0
   go_wp2_with fail
   refine bodyPost_ret (v:=.agg #[.bool false,.slice r1a 0 r1c]) (by simp [results,Tryd.results77,go_sem,q0_0,q0_1]) rfl ?_
   exact ⟨false,r1a,r1c,[],r1B,rfl,(by omega),(Own.st (Own.st r1o (b:=w.heap.size) (by omega) _ _) (b:=w.heap.size) (by omega) _ _),(CanZ.pos r1k.out),(by unfold Hid;rw [iv_false,iv_true,← r1v.out];rfl),(by first | omega | (simp;done) | (simp;omega)),(Ext.st (Ext.st hE (b:=w.heap.size) (by omega) _ _) (b:=w.heap.size) (by omega) _ _)⟩
  ·have hp1:decide (0<r1z.length)=true:=decide_eq_true hp
   go_wp2_with fail
   refine bodyPost_ret (v:=.agg #[.bool true,.slice r1a r1z.length r1c]) (by simp [results,Tryd.results77,go_sem,q0_0,q0_1]) rfl ?_
   exact ⟨true,r1a,r1c,r1z,r1B,rfl,(by omega),(Own.st (Own.st r1o (b:=w.heap.size) (by omega) _ _) (b:=w.heap.size) (by omega) _ _),(CanZ.neg r1k.out hp _),(by unfold Hid;rw [iv_true,iv_true,r1v.out]),(by first | omega | (simp;done) | (simp;omega)),(Ext.st (Ext.st hE (b:=w.heap.size) (by omega) _ _) (b:=w.heap.size) (by omega) _ _)⟩
set_option maxHeartbeats 1000000 in
theorem clean_any (s:Bool) (ao:Option Addr) (n c:Nat) (zs:List Nat) (w:World) (hn:n=zs.length) (h:Rd w ao c zs) (hl:zs.length≤400000) :
  Calls Tryd.prog 65 #[.agg #[.bool s,.slice ao n c]] w (GotZ w (iv s zs) zs.length):=by
 subst hn
 go_enter Tryd.func65,Tryd.ntmps65
 go_wp2_with fail
 refine (From_any s _ _ _ zs _ rfl (h.ext (((Ext.refl _).alloc _).alloc _)) (by first | omega | (simp;done) | (simp;omega))).mono ?_
 rintro e w1 ⟨r1s,r1a,r1c,r1z,r1B,rfl,r1b,r1o,r1k,r1v,r1l,xx⟩
 try simp at r1b
 try simp only [List.length_cons,List.length_nil] at r1l
 have hE:Ext w w1:=Ext.trans (((Ext.refl _).alloc _).alloc _) xx
 have hz1:w.heap.size+2≤w1.heap.size:=(by have hq:=Ext.size xx;(try simp at hq);omega)
 have hb1:w.heap.size+1<w1.heap.size:=(by omega)
 have fq1_0:=Ext.free (p:=⟨w.heap.size+1,0,none⟩) (v:=.bool false) xx (by first | exact True | go_simp | (repeat (first | assumption | (refine (World.cell?_setCell_far _ _ _ _ (by simp <;> omega)).trans ?_) | (refine (World.cell?_alloc_lt _ _ _ (World.block_lt_of_cell? _ _ (by assumption))).trans ?_) | go_simp))) (by first | assumption | go_simp)
 have q1_0:=Ext.cell (p:=⟨w.heap.size+1,0,none⟩) (v:=.bool false) xx (by first | exact True | go_simp | (repeat (first | assumption | (refine (World.cell?_setCell_far _ _ _ _ (by simp <;> omega)).trans ?_) | (refine (World.cell?_alloc_lt _ _ _ (World.block_lt_of_cell? _ _ (by assumption))).trans ?_) | go_simp)))
 have fq1_1:=Ext.free (p:=⟨w.heap.size+1,1,none⟩) (v:=.slice none 0 0) xx (by first | exact True | go_simp | (repeat (first | assumption | (refine (World.cell?_setCell_far _ _ _ _ (by simp <;> omega)).trans ?_) | (refine (World.cell?_alloc_lt _ _ _ (World.block_lt_of_cell? _ _ (by assumption))).trans ?_) | go_simp))) (by first | assumption | go_simp)
 have q1_1:=Ext.cell (p:=⟨w.heap.size+1,1,none⟩) (v:=.slice none 0 0) xx (by first | exact True | go_simp | (repeat (first | assumption | (refine (World.cell?_setCell_far _ _ _ _ (by simp <;> omega)).trans ?_) | (refine (World.cell?_alloc_lt _ _ _ (World.block_lt_of_cell? _ _ (by assumption))).trans ?_) | go_simp)))
 clear xx
 go_wp2_with fail
 refine bodyPost_ret (v:=.agg #[.bool r1s,.slice r1a r1z.length r1c]) (by simp [results,Tryd.results65,go_sem,q1_0,q1_1]) rfl ?_
 exact ⟨r1s,r1a,r1c,r1z,r1B,rfl,(by omega),(Own.st (Own.st r1o (b:=w.heap.size+1) (by omega) _ _) (b:=w.heap.size+1) (by omega) _ _),r1k,r1v,(by first | omega | (simp;done) | (simp;omega)),(Ext.st (Ext.st hE (b:=w.heap.size+1) (by omega) _ _) (b:=w.heap.size+1) (by omega) _ _)⟩
theorem iv_pos_of {s:Bool} {zs:List Nat} (hc:CanZ s zs) (hs:s=false) (hp:0<zs.length):0<iv s zs:=by
 subst hs
 have:=zcl hc.1 hp
 have:=pw_pos (zs.length - 1)
 unfold iv;simp;omega
theorem iv_neg_of {s:Bool} {zs:List Nat} (hc:CanZ s zs) (hs:s=true):iv s zs<0:=by
 have:=hc.neg_iff
 rw [hs] at this
 subst hs
 exact of_decide_eq_true this.symm
set_option maxHeartbeats 1000000 in
theorem ZSign_any (s:Bool) (ao:Option Addr) (n c:Nat) (zs:List Nat) (w:World) (g:Int) (hn:n=zs.length) (h:Rd w ao c zs) (hl:zs.length≤300000) (hg:sgn (iv s zs)=g) :
  Calls Tryd.prog 53 #[.agg #[.bool s,.slice ao n c]] w (GotP (.int .i64 g) w):=by
 subst hn
 replace hg:=Lib.hid hg
 go_enter Tryd.func53,Tryd.ntmps53
 go_wp2_with fail
 refine (clean_any s _ _ _ zs _ rfl (h.ext ((Ext.refl _).alloc _)) (by first | omega | (simp;done) | (simp;omega))).mono ?_
 rintro e w1 ⟨r1s,r1a,r1c,r1z,r1B,rfl,r1b,r1o,r1k,r1v,r1l,xx⟩
 try simp at r1b
 try simp only [List.length_cons,List.length_nil] at r1l
 have hE:Ext w w1:=Ext.trans ((Ext.refl _).alloc _) xx
 have hz1:w.heap.size+1≤w1.heap.size:=(by have hq:=Ext.size xx;(try simp at hq);omega)
 have hb0:w.heap.size<w1.heap.size:=(by omega)
 have fq0_0:=Ext.free (p:=⟨w.heap.size,0,none⟩) (v:=.bool s) xx (by first | exact True | go_simp | (repeat (first | assumption | (refine (World.cell?_setCell_far _ _ _ _ (by simp <;> omega)).trans ?_) | (refine (World.cell?_alloc_lt _ _ _ (World.block_lt_of_cell? _ _ (by assumption))).trans ?_) | go_simp))) (by first | assumption | go_simp)
 have q0_0:=Ext.cell (p:=⟨w.heap.size,0,none⟩) (v:=.bool s) xx (by first | exact True | go_simp | (repeat (first | assumption | (refine (World.cell?_setCell_far _ _ _ _ (by simp <;> omega)).trans ?_) | (refine (World.cell?_alloc_lt _ _ _ (World.block_lt_of_cell? _ _ (by assumption))).trans ?_) | go_simp)))
 have fq0_1:=Ext.free (p:=⟨w.heap.size,1,none⟩) (v:=.slice ao zs.length c) xx (by first | exact True | go_simp | (repeat (first | assumption | (refine (World.cell?_setCell_far _ _ _ _ (by simp <;> omega)).trans ?_) | (refine (World.cell?_alloc_lt _ _ _ (World.block_lt_of_cell? _ _ (by assumption))).trans ?_) | go_simp))) (by first | assumption | go_simp)
 have q0_1:=Ext.cell (p:=⟨w.heap.size,1,none⟩) (v:=.slice ao zs.length c) xx (by first | exact True | go_simp | (repeat (first | assumption | (refine (World.cell?_setCell_far _ _ _ _ (by simp <;> omega)).trans ?_) | (refine (World.cell?_alloc_lt _ _ _ (World.block_lt_of_cell? _ _ (by assumption))).trans ?_) | go_simp)))
 clear xx
 cases r1s
 ·rcases Nat.eq_zero_or_pos r1z.length with h0 | hp
  ·have e0:r1z=[]:=List.length_eq_zero_iff.1 h0
   subst e0
   clear h0
   go_wp2_with fail
   go_ret
   exact ⟨by rw [← hg.out,← r1v.out,sgn_zero (iv_nil _)];rfl,(Ext.st (Ext.st hE (b:=w.heap.size) (by omega) _ _) (b:=w.heap.size) (by omega) _ _)⟩
  ·have hp1:decide (0<r1z.length)=true:=decide_eq_true hp
   go_wp2_with fail
   go_ret
   exact ⟨by rw [← hg.out,← r1v.out,sgn_pos (iv_pos_of r1k.out rfl hp)];rfl,(Ext.st (Ext.st hE (b:=w.heap.size) (by omega) _ _) (b:=w.heap.size) (by omega) _ _)⟩
 ·go_wp2_with fail
  go_ret
  exact ⟨by rw [← hg.out,← r1v.out,sgn_neg (iv_neg_of r1k.out rfl)];rfl,(Ext.st (Ext.st hE (b:=w.heap.size) (by omega) _ _) (b:=w.heap.size) (by omega) _ _)⟩
theorem chk (s:ByteArray) (i:Nat) (h:i<s.size) (w:World):(Instr.index 9 (.string s) (.int .i64 (i:Int))).run Tryd.prog w = .ok (.int .u8 (ch s i)) w:=by
 have h1:s[i]?=some s[i]:=by simp [h]
 have h2:ch s i=s[i].toNat:=by
  unfold ch
  have:s.data.toList[i]?=some s[i]:=by
   rw [Array.getElem?_toList];exact Array.getElem?_eq_getElem (show i<s.data.size from h)
  rw [List.getD_eq_getElem?_getD,List.getElem?_map,this];rfl
 simp [Instr.index,asIntOf,run_underlying Tryd.underlying9,h1,h2,go_sem]
end Go.Proofs.YtlfebjeoeijlfaaDoor
section
namespace Go.Proofs
open Go.Shelf
def Tryd.lays103_ren:Go.Shelf.Ren:=⟨fun | 103=>28 | 210=>38 | 206=>50 | n=>n,fun | 9=>9 | 4=>4 | 24=>86 | 3=>3 | n=>n,fun | n=>n⟩
theorem Tryd.lays103:Go.Proofs.Lays.n103 Tryd.prog Tryd.lays103_ren:={
 mixed:=by kernel_rfl
 f103:=Tryd.func28.trans (congrArg some (by kernel_rfl))
 f206:=Tryd.func50.trans (congrArg some (by kernel_rfl))
 f210:=Tryd.func38.trans (congrArg some (by kernel_rfl))
 t3:=Tryd.underlying3
 a3:=Tryd.isAgg3
 z3:=Tryd.sizeOf3
 v3:=Tryd.zeroValue3
 t4:=Tryd.underlying4
 a4:=Tryd.isAgg4
 z4:=Tryd.sizeOf4
 v4:=Tryd.zeroValue4
 t9:=Tryd.underlying9
 a9:=Tryd.isAgg9
 z9:=Tryd.sizeOf9
 v9:=Tryd.zeroValue9
 t24:=Tryd.underlying86
 a24:=Tryd.isAgg86
 z24:=Tryd.sizeOf86
 v24:=Tryd.zeroValue86 }
open Go.RowKit in
theorem Tryd.strings_CutPrefix (s p:ByteArray) (w:World) :
  Calls Tryd.prog 28 #[.string s,.string p] w fun e w'=>e = .returned (.tuple #[.string ⟨(Lib.trimPrefix s.data.toList p.data.toList).toArray⟩,.bool (Lib.hasPrefix s.data.toList p.data.toList)])∧w'=w:=Any.strings_CutPrefix Tryd.lays103 s p w

end Go.Proofs
end
namespace Go.Proofs.YtlfebjeoeijlfaaDoor
def textZ (z:Int) (t:ByteArray):ByteArray:=if z<0 then (⟨#[45]⟩:ByteArray)++t else t
theorem text_long {zs:List Nat} {s:ByteArray} (h:Lb zs) (ht:isT (bytes s) (val zs)) (hl:zs.length≤10000):s.size≤100001:=by
 have h1:val zs<10 ^ (10*zs.length+1):=Nat.lt_of_lt_of_le (Nat.lt_of_lt_of_le (val_lt h) (pw_10 _)) (Nat.pow_le_pow_right (by omega) (by omega))
 have:=isT_short ht h1 (by omega)
 rw [bytes_length] at this
 omega
def GotTZ (w:World) (z:Int) (e:Ending) (w':World):Prop:=∃ t:ByteArray,e = .returned (.string (textZ z t))∧isT (bytes t) z.natAbs∧Ext w w'
set_option maxHeartbeats 1000000 in
theorem ZText_any (s:Bool) (ao:Option Addr) (n c:Nat) (zs:List Nat) (w:World) (hn:n=zs.length) (h:Rd w ao c zs) (hl:zs.length≤10000) :
  Calls Tryd.prog 43 #[.agg #[.bool s,.slice ao n c]] w (GotTZ w (iv s zs)):=by
 subst hn
 obtain ⟨x,hx⟩:∃ x,sgn (iv s zs)=x:=⟨_,rfl⟩
 replace hx:=Lib.hid hx
 by_cases h0:x<0
 ·have hz:Hid (iv s zs<0):=sgn_lt_zero.1 (by rw [hx.out];exact h0)
  go_enter Tryd.func43,Tryd.ntmps43
  go_wp2_with fail
  refine (ZSign_any s _ _ _ zs _ x rfl (h.ext ((Ext.refl _).alloc _)) (by first | omega | (simp;done) | (simp;omega)) hx.out).mono ?_
  rintro e w1 ⟨rfl,xx⟩
  have hE:Ext w w1:=Ext.trans ((Ext.refl _).alloc _) xx
  have hz1:w.heap.size+1≤w1.heap.size:=(by have hq:=Ext.size xx;(try simp at hq);omega)
  have hb0:w.heap.size<w1.heap.size:=(by omega)
  have q0_1:=Ext.cell (p:=⟨w.heap.size,1,none⟩) (v:=.slice ao zs.length c) xx (by first | exact True | (go_simp;done) | (repeat (first | assumption | (refine (World.cell?_setCell_far _ _ _ _ (by simp <;> omega)).trans ?_) | (refine (World.cell?_alloc_lt _ _ _ (World.block_lt_of_cell? _ _ (by assumption))).trans ?_) | (go_simp;done))))
  clear xx
  go_wp2_with fail
  refine (Text_any _ _ _ zs _ rfl (h.ext hE) (by first | omega | (simp;done) | (simp;omega))).mono ?_
  rintro e w2 ⟨r2s,rfl,r2t,xx⟩
  replace r2t:=Lib.hid r2t
  replace hE:=Ext.trans hE xx
  have hz2:w1.heap.size≤w2.heap.size:=(by have hq:=Ext.size xx;(try simp at hq);omega)
  clear xx
  have r2z:r2s.size≤100001:=text_long h.lb r2t.out hl
  go_wp2_with fail
  go_ret
  exact ⟨r2s,by unfold textZ;rw [if_pos hz.out];rfl,by rw [iv_abs];exact r2t.out,hE⟩
 ·have hz:Hid (¬ iv s zs<0):=fun q=>h0 (by rw [← hx.out];exact sgn_lt_zero.2 q)
  go_enter Tryd.func43,Tryd.ntmps43
  go_wp2_with fail
  refine (ZSign_any s _ _ _ zs _ x rfl (h.ext ((Ext.refl _).alloc _)) (by first | omega | (simp;done) | (simp;omega)) hx.out).mono ?_
  rintro e w1 ⟨rfl,xx⟩
  have hE:Ext w w1:=Ext.trans ((Ext.refl _).alloc _) xx
  have hz1:w.heap.size+1≤w1.heap.size:=(by have hq:=Ext.size xx;(try simp at hq);omega)
  have hb0:w.heap.size<w1.heap.size:=(by omega)
  have q0_1:=Ext.cell (p:=⟨w.heap.size,1,none⟩) (v:=.slice ao zs.length c) xx (by first | exact True | (go_simp;done) | (repeat (first | assumption | (refine (World.cell?_setCell_far _ _ _ _ (by simp <;> omega)).trans ?_) | (refine (World.cell?_alloc_lt _ _ _ (World.block_lt_of_cell? _ _ (by assumption))).trans ?_) | (go_simp;done))))
  clear xx
  go_wp2_with fail
  refine (Text_any _ _ _ zs _ rfl (h.ext hE) (by first | omega | (simp;done) | (simp;omega))).mono ?_
  rintro e w2 ⟨r2s,rfl,r2t,xx⟩
  replace r2t:=Lib.hid r2t
  replace hE:=Ext.trans hE xx
  have hz2:w1.heap.size≤w2.heap.size:=(by have hq:=Ext.size xx;(try simp at hq);omega)
  clear xx
  go_wp2_with fail
  go_ret
  exact ⟨r2s,by unfold textZ;rw [if_neg (by have:=hz.out;omega)];rfl,by rw [iv_abs];exact r2t.out,hE⟩
end Go.Proofs.YtlfebjeoeijlfaaDoor
section
namespace Go.Proofs
open Go.Shelf
def Tryd.lays169_ren:Go.Shelf.Ren:=⟨fun | 169=>22 | n=>n,fun | 70=>72 | 9=>9 | 0=>0 | 72=>75 | 37=>73 | 127=>96 | 3=>3 | 5=>5 | n=>n,fun | n=>n⟩
theorem Tryd.lays169:Go.Proofs.Lays.n169 Tryd.prog Tryd.lays169_ren:={
 mixed:=by kernel_rfl
 f169:=Tryd.func22.trans (congrArg some (by kernel_rfl))
 t0:=Tryd.underlying0
 a0:=Tryd.isAgg0
 z0:=Tryd.sizeOf0
 v0:=Tryd.zeroValue0
 t3:=Tryd.underlying3
 a3:=Tryd.isAgg3
 z3:=Tryd.sizeOf3
 v3:=Tryd.zeroValue3
 t9:=Tryd.underlying9
 a9:=Tryd.isAgg9
 z9:=Tryd.sizeOf9
 v9:=Tryd.zeroValue9
 t37:=Tryd.underlying73
 a37:=Tryd.isAgg73
 z37:=Tryd.sizeOf73
 v37:=Tryd.zeroValue73
 t70:=Tryd.underlying72
 a70:=Tryd.isAgg72
 z70:=Tryd.sizeOf72
 v70:=Tryd.zeroValue72
 t72:=Tryd.underlying75
 a72:=Tryd.isAgg75
 z72:=Tryd.sizeOf75
 v72:=Tryd.zeroValue75
 t127:=Tryd.underlying96
 a127:=Tryd.isAgg96
 z127:=Tryd.sizeOf96
 v127:=Tryd.zeroValue96 }
theorem Tryd.Builder_Extra_169:Builder.Extra Tryd.prog Tryd.lays169_ren:={
 sizeBuilder:=by kernel_rfl
 liesBuilder:=by kernel_rfl
 t5:=Tryd.underlying5
 a5:=Tryd.isAgg5
 z5:=Tryd.sizeOf5
 v5:=Tryd.zeroValue5
 infoByte:=by kernel_rfl
 cellsByte:=by kernel_rfl
 sizeByte:=by kernel_rfl
 neB5:=by decide }
def Tryd.lays171_ren:Go.Shelf.Ren:=⟨fun | 171=>26 | 243=>37 | 246=>49 | 283=>57 | 284=>58 | 285=>59 | 286=>60 | 129=>71 | 317=>70 | 318=>72 | 319=>73 | 320=>74 | 337=>80 | 338=>81 | n=>n,fun | 3=>3 | 9=>9 | 2=>2 | 4=>4 | 171=>119 | 0=>0 | 53=>117 | 37=>73 | 5=>5 | 173=>122 | 212=>132 | 51=>118 | 20=>20 | 213=>133 | 46=>126 | 232=>141 | 233=>142 | n=>n,fun | 17=>1 | 18=>2 | 19=>3 | n=>n⟩
theorem Tryd.lays171:Go.Proofs.Lays.n171 Tryd.prog Tryd.lays171_ren:={
 mixed:=by kernel_rfl
 f129:=Tryd.func71.trans (congrArg some (by kernel_rfl))
 f171:=Tryd.func26.trans (congrArg some (by kernel_rfl))
 f243:=Tryd.func37.trans (congrArg some (by kernel_rfl))
 f246:=Tryd.func49.trans (congrArg some (by kernel_rfl))
 f283:=Tryd.func57.trans (congrArg some (by kernel_rfl))
 f284:=Tryd.func58.trans (congrArg some (by kernel_rfl))
 f285:=Tryd.func59.trans (congrArg some (by kernel_rfl))
 f286:=Tryd.func60.trans (congrArg some (by kernel_rfl))
 f317:=Tryd.func70.trans (congrArg some (by kernel_rfl))
 f318:=Tryd.func72.trans (congrArg some (by kernel_rfl))
 f319:=Tryd.func73.trans (congrArg some (by kernel_rfl))
 f320:=Tryd.func74.trans (congrArg some (by kernel_rfl))
 f337:=Tryd.func80.trans (congrArg some (by kernel_rfl))
 f338:=Tryd.func81.trans (congrArg some (by kernel_rfl))
 t0:=Tryd.underlying0
 a0:=Tryd.isAgg0
 z0:=Tryd.sizeOf0
 v0:=Tryd.zeroValue0
 t2:=Tryd.underlying2
 a2:=Tryd.isAgg2
 z2:=Tryd.sizeOf2
 v2:=Tryd.zeroValue2
 t3:=Tryd.underlying3
 a3:=Tryd.isAgg3
 z3:=Tryd.sizeOf3
 v3:=Tryd.zeroValue3
 t4:=Tryd.underlying4
 a4:=Tryd.isAgg4
 z4:=Tryd.sizeOf4
 v4:=Tryd.zeroValue4
 t5:=Tryd.underlying5
 a5:=Tryd.isAgg5
 z5:=Tryd.sizeOf5
 v5:=Tryd.zeroValue5
 t9:=Tryd.underlying9
 a9:=Tryd.isAgg9
 z9:=Tryd.sizeOf9
 v9:=Tryd.zeroValue9
 t20:=Tryd.underlying20
 a20:=Tryd.isAgg20
 z20:=Tryd.sizeOf20
 v20:=Tryd.zeroValue20
 t37:=Tryd.underlying73
 a37:=Tryd.isAgg73
 z37:=Tryd.sizeOf73
 v37:=Tryd.zeroValue73
 t46:=Tryd.underlying126
 a46:=Tryd.isAgg126
 z46:=Tryd.sizeOf126
 v46:=Tryd.zeroValue126
 t51:=Tryd.underlying118
 a51:=Tryd.isAgg118
 z51:=Tryd.sizeOf118
 v51:=Tryd.zeroValue118
 t53:=Tryd.underlying117
 a53:=Tryd.isAgg117
 z53:=Tryd.sizeOf117
 v53:=Tryd.zeroValue117
 t171:=Tryd.underlying119
 a171:=Tryd.isAgg119
 z171:=Tryd.sizeOf119
 v171:=Tryd.zeroValue119
 t173:=Tryd.underlying122
 a173:=Tryd.isAgg122
 z173:=Tryd.sizeOf122
 v173:=Tryd.zeroValue122
 t212:=Tryd.underlying132
 a212:=Tryd.isAgg132
 z212:=Tryd.sizeOf132
 v212:=Tryd.zeroValue132
 t213:=Tryd.underlying133
 a213:=Tryd.isAgg133
 z213:=Tryd.sizeOf133
 t232:=Tryd.underlying141
 a232:=Tryd.isAgg141
 z232:=Tryd.sizeOf141
 v232:=Tryd.zeroValue141
 t233:=Tryd.underlying142
 a233:=Tryd.isAgg142
 z233:=Tryd.sizeOf142
 v233:=Tryd.zeroValue142
 g17:=by kernel_rfl
 g18:=by kernel_rfl
 g19:=by kernel_rfl }

def Tryd.lays166_ren:Go.Shelf.Ren:=⟨fun | 166=>30 | 240=>40 | 276=>52 | n=>n,fun | 0=>0 | 3=>3 | 4=>4 | 9=>9 | 20=>20 | 37=>73 | 70=>72 | 72=>75 | 75=>91 | 80=>81 | 164=>113 | 5=>5 | n=>n,fun | n=>n⟩
theorem Tryd.lays166:Go.Proofs.Lays.n166 Tryd.prog Tryd.lays166_ren:={
 mixed:=by kernel_rfl
 f166:=Tryd.func30.trans (congrArg some (by kernel_rfl))
 f240:=Tryd.func40.trans (congrArg some (by kernel_rfl))
 f276:=Tryd.func52.trans (congrArg some (by kernel_rfl))
 t0:=Tryd.underlying0
 a0:=Tryd.isAgg0
 z0:=Tryd.sizeOf0
 v0:=Tryd.zeroValue0
 t3:=Tryd.underlying3
 a3:=Tryd.isAgg3
 z3:=Tryd.sizeOf3
 v3:=Tryd.zeroValue3
 t4:=Tryd.underlying4
 a4:=Tryd.isAgg4
 z4:=Tryd.sizeOf4
 v4:=Tryd.zeroValue4
 t9:=Tryd.underlying9
 a9:=Tryd.isAgg9
 z9:=Tryd.sizeOf9
 v9:=Tryd.zeroValue9
 t20:=Tryd.underlying20
 a20:=Tryd.isAgg20
 z20:=Tryd.sizeOf20
 v20:=Tryd.zeroValue20
 t37:=Tryd.underlying73
 a37:=Tryd.isAgg73
 z37:=Tryd.sizeOf73
 v37:=Tryd.zeroValue73
 t70:=Tryd.underlying72
 a70:=Tryd.isAgg72
 z70:=Tryd.sizeOf72
 v70:=Tryd.zeroValue72
 t72:=Tryd.underlying75
 a72:=Tryd.isAgg75
 z72:=Tryd.sizeOf75
 v72:=Tryd.zeroValue75
 t75:=Tryd.underlying91
 a75:=Tryd.isAgg91
 z75:=Tryd.sizeOf91
 v75:=Tryd.zeroValue91
 t164:=Tryd.underlying113
 a164:=Tryd.isAgg113
 z164:=Tryd.sizeOf113
 v164:=Tryd.zeroValue113 }
theorem Tryd.Builder_Extra_166:Builder.Extra Tryd.prog Tryd.lays166_ren:={
 sizeBuilder:=by kernel_rfl
 liesBuilder:=by kernel_rfl
 t5:=Tryd.underlying5
 a5:=Tryd.isAgg5
 z5:=Tryd.sizeOf5
 v5:=Tryd.zeroValue5
 infoByte:=by kernel_rfl
 cellsByte:=by kernel_rfl
 sizeByte:=by kernel_rfl
 neB5:=by decide }

end Go.Proofs
end
namespace Go.Proofs.YtlfebjeoeijlfaaDoor
namespace S
theorem openZ2 {H:Im} {B:Bl} {x:ZI} {v:Value} (h:VR H B (vz x) v) (hx:Lb x.abs):∃ ao c,v = .agg #[.bool x.neg,.slice ao x.abs.length c]∧∀ w:World,(∀ b o,H b=some o→w.heap[b]?=some o)→Rd w ao c x.abs:=by
 obtain ⟨vs,rfl,h1⟩:=h
 match vs,h1 with
 | [a,b],h1 =>
  obtain ⟨h2,h3,_⟩:=h1
  have e1:a = .bool x.neg:=VR.rawI (H:=H) (B:=B) h2
  obtain ⟨ao,c,rfl,h4⟩:=nsl_rd h3 hx
  exact ⟨ao,c,by rw [e1],h4⟩
 | [],h1=>exact h1.elim
 | [_],h1=>exact h1.2.elim
 | _ :: _ :: _ :: _,h1=>exact h1.2.2.elim
end S
end Go.Proofs.YtlfebjeoeijlfaaDoor
section
namespace Go.Proofs
open Go.Shelf
theorem Tryd.laysM171:Go.Proofs.LaysM.n171 Tryd.prog Tryd.lays171_ren:={ Tryd.lays171 with
 i0:=by kernel_rfl
 i2:=by kernel_rfl
 i3:=by kernel_rfl
 i4:=by kernel_rfl
 i5:=by kernel_rfl
 i9:=by kernel_rfl
 i20:=by kernel_rfl
 i37:=by kernel_rfl
 i46:=by kernel_rfl
 i51:=by kernel_rfl
 i53:=by kernel_rfl
 i171:=by kernel_rfl
 i173:=by kernel_rfl
 i212:=by kernel_rfl
 i232:=by kernel_rfl
 i233:=by kernel_rfl
 m17:=by kernel_rfl
 m18:=by kernel_rfl
 m19:=by kernel_rfl }
end Go.Proofs
namespace Go.Proofs.YtlfebjeoeijlfaaDoor.S
open Go.RowKit

def itW (n:Int):ByteArray:=⟨(Lib.itoa n).toArray⟩
theorem zc6 {u:Nat} (h:u<10):Lib.decDigits u=[UInt8.ofNat (48+u)]:=by rw [Lib.decDigits,dif_pos h]
theorem zck {u:Nat} (h:¬ u<10):Lib.decDigits u=Lib.decDigits (u / 10)++[UInt8.ofNat (48+u % 10)]:=by rw [Lib.decDigits,dif_neg h]
theorem dig8 {d:Nat} (h:d<10):(UInt8.ofNat (48+d)).toNat=48+d:=by
 rw [UInt8.toNat_ofNat'];exact Nat.mod_eq_of_lt (by omega)
theorem decD_isT (u:Nat):isT ((Lib.decDigits u).map UInt8.toNat) u∧(0<u→((Lib.decDigits u).map UInt8.toNat).getD 0 0≠48):=by
 induction u using Nat.strongRecOn with
 | _ u ih =>
  by_cases h:u<10
  ·rw [zc6 h]
   show isT [(UInt8.ofNat (48+u)).toNat] u∧(0<u→[(UInt8.ofNat (48+u)).toNat].getD 0 0≠48)
   rw [dig8 h]
   refine ⟨⟨by simp,fun c hc=>?_,by simp [dvl],fun h1=>by simp at h1⟩,fun h1=>?_⟩
   ·rw [List.mem_singleton.1 hc];omega
   ·show 48+u≠48;omega
  ·rw [zck h,List.map_append]
   obtain ⟨⟨h1,h2,h3,_⟩,h5⟩:=ih (u / 10) (by omega)
   have h5:=h5 (by omega)
   have hl:((Lib.decDigits (u / 10)).map UInt8.toNat)≠[]:=fun e=>by rw [e] at h1;simp at h1
   have hz:((Lib.decDigits (u / 10)).map UInt8.toNat++[UInt8.ofNat (48+u % 10)].map UInt8.toNat).getD 0 0≠48:=by
    cases he:(Lib.decDigits (u / 10)).map UInt8.toNat with
    | nil=>exact absurd he hl
    | cons a l=>rw [he] at h5;exact h5
   refine ⟨⟨by rw [List.length_append];omega,fun c hc=>?_,?_,fun _=>hz⟩,fun _=>hz⟩
   ·rcases List.mem_append.1 hc with hc | hc
    ·exact h2 c hc
    ·have hc:c=(UInt8.ofNat (48+u % 10)).toNat:=by simpa using hc
     rw [hc,dig8 (by omega)];omega
   ·show dvl (_++[(UInt8.ofNat (48+u % 10)).toNat])=u
    rw [dvl_snoc,h3,dig8 (by omega)];omega
theorem itW_text {z:Int} {t:ByteArray} (h:isT (bytes t) z.natAbs):textZ z t=itW z:=by
 have e:t=⟨(Lib.decDigits z.natAbs).toArray⟩:=isT_str h (by unfold bytes;simpa using (decD_isT z.natAbs).1)
 subst e
 unfold textZ itW Lib.itoa
 by_cases hz:z<0
 ·rw [if_pos hz,if_pos hz]
  apply ByteArray.ext
  simp
 ·rw [if_neg hz,if_neg hz,show z.natAbs=z.toNat by omega]
theorem SItoaA (n:Int) (h0:-9223372036854775808≤n) (h1:n≤9223372036854775807):Fn Tryd.prog 26 [] [vi .i64 n] (vs (itW n)) []:=by
  intro w H B vals pre
  obtain ⟨a,rfl,h⟩:=args1 pre.arg
  have h:=VR.rawI h
  subst h
  have htab : Lib.TabIs Tryd.prog w "internal/strconv.uint64pow10" .u64 Lib.pow10Tab := by
    obtain ⟨ty,fz,ht⟩:=pre.tab
    unfold Lib.TabIs World.var?
    rw [Tryd.laysM171.m17]
    show (match w.heap[1]? with | some (.cells cs _ _)=>some cs | _=>none)=_
    rw [pre.sat _ _ ht];rfl
  refine (Any.strconv_Itoa Tryd.laysM171 n h0 h1 w htab).mono ?_
  rintro e w' ⟨rfl,k,os,rfl⟩
  have hx:=Go.Proofs.YtlfebjeoeijlfaaDoor.Ext.drewN (Go.Proofs.YtlfebjeoeijlfaaDoor.Ext.refl w) k
  refine postP rfl pre.sat ⟨rfl,hx.os,hx.tape,hx.output,?_,fun b hb=>?_⟩
  · show w.heap.size≤((w.drewN k).heap++os).size
    rw [Array.size_append];have:=hx.size;omega
  · show ((w.drewN k).heap++os)[b]?=_
    rw [Array.getElem?_append_left (by have:=hx.size;omega)]
    exact hx.block b hb
theorem SZText (x:ZI) (hx:Lb x.abs) (lx:x.abs.length≤10000):Fn Tryd.prog 43 [] [vz x] (vs (itW x.val)) []:=by
 intro w H B vals pre
 obtain ⟨a,rfl,h1⟩:=args1 pre.arg
 obtain ⟨ao,c,rfl,r1⟩:=openZ2 h1 hx
 refine (ZText_any x.neg ao _ c x.abs w rfl (r1 w pre.sat) lx).mono ?_
 rintro en w' ⟨t,rfl,ht,he⟩
 have:=itW_text ht
 rw [this]
 exact postP rfl pre.sat ⟨rfl,he⟩
end Go.Proofs.YtlfebjeoeijlfaaDoor.S
end
namespace Go.Proofs.YtlfebjeoeijlfaaDoor
namespace S
theorem itW_sz {n:Int} {k:Nat} (h:n.natAbs<10 ^ k) (hk:0<k):(itW n).size≤k+1:=by
 have h1:=(decD_isT n.natAbs).1
 have h2:=isT_short h1 h hk
 rw [List.length_map] at h2
 have e:(itW n).size=(Lib.itoa n).length:=by unfold itW;simp [ByteArray.size]
 rw [e]
 unfold Lib.itoa
 split
 ·rw [List.length_cons];omega
 ·rw [show n.toNat=n.natAbs by omega];omega
def zaw (s:zaj) (p:Int) (n:Nat):List za6:=(s.acts.take n).filter fun a=>a.proc == p
def zdd (s:zaj) (i:Int):ByteArray:=match atI s.acts i with
  | none=>⟨#[115,116,117,116,116,101,114]⟩
  | some a=>((match atI s.procs a.proc with | none=>⟨#[63]⟩ | some p=>p.name)++⟨#[46]⟩)++itW ((zaw s a.proc (i.toNat+1)).length:Int)
section
open Go.RowKit Go.Shelf
section
variable {P:Program}
theorem Op.strNe {d:Nat} {x y:Operand} {s1 s2:ByteArray} {r:Bool} {rs rs':List (Nat × V)} {xt yt ty:TypeId} {pos af gd} (h:OV x (vs s1) rs) (h':OV y (vs s2) rs') (hr:(s1.toList == s2.toList)=!r) :
  zan P ⟨some d,.binOp .neq xt x y yt,ty,pos,af,gd⟩ { rs:=rs++rs', ws:=[(d,some (vb r))] }:=by
 have hr':(!(s1.toList == s2.toList))=r:=by rw [hr];simp
 refine Op.raw2 rfl h h' rfl fun ρ w h1 h2=>?_
 simp [execOp,h1,h2,eqGuard,go_sem]
 simpa using hr'
theorem Op.strIdx {d:Nat} {x y:Operand} {s:ByteArray} {i:Nat} {c:UInt8} {k:IntKind} {rs rs':List (Nat × V)} {xt ty:TypeId} {pos af gd} (hu:P.underlying xt=some .string) (h:OV x (vs s) rs) (h':OV y (vi k (i:Int)) rs') (hi:s.data.toList[i]?=some c) :
  zan P ⟨some d,.index xt x y,ty,pos,af,gd⟩ { rs:=rs++rs', ws:=[(d,some (vi .u8 (c.toNat:Int)))] }:=by
 refine Op.raw2 rfl h h' rfl fun ρ w h1 h2=>?_
 obtain ⟨hl,hv⟩:=List.getElem?_eq_some_iff.1 hi
 have hlt:i<s.size:=by rw [Lib.size_eq];exact hl
 have hi2:s[i]'hlt=c:=by rw [← hv];rfl
 have e:=run_index_string (P:=P) (w:=w) xt s k (i:Int) hu
 rw [dif_pos ⟨by omega,by omega⟩] at e
 simp only [execOp,h1,h2,Sem.run_bind,e,Result.andThen_ok,Sem.run_pure,Int.toNat_natCast,hi2]
theorem Op.strSl {d l h:Nat} {x:Operand} {s r:ByteArray} {lo hi:Option Operand} {rs0 rs rs':List (Nat × V)} {xt ty:TypeId} {pos af gd} (hu:P.underlying xt=some .string) (hx:OV x (vs s) rs0) (hl:BO lo 0 l rs) (hh:BO hi s.size h rs') (h1:l≤h) (h2:h≤s.size) (he:s.extract l h=r) :
  zan P ⟨some d,.slice xt x lo hi none,ty,pos,af,gd⟩ { rs:=rs0++(rs++rs'),ws:=[(d,some (vs r))] } :=
 zan.value d _ rfl rfl rfl fun e f H B a w hok hr2=>by
  have g1:a.eval x = .string s:=VR.rawI (H:=H) (B:=B) (hx.eval hok fun p hp=>hr2.1 p (by simp [hp]))
  have hb:=run_bounds (P:=P) (w:=w) (is:=false) (cap:=s.size) hl hh hok (fun p hp=>hr2.1 p (by simp [hp])) (fun p hp=>hr2.1 p (by simp [hp])) h1 h2
  subst he
  refine ⟨.string (s.extract l h),?_,DR.raw _ rfl⟩
  have hrun:(Instr.sliceAt xt (a.eval x) (lo.map a.eval) (hi.map a.eval) none).run P w = .ok (.string (s.extract l h)) w:=by
   rw [g1]
   simp only [Instr.sliceAt,Instr.slice,Sem.run_bind,run_underlying hu,Result.andThen_ok,Option.isSome_none,Bool.false_eq_true,if_false,Sem.run_pure,hb]
  generalize a.eval=ρ at hrun ⊢
  have hrun':(Instr.sliceAt xt (ρ x) (lo.map ρ) (hi.map ρ) ((none:Option Operand).map ρ)).run P w = .ok (.string (s.extract l h)) w:=hrun
  simp only [execOp,Sem.run_bind,hrun', Result.andThen_ok,Sem.run_pure]
end
def joinB (xs:List ByteArray) (sep:ByteArray):ByteArray:=⟨(Lib.join (xs.map (·.data.toList)) sep.data.toList).toArray⟩
theorem postBelow {w w':World} {H:Im} {B:Bl} {v:Value} {en:Ending} (hf:flat v=true) (hs:∀ b o,H b=some o→w.heap[b]?=some o) (he:en = .returned v) (hx:Below w.heap.size w w'):∃ u H' B', en = .returned u∧Post [] w H B (.t (.c (.d (.raw v)))) [] u w' H' B':=by
 subst he
 exact postP hf hs ⟨rfl,hx.os,hx.tape,hx.output,hx.size,fun b hb=>hx.block b hb⟩
theorem SJoin (xs:List ByteArray) (sep:ByteArray) (hN:xs.length≤1000000) (hlen:(joinB xs sep).size≤140737488355328):Fn Tryd.prog 44 [] [.t (.c (.d (.sl 1 (xs.map za3)))),vs sep] (vs (joinB xs sep)) []:=by
 intro w H B vals pre
 obtain ⟨a,b,rfl,h1,h2⟩:=args2 pre.arg
 have h2:=VR.rawI h2
 subst h2
 have hl2:(Lib.join (xs.map (·.data.toList)) sep.data.toList).length≤140737488355328:=by have:=hlen;unfold joinB at this;simpa [ByteArray.size] using this
 have h1:DR H (.sl 1 (xs.map za3)) a:=h1
 generalize hr:xs.map za3=rows at h1
 cases h1 with
 | nil _ ao c k1 k2 =>
  have hx:xs=[]:=by cases xs with | nil=>rfl | cons _ _=>cases hr
  subst hx
  refine (Tryd.strings_Join_none ao c sep w).mono ?_
  rintro e w' ⟨rfl,rfl⟩
  exact postBelow rfl pre.sat rfl (Below.refl _ _)
 | sl _ _ b o c arr ty fz us hp hb hl hc hes hv hx =>
  subst hr
  have hlen':(xs.map za3).length=xs.length:=List.length_map _
  have hcells:∀ (j:Nat) x,xs[j]?=some x→w.cell? ⟨b,o+j,none⟩=some (.string x):=by
   intro j x hj
   have hjl:j<xs.length:=zat hj
   have e1:=hv j (by rw [hlen'];exact hjl) 0 (by decide)
   have e2:=hx j (by rw [hlen'];exact hjl) 0 (by simp [za3])
   have e3:(xs.map za3)[j]'(by rw [hlen'];exact hjl)=za3 x:=by
    rw [List.getElem_map];congr 1;exact (List.getElem?_eq_some_iff.1 hj).2
   have e4:DR H (.raw (.string x)) (us j 0):=by
    have:((xs.map za3)[j]'(by rw [hlen'];exact hjl))[0]'(by simp [za3])=D.raw (.string x):=by simp only [e3];rfl
    rw [← this];exact e2
   have e5:us j 0 = .string x:=by generalize us j 0=q at e4;cases e4;rfl
   rw [e5] at e1
   have:=pre.sat b _ hb
   simp only [World.cell?, this]
   simpa using e1
  have hbk:b<w.heap.size:=(Array.getElem?_eq_some_iff.1 (pre.sat b _ hb)).1
  rw [hlen'] at hl ⊢
  refine (Tryd.strings_Join b o c xs sep w hcells hbk (by omega) hl hl2).mono ?_
  rintro e w' ⟨he,hx⟩
  exact postBelow rfl pre.sat he hx
def cutP (s p:ByteArray):ByteArray:=⟨(Lib.trimPrefix s.data.toList p.data.toList).toArray⟩
theorem SCutPrefix (s p:ByteArray):Fn Tryd.prog 28 [] [vs s,vs p] (.tup [.c (.d (.raw (.string (cutP s p)))),.c (cB (Lib.hasPrefix s.data.toList p.data.toList))]) []:=by
 intro w H B vals pre
 obtain ⟨a,b,rfl,h1,h2⟩:=args2 pre.arg
 have h1:=VR.rawI h1
 have h2:=VR.rawI h2
 subst h1 h2
 refine (Tryd.strings_CutPrefix s p w).mono ?_
 rintro e w' ⟨rfl,rfl⟩
 exact ⟨_,_,_,rfl,postE (Go.Proofs.YtlfebjeoeijlfaaDoor.Ext.refl _) pre.sat ⟨_,rfl,DR.raw _ rfl,DR.raw _ rfl,trivial⟩⟩
theorem SIndex1 (s:ByteArray) (c:UInt8):Fn Tryd.prog 51 [] [vs s,vs ⟨#[c]⟩] (vi .i64 (Lib.indexByte s.data.toList c)) []:=by
 intro w H B vals pre
 obtain ⟨a,b,rfl,h1,h2⟩:=args2 pre.arg
 have h1:=VR.rawI h1
 have h2:=VR.rawI h2
 subst h1 h2
 refine (Tryd.stringslite_Index_one s c w).mono ?_
 rintro e w' ⟨rfl,rfl⟩
 exact postP rfl pre.sat ⟨rfl,Go.Proofs.YtlfebjeoeijlfaaDoor.Ext.refl _⟩
end
theorem pe1_0:zaa Tryd.prog 45:=zaa.mk' (by kernel_rfl)
theorem pe1_3:zaa Tryd.prog 26:=zaa.mk' (by kernel_rfl)
theorem fl_yes {α:Type} {p:α→Bool} {xs:List α} {j:Nat} {x:α} (h:xs[j]?=some x) (hp:p x=true):((xs.take (j+1)).filter p).length=((xs.take j).filter p).length+1:=by
 rw [List.take_add_one,h,List.filter_append,List.length_append];simp [hp]
theorem fl_no {α:Type} {p:α→Bool} {xs:List α} {j:Nat} {x:α} (h:xs[j]?=some x) (hp:p x=false):((xs.take (j+1)).filter p).length=((xs.take j).filter p).length:=by
 rw [List.take_add_one,h,List.filter_append,List.length_append];simp [hp]
theorem tk_at {α:Type} {xs:List α} {n j:Nat} {x:α} (h:(xs.take n)[j]?=some x):xs[j]?=some x:=by
 have h1:=(List.getElem?_eq_some_iff.1 h).1
 rw [List.length_take] at h1
 rwa [List.getElem?_take_of_lt (by omega)] at h
theorem actN_le (s:zaj) (p:Int) (n:Nat):(zaw s p n).length≤s.acts.length:=Nat.le_trans (List.length_filter_le _ _) (by rw [List.length_take];omega)
theorem actN_yes {s:zaj} {p:Int} {j:Nat} {a:za6} (h:s.acts[j]?=some a) (hp:(a.proc == p)=true):(zaw s p (j+1)).length=(zaw s p j).length+1:=fl_yes h hp
theorem actN_no {s:zaj} {p:Int} {j:Nat} {a:za6} (h:s.acts[j]?=some a) (hp:(a.proc == p)=false):(zaw s p (j+1)).length=(zaw s p j).length:=fl_no h hp
theorem actW_n {s:zaj} {i:Int} (h:atI s.acts i=none):zdd s i=(⟨#[115,116,117,116,116,101,114]⟩:ByteArray):=by unfold zdd;rw [h]
theorem actW_q {s:zaj} {k:Nat} {c:za6} (h:s.acts[k]?=some c) (hp:atI s.procs c.proc=none):zdd s (k:Int)=((⟨#[63]⟩:ByteArray)++(⟨#[46]⟩:ByteArray))++itW ((zaw s c.proc (k+1)).length:Int):=by unfold zdd;rw [zcx,h];simp only [hp,Int.toNat_natCast]
theorem actW_s {s:zaj} {k:Nat} {c:za6} {pr:za2} (h:s.acts[k]?=some c) (hp:atI s.procs c.proc=some pr):zdd s (k:Int)=(pr.name++(⟨#[46]⟩:ByteArray))++itW ((zaw s c.proc (k+1)).length:Int):=by unfold zdd;rw [zcx,h];simp only [hp,Int.toNat_natCast]
theorem itA_sz (s:zaj) (p:Int) (n:Nat) (hl:s.acts.length≤1000000):(itW ((zaw s p n).length:Int)).size≤8:=itW_sz (k:=7) (by have:=actN_le s p n;show _<10000000;omega) (by decide)
set_option maxHeartbeats 4000000 in
theorem PActN (s:zaj) (i:Int) (_hz:zcy s) (_hl:s.acts.length≤1000000) (hi:atI s.acts i=none):Fn Tryd.prog 33 [] [.t (.agg ([.d (.sl 1 (s.vars.map za3)),.d (.sl 5 (s.bounds.map za1.d)),cI s.init.kind,cPs s.init.r.t.parts]++zi s.init.r.t.k++[cB s.init.r.eq,cFs s.init.kids,.d (.sl 3 (s.procs.map za2.d)),.d (.sl 10 (s.acts.map za6.d))])),vi .i64 i] (vs (zdd s i)) []:=by
 refine Fn.body Tryd.func33 rfl 56 rfl fun w H B a h=>?_
 refine rq za0 0 [] [(1,vi .i64 i),(2,vp 0 0),(4,.t (.c (.d (.raw (.string ByteArray.empty)))))] [(0,.box ([.d (.sl 1 (s.vars.map za3)),.d (.sl 5 (s.bounds.map za1.d)),cI s.init.kind,cPs s.init.r.t.parts]++zi s.init.r.t.k++[cB s.init.r.eq,cFs s.init.kids,.d (.sl 3 (s.procs.map za2.d)),.d (.sl 10 (s.acts.map za6.d))]))] h ?_;clear h;intro a w h
 refine rq za0 1 [(3,.call (PAtAN s.acts i hi) pe1_0)] [(1,vi .i64 i),(2,vp 0 0),(4,.t (.c (.d (.raw (.string ByteArray.empty))))),(5,vp 1 0),(6,vb false)] [(0,.box ([.d (.sl 1 (s.vars.map za3)),.d (.sl 5 (s.bounds.map za1.d)),cI s.init.kind,cPs s.init.r.t.parts]++zi s.init.r.t.k++[cB s.init.r.eq,cFs s.init.kids,.d (.sl 3 (s.procs.map za2.d)),.d (.sl 10 (s.acts.map za6.d))])),(1,.box ([cI zbx.proc,cI zbx.from_,cI zbx.to_,cI zbx.guard.kind,cPs zbx.guard.r.t.parts]++zi zbx.guard.r.t.k++[cB zbx.guard.r.eq,cFs zbx.guard.kids,.d (.sl 5 (zbx.moves.map zah.d))]))] h ?_;clear h;intro a w h
 refine wp_seq (rq za0 2 [] [(1,vi .i64 i),(2,vp 0 0),(4,.t (.c (.d (.raw (.string ByteArray.empty))))),(5,vp 1 0),(21,vb true)] [(0,.box ([.d (.sl 1 (s.vars.map za3)),.d (.sl 5 (s.bounds.map za1.d)),cI s.init.kind,cPs s.init.r.t.parts]++zi s.init.r.t.k++[cB s.init.r.eq,cFs s.init.kids,.d (.sl 3 (s.procs.map za2.d)),.d (.sl 10 (s.acts.map za6.d))])),(1,.box ([cI zbx.proc,cI zbx.from_,cI zbx.to_,cI zbx.guard.kind,cPs zbx.guard.r.t.parts]++zi zbx.guard.r.t.k++[cB zbx.guard.r.eq,cFs zbx.guard.kids,.d (.sl 5 (zbx.moves.map zah.d))]))] h ?_);clear h;intro a w h
 refine zad true h rfl (fun hc=>?_) (fun hc=>?_)
 ·clear hc
  refine rq za0 2 [] [(1,vi .i64 i),(2,vp 0 0),(4,.t (.c (.d (.raw (.string (⟨#[115,116,117,116,116,101,114]⟩:ByteArray)))))),(5,vp 1 0)] [(0,.box ([.d (.sl 1 (s.vars.map za3)),.d (.sl 5 (s.bounds.map za1.d)),cI s.init.kind,cPs s.init.r.t.parts]++zi s.init.r.t.k++[cB s.init.r.eq,cFs s.init.kids,.d (.sl 3 (s.procs.map za2.d)),.d (.sl 10 (s.acts.map za6.d))])),(1,.box ([cI zbx.proc,cI zbx.from_,cI zbx.to_,cI zbx.guard.kind,cPs zbx.guard.r.t.parts]++zi zbx.guard.r.t.k++[cB zbx.guard.r.eq,cFs zbx.guard.kids,.d (.sl 5 (zbx.moves.map zah.d))]))] h ?_;clear h;intro a w h
  refine wp_ret (zaf ?_)
  refine zb0 [.c (.d (.raw (.string (⟨#[115,116,117,116,116,101,114]⟩:ByteArray))))] h Exit.ret (.inl rfl)  rfl ⟨RV.tmp _ _ rfl,trivial⟩ ?_
  rw [actW_n hi];rfl
 ·cases hc
set_option maxHeartbeats 4000000 in
theorem PActQ (s:zaj) (k:Nat) (c:za6) (_hz:zcy s) (hl:s.acts.length≤1000000) (hk:s.acts[k]?=some c) (hp:atI s.procs c.proc=none):Fn Tryd.prog 33 [] [.t (.agg ([.d (.sl 1 (s.vars.map za3)),.d (.sl 5 (s.bounds.map za1.d)),cI s.init.kind,cPs s.init.r.t.parts]++zi s.init.r.t.k++[cB s.init.r.eq,cFs s.init.kids,.d (.sl 3 (s.procs.map za2.d)),.d (.sl 10 (s.acts.map za6.d))])),vi .i64 (k:Int)] (vs (zdd s (k:Int))) []:=by
 have lk:=zat hk
 have ltk:(s.acts.take (k+1)).length=k+1:=by rw [List.length_take];omega
 refine Fn.body Tryd.func33 rfl 56 rfl fun w H B a h=>?_
 refine rq za0 0 [] [(1,vi .i64 (k:Int)),(2,vp 0 0),(4,.t (.c (.d (.raw (.string ByteArray.empty)))))] [(0,.box ([.d (.sl 1 (s.vars.map za3)),.d (.sl 5 (s.bounds.map za1.d)),cI s.init.kind,cPs s.init.r.t.parts]++zi s.init.r.t.k++[cB s.init.r.eq,cFs s.init.kids,.d (.sl 3 (s.procs.map za2.d)),.d (.sl 10 (s.acts.map za6.d))]))] h ?_;clear h;intro a w h
 refine rq za0 1 [(3,.call (PAtAS s.acts (k:Int) c (zcx.trans hk)) pe1_0)] [(1,vi .i64 (k:Int)),(2,vp 0 0),(4,.t (.c (.d (.raw (.string ByteArray.empty))))),(5,vp 1 0),(6,vb true)] [(0,.box ([.d (.sl 1 (s.vars.map za3)),.d (.sl 5 (s.bounds.map za1.d)),cI s.init.kind,cPs s.init.r.t.parts]++zi s.init.r.t.k++[cB s.init.r.eq,cFs s.init.kids,.d (.sl 3 (s.procs.map za2.d)),.d (.sl 10 (s.acts.map za6.d))])),(1,.box ([cI c.proc,cI c.from_,cI c.to_,cI c.guard.kind,cPs c.guard.r.t.parts]++zi c.guard.r.t.k++[cB c.guard.r.eq,cFs c.guard.kids,.d (.sl 5 (c.moves.map zah.d))]))] h ?_;clear h;intro a w h
 refine wp_seq (rq za0 2 [] [(1,vi .i64 (k:Int)),(2,vp 0 0),(4,.t (.c (.d (.raw (.string ByteArray.empty))))),(5,vp 1 0),(21,vb false)] [(0,.box ([.d (.sl 1 (s.vars.map za3)),.d (.sl 5 (s.bounds.map za1.d)),cI s.init.kind,cPs s.init.r.t.parts]++zi s.init.r.t.k++[cB s.init.r.eq,cFs s.init.kids,.d (.sl 3 (s.procs.map za2.d)),.d (.sl 10 (s.acts.map za6.d))])),(1,.box ([cI c.proc,cI c.from_,cI c.to_,cI c.guard.kind,cPs c.guard.r.t.parts]++zi c.guard.r.t.k++[cB c.guard.r.eq,cFs c.guard.kids,.d (.sl 5 (c.moves.map zah.d))]))] h ?_);clear h;intro a w h
 refine zad false h rfl (fun hc=>?_) (fun hc=>?_)
 ·cases hc
 ·clear hc
  refine wp_skip (za5 (rq za0 2 [] [(1,vi .i64 (k:Int)),(2,vp 0 0),(4,.t (.c (.d (.raw (.string ByteArray.empty))))),(5,vp 1 0),(7,vi .i64 0)] [(0,.box ([.d (.sl 1 (s.vars.map za3)),.d (.sl 5 (s.bounds.map za1.d)),cI s.init.kind,cPs s.init.r.t.parts]++zi s.init.r.t.k++[cB s.init.r.eq,cFs s.init.kids,.d (.sl 3 (s.procs.map za2.d)),.d (.sl 10 (s.acts.map za6.d))])),(1,.box ([cI c.proc,cI c.from_,cI c.to_,cI c.guard.kind,cPs c.guard.r.t.parts]++zi c.guard.r.t.k++[cB c.guard.r.eq,cFs c.guard.kids,.d (.sl 5 (c.moves.map zah.d))]))] h ?_));clear h;intro a w h
  refine wp_seq (rq za0 2 [(3,.add .i64 (m:=(k:Int)) (n:=1) (zam (by omega) (by omega))),(4,.gen _ _ _ fun _ _ _ _=>Op.sliceD (d:=26) (t:=23) (l:=0) (h:=(k+1)) (rows:=s.acts.map za6.d) (rows':=(s.acts.take (k+1)).map za6.d) ki_1 (BO.no _) (BO.yes (k:=.i64) (i:=(k+1)) _ (OV.tmp 25 _)) (by first | omega | (simp at *;omega)) (by first | omega | (simp only [List.length_map];omega) | (simp at *;omega)) (by simp [List.map_take])),(5,.len (c:=(.d (.sl 10 ((s.acts.take (k+1)).map za6.d)))) (n:=(s.acts.take (k+1)).length) (za8 _ _ _))] [(2,vp 0 0),(4,.t (.c (.d (.raw (.string ByteArray.empty))))),(5,vp 1 0),(7,vi .i64 0),(26,.t (.c (.d (.sl 10 ((s.acts.take (k+1)).map za6.d))))),(27,vi .i64 ((s.acts.take (k+1)).length:Int)),(28,vi .i64 0)] [(0,.box ([.d (.sl 1 (s.vars.map za3)),.d (.sl 5 (s.bounds.map za1.d)),cI s.init.kind,cPs s.init.r.t.parts]++zi s.init.r.t.k++[cB s.init.r.eq,cFs s.init.kids,.d (.sl 3 (s.procs.map za2.d)),.d (.sl 10 (s.acts.map za6.d))])),(1,.box ([cI c.proc,cI c.from_,cI c.to_,cI c.guard.kind,cPs c.guard.r.t.parts]++zi c.guard.r.t.k++[cB c.guard.r.eq,cFs c.guard.kids,.d (.sl 5 (c.moves.map zah.d))]))] h ?_);clear h;intro a w h
  refine wp_block ?_
  replace h:=h.conv (f':=F.of [(2,vp 0 0),(4,.t (.c (.d (.raw (.string ByteArray.empty))))),(5,vp 1 0),(7,vi .i64 ((zaw s c.proc 0).length:Int)),(26,.t (.c (.d (.sl 10 ((s.acts.take (k+1)).map za6.d))))),(27,vi .i64 ((s.acts.take (k+1)).length:Int)),(28,vi .i64 ((zaw s c.proc 0).length:Int))] [(0,.box ([.d (.sl 1 (s.vars.map za3)),.d (.sl 5 (s.bounds.map za1.d)),cI s.init.kind,cPs s.init.r.t.parts]++zi s.init.r.t.k++[cB s.init.r.eq,cFs s.init.kids,.d (.sl 3 (s.procs.map za2.d)),.d (.sl 10 (s.acts.map za6.d))])),(1,.box ([cI c.proc,cI c.from_,cI c.to_,cI c.guard.kind,cPs c.guard.r.t.parts]++zi c.guard.r.t.k++[cB c.guard.r.eq,cFs c.guard.kids,.d (.sl 5 (c.moves.map zah.d))]))]) (by rw [show (0:Int)=((zaw s c.proc 0).length:Int) from rfl])
  refine zch (ι:=(Nat)) (fun (z_:(Nat))=>match z_ with | j=>j≤(s.acts.take (k+1)).length)
    (fun (z_:(Nat))=>match z_ with | j=>[(2,vp 0 0),(4,.t (.c (.d (.raw (.string ByteArray.empty))))),(5,vp 1 0),(7,vi .i64 ((zaw s c.proc j).length:Int)),(26,.t (.c (.d (.sl 10 ((s.acts.take (k+1)).map za6.d))))),(27,vi .i64 ((s.acts.take (k+1)).length:Int)),(28,vi .i64 (j:Int))])
    (fun (z_:(Nat))=>match z_ with | j=>[(0,.box ([.d (.sl 1 (s.vars.map za3)),.d (.sl 5 (s.bounds.map za1.d)),cI s.init.kind,cPs s.init.r.t.parts]++zi s.init.r.t.k++[cB s.init.r.eq,cFs s.init.kids,.d (.sl 3 (s.procs.map za2.d)),.d (.sl 10 (s.acts.map za6.d))])),(1,.box ([cI c.proc,cI c.from_,cI c.to_,cI c.guard.kind,cPs c.guard.r.t.parts]++zi c.guard.r.t.k++[cB c.guard.r.eq,cFs c.guard.kids,.d (.sl 5 (c.moves.map zah.d))]))])
    (fun (z_:(Nat))=>match z_ with | j=>(s.acts.take (k+1)).length - j) 0 ?_ h (by kernel_rfl) (by kernel_rfl) ?_
  ·exact Nat.zero_le _
  ·clear h;rintro j a w hI h
   change St _ (F.of [(2,vp 0 0),(4,.t (.c (.d (.raw (.string ByteArray.empty))))),(5,vp 1 0),(7,vi .i64 ((zaw s c.proc j).length:Int)),(26,.t (.c (.d (.sl 10 ((s.acts.take (k+1)).map za6.d))))),(27,vi .i64 ((s.acts.take (k+1)).length:Int)),(28,vi .i64 (j:Int))] [(0,.box ([.d (.sl 1 (s.vars.map za3)),.d (.sl 5 (s.bounds.map za1.d)),cI s.init.kind,cPs s.init.r.t.parts]++zi s.init.r.t.k++[cB s.init.r.eq,cFs s.init.kids,.d (.sl 3 (s.procs.map za2.d)),.d (.sl 10 (s.acts.map za6.d))])),(1,.box ([cI c.proc,cI c.from_,cI c.to_,cI c.guard.kind,cPs c.guard.r.t.parts]++zi c.guard.r.t.k++[cB c.guard.r.eq,cFs c.guard.kids,.d (.sl 5 (c.moves.map zah.d))]))]) a w at h
   have lan:=actN_le s c.proc j
   refine rq za0 2 [] [(2,vp 0 0),(4,.t (.c (.d (.raw (.string ByteArray.empty))))),(5,vp 1 0),(7,vi .i64 ((zaw s c.proc j).length:Int)),(26,.t (.c (.d (.sl 10 ((s.acts.take (k+1)).map za6.d))))),(27,vi .i64 ((s.acts.take (k+1)).length:Int)),(28,vi .i64 (j:Int)),(29,vb (decide ((j:Int)<((s.acts.take (k+1)).length:Int))))] [(0,.box ([.d (.sl 1 (s.vars.map za3)),.d (.sl 5 (s.bounds.map za1.d)),cI s.init.kind,cPs s.init.r.t.parts]++zi s.init.r.t.k++[cB s.init.r.eq,cFs s.init.kids,.d (.sl 3 (s.procs.map za2.d)),.d (.sl 10 (s.acts.map za6.d))])),(1,.box ([cI c.proc,cI c.from_,cI c.to_,cI c.guard.kind,cPs c.guard.r.t.parts]++zi c.guard.r.t.k++[cB c.guard.r.eq,cFs c.guard.kids,.d (.sl 5 (c.moves.map zah.d))]))] h ?_;clear h;intro a w h
   refine wp_seq ?_
   refine zad (decide ((j:Int)<((s.acts.take (k+1)).length:Int))) h rfl (fun hc=>?_) (fun hc=>?_)
   ·have hc1:=hc;clear hc
    have hc1':=of_decide_eq_true hc1
    refine wp_skip (za5 (wp_seq (wp_block ?_)))
    obtain ⟨x2,hx2⟩:∃ z_:za6,(s.acts.take (k+1))[j]?=some z_:=⟨_,List.getElem?_eq_getElem (by first | omega | (simp at *;omega))⟩
    refine rq za0 2 [(0,.gen _ _ _ fun _ _ _ _=>Op.idxD (d:=30) (t:=26) (k:=.i64) ki_1 (zb2 hx2 (f:=za6.d)) (OV.tmp 28 _))] [(2,vp 0 0),(4,.t (.c (.d (.raw (.string ByteArray.empty))))),(5,vp 1 0),(7,vi .i64 ((zaw s c.proc j).length:Int)),(9,vp 2 0),(26,.t (.c (.d (.sl 10 ((s.acts.take (k+1)).map za6.d))))),(27,vi .i64 ((s.acts.take (k+1)).length:Int)),(28,vi .i64 (j:Int))] [(0,.box ([.d (.sl 1 (s.vars.map za3)),.d (.sl 5 (s.bounds.map za1.d)),cI s.init.kind,cPs s.init.r.t.parts]++zi s.init.r.t.k++[cB s.init.r.eq,cFs s.init.kids,.d (.sl 3 (s.procs.map za2.d)),.d (.sl 10 (s.acts.map za6.d))])),(1,.box ([cI c.proc,cI c.from_,cI c.to_,cI c.guard.kind,cPs c.guard.r.t.parts]++zi c.guard.r.t.k++[cB c.guard.r.eq,cFs c.guard.kids,.d (.sl 5 (c.moves.map zah.d))])),(2,.box ([cI x2.proc,cI x2.from_,cI x2.to_,cI x2.guard.kind,cPs x2.guard.r.t.parts]++zi x2.guard.r.t.k++[cB x2.guard.r.eq,cFs x2.guard.kids,.d (.sl 5 (x2.moves.map zah.d))]))] h ?_;clear h;intro a w h
    refine rq za0 3 [] [(2,vp 0 0),(4,.t (.c (.d (.raw (.string ByteArray.empty))))),(5,vp 1 0),(7,vi .i64 ((zaw s c.proc j).length:Int)),(26,.t (.c (.d (.sl 10 ((s.acts.take (k+1)).map za6.d))))),(27,vi .i64 ((s.acts.take (k+1)).length:Int)),(28,vi .i64 (j:Int)),(36,vb (x2.proc == c.proc))] [(0,.box ([.d (.sl 1 (s.vars.map za3)),.d (.sl 5 (s.bounds.map za1.d)),cI s.init.kind,cPs s.init.r.t.parts]++zi s.init.r.t.k++[cB s.init.r.eq,cFs s.init.kids,.d (.sl 3 (s.procs.map za2.d)),.d (.sl 10 (s.acts.map za6.d))])),(1,.box ([cI c.proc,cI c.from_,cI c.to_,cI c.guard.kind,cPs c.guard.r.t.parts]++zi c.guard.r.t.k++[cB c.guard.r.eq,cFs c.guard.kids,.d (.sl 5 (c.moves.map zah.d))]))] h ?_;clear h;intro a w h
    refine zad (x2.proc == c.proc) h rfl (fun hc=>?_) (fun hc=>?_)
    ·have hc2:=hc;clear hc
     have hc2':=hc2;(try simp at hc2')
     refine rn za0 3 [(1,.add .i64 (m:=((zaw s c.proc j).length:Int)) (n:=1) (zam (by omega) (by omega)))] [(2,vp 0 0),(4,.t (.c (.d (.raw (.string ByteArray.empty))))),(5,vp 1 0),(7,vi .i64 (((zaw s c.proc j).length:Int)+1)),(26,.t (.c (.d (.sl 10 ((s.acts.take (k+1)).map za6.d))))),(27,vi .i64 ((s.acts.take (k+1)).length:Int)),(28,vi .i64 (j:Int))] [(0,.box ([.d (.sl 1 (s.vars.map za3)),.d (.sl 5 (s.bounds.map za1.d)),cI s.init.kind,cPs s.init.r.t.parts]++zi s.init.r.t.k++[cB s.init.r.eq,cFs s.init.kids,.d (.sl 3 (s.procs.map za2.d)),.d (.sl 10 (s.acts.map za6.d))])),(1,.box ([cI c.proc,cI c.from_,cI c.to_,cI c.guard.kind,cPs c.guard.r.t.parts]++zi c.guard.r.t.k++[cB c.guard.r.eq,cFs c.guard.kids,.d (.sl 5 (c.moves.map zah.d))]))] h ?_;clear h;intro a w h
     refine zar (za5 (rn za0 3 [(0,.add .i64 (m:=(j:Int)) (n:=1) (zam (by omega) (by omega)))] [(2,vp 0 0),(4,.t (.c (.d (.raw (.string ByteArray.empty))))),(5,vp 1 0),(7,vi .i64 (((zaw s c.proc j).length:Int)+1)),(26,.t (.c (.d (.sl 10 ((s.acts.take (k+1)).map za6.d))))),(27,vi .i64 ((s.acts.take (k+1)).length:Int)),(28,vi .i64 ((j:Int)+1))] [(0,.box ([.d (.sl 1 (s.vars.map za3)),.d (.sl 5 (s.bounds.map za1.d)),cI s.init.kind,cPs s.init.r.t.parts]++zi s.init.r.t.k++[cB s.init.r.eq,cFs s.init.kids,.d (.sl 3 (s.procs.map za2.d)),.d (.sl 10 (s.acts.map za6.d))])),(1,.box ([cI c.proc,cI c.from_,cI c.to_,cI c.guard.kind,cPs c.guard.r.t.parts]++zi c.guard.r.t.k++[cB c.guard.r.eq,cFs c.guard.kids,.d (.sl 5 (c.moves.map zah.d))]))] h ?_));clear h;intro a w h
     refine za5 ?_
     replace h:=h.conv (f':=F.of [(2,vp 0 0),(4,.t (.c (.d (.raw (.string ByteArray.empty))))),(5,vp 1 0),(7,vi .i64 ((zaw s c.proc (j+1)).length:Int)),(26,.t (.c (.d (.sl 10 ((s.acts.take (k+1)).map za6.d))))),(27,vi .i64 ((s.acts.take (k+1)).length:Int)),(28,vi .i64 ((j:Int)+1))] [(0,.box ([.d (.sl 1 (s.vars.map za3)),.d (.sl 5 (s.bounds.map za1.d)),cI s.init.kind,cPs s.init.r.t.parts]++zi s.init.r.t.k++[cB s.init.r.eq,cFs s.init.kids,.d (.sl 3 (s.procs.map za2.d)),.d (.sl 10 (s.acts.map za6.d))])),(1,.box ([cI c.proc,cI c.from_,cI c.to_,cI c.guard.kind,cPs c.guard.r.t.parts]++zi c.guard.r.t.k++[cB c.guard.r.eq,cFs c.guard.kids,.d (.sl 5 (c.moves.map zah.d))]))]) (by rw [show (((zaw s c.proc j).length:Int)+1:Int)=((zaw s c.proc (j+1)).length:Int) from (by rw [actN_yes (tk_at hx2) hc2];rfl)])
     refine zb5 (x:=j) (y:=j+1) h ?_ ?_
     ·have:=zat hx2
      show j+1≤(s.acts.take (k+1)).length
      omega
     ·show (s.acts.take (k+1)).length - (j+1)<(s.acts.take (k+1)).length - j
      have:=zat hx2;omega
    ·have hc3:=hc;clear hc
     have hc3':=hc3;(try simp at hc3')
     refine wp_skip (zar (za5 (rn za0 3 [(0,.add .i64 (m:=(j:Int)) (n:=1) (zam (by omega) (by omega)))] [(2,vp 0 0),(4,.t (.c (.d (.raw (.string ByteArray.empty))))),(5,vp 1 0),(7,vi .i64 ((zaw s c.proc j).length:Int)),(26,.t (.c (.d (.sl 10 ((s.acts.take (k+1)).map za6.d))))),(27,vi .i64 ((s.acts.take (k+1)).length:Int)),(28,vi .i64 ((j:Int)+1))] [(0,.box ([.d (.sl 1 (s.vars.map za3)),.d (.sl 5 (s.bounds.map za1.d)),cI s.init.kind,cPs s.init.r.t.parts]++zi s.init.r.t.k++[cB s.init.r.eq,cFs s.init.kids,.d (.sl 3 (s.procs.map za2.d)),.d (.sl 10 (s.acts.map za6.d))])),(1,.box ([cI c.proc,cI c.from_,cI c.to_,cI c.guard.kind,cPs c.guard.r.t.parts]++zi c.guard.r.t.k++[cB c.guard.r.eq,cFs c.guard.kids,.d (.sl 5 (c.moves.map zah.d))]))] h ?_)));clear h;intro a w h
     refine za5 ?_
     replace h:=h.conv (f':=F.of [(2,vp 0 0),(4,.t (.c (.d (.raw (.string ByteArray.empty))))),(5,vp 1 0),(7,vi .i64 ((zaw s c.proc (j+1)).length:Int)),(26,.t (.c (.d (.sl 10 ((s.acts.take (k+1)).map za6.d))))),(27,vi .i64 ((s.acts.take (k+1)).length:Int)),(28,vi .i64 ((j:Int)+1))] [(0,.box ([.d (.sl 1 (s.vars.map za3)),.d (.sl 5 (s.bounds.map za1.d)),cI s.init.kind,cPs s.init.r.t.parts]++zi s.init.r.t.k++[cB s.init.r.eq,cFs s.init.kids,.d (.sl 3 (s.procs.map za2.d)),.d (.sl 10 (s.acts.map za6.d))])),(1,.box ([cI c.proc,cI c.from_,cI c.to_,cI c.guard.kind,cPs c.guard.r.t.parts]++zi c.guard.r.t.k++[cB c.guard.r.eq,cFs c.guard.kids,.d (.sl 5 (c.moves.map zah.d))]))]) (by rw [show (((zaw s c.proc j).length:Int):Int)=((zaw s c.proc (j+1)).length:Int) from (by rw [actN_no (tk_at hx2) hc3])])
     refine zb5 (x:=j) (y:=j+1) h ?_ ?_
     ·have:=zat hx2
      show j+1≤(s.acts.take (k+1)).length
      omega
     ·show (s.acts.take (k+1)).length - (j+1)<(s.acts.take (k+1)).length - j
      have:=zat hx2;omega
   ·have hc4:=hc;clear hc
    have hc4':=of_decide_eq_false hc4
    refine wp_exit (zap (zap (zae (za5 ?_))))
    have hjk:j=k+1:=by have:=of_decide_eq_false hc4;omega
    have lit:=itA_sz s c.proc (k+1) hl
    have lan:=actN_le s c.proc (k+1)
    replace h:=h.conv (f':=F.of [(2,vp 0 0),(4,.t (.c (.d (.raw (.string ByteArray.empty))))),(5,vp 1 0),(7,vi .i64 ((zaw s c.proc (k+1)).length:Int)),(26,.t (.c (.d (.sl 10 ((s.acts.take (k+1)).map za6.d))))),(27,vi .i64 ((s.acts.take (k+1)).length:Int)),(28,vi .i64 (j:Int)),(29,vb (decide ((j:Int)<((s.acts.take (k+1)).length:Int))))] [(0,.box ([.d (.sl 1 (s.vars.map za3)),.d (.sl 5 (s.bounds.map za1.d)),cI s.init.kind,cPs s.init.r.t.parts]++zi s.init.r.t.k++[cB s.init.r.eq,cFs s.init.kids,.d (.sl 3 (s.procs.map za2.d)),.d (.sl 10 (s.acts.map za6.d))])),(1,.box ([cI c.proc,cI c.from_,cI c.to_,cI c.guard.kind,cPs c.guard.r.t.parts]++zi c.guard.r.t.k++[cB c.guard.r.eq,cFs c.guard.kids,.d (.sl 5 (c.moves.map zah.d))]))]) (by rw [show (((zaw s c.proc j).length:Int):Int)=((zaw s c.proc (k+1)).length:Int) from (by rw [hjk])])
    refine rq za0 3 [] [(2,vp 0 0),(4,.t (.c (.d (.raw (.string ByteArray.empty))))),(5,vp 1 0),(7,vi .i64 ((zaw s c.proc (k+1)).length:Int)),(10,.t (.c (.d (.raw (.string (⟨#[63]⟩:ByteArray))))))] [(0,.box ([.d (.sl 1 (s.vars.map za3)),.d (.sl 5 (s.bounds.map za1.d)),cI s.init.kind,cPs s.init.r.t.parts]++zi s.init.r.t.k++[cB s.init.r.eq,cFs s.init.kids,.d (.sl 3 (s.procs.map za2.d)),.d (.sl 10 (s.acts.map za6.d))])),(1,.box ([cI c.proc,cI c.from_,cI c.to_,cI c.guard.kind,cPs c.guard.r.t.parts]++zi c.guard.r.t.k++[cB c.guard.r.eq,cFs c.guard.kids,.d (.sl 5 (c.moves.map zah.d))]))] h ?_;clear h;intro a w h
    refine wp_seq (rq za0 3 [(4,.call (PAtPN s.procs c.proc hp) pb1_0)] [(4,.t (.c (.d (.raw (.string ByteArray.empty))))),(7,vi .i64 ((zaw s c.proc (k+1)).length:Int)),(10,.t (.c (.d (.raw (.string (⟨#[63]⟩:ByteArray)))))),(11,vp 3 0),(12,vb false)] [(3,.box [.d (.raw (.string zbv.name)),.d (.sl 1 (zbv.locs.map za3)),.d zbv.cmds])] h ?_);clear h;intro a w h
    refine rq za0 4 [] [(4,.t (.c (.d (.raw (.string ByteArray.empty))))),(7,vi .i64 ((zaw s c.proc (k+1)).length:Int)),(10,.t (.c (.d (.raw (.string (⟨#[63]⟩:ByteArray)))))),(11,vp 3 0),(48,vb false)] [(3,.box [.d (.raw (.string zbv.name)),.d (.sl 1 (zbv.locs.map za3)),.d zbv.cmds])] h ?_;clear h;intro a w h
    refine zad false h rfl (fun hc=>?_) (fun hc=>?_)
    ·cases hc
    ·clear hc
     refine wp_skip (za5 (rq za0 4 [(1,.gen _ _ _ fun _ _ _ _=>Op.strAdd (d:=52) (xt:=9) (yt:=9) (s1:=(⟨#[63]⟩:ByteArray)) (s2:=(⟨#[46]⟩:ByteArray)) (r:=((⟨#[63]⟩:ByteArray)++(⟨#[46]⟩:ByteArray))) (OV.tmp 51 _) (OV.const (.string (⟨#[46]⟩:ByteArray)) rfl) (by have:(⟨#[63]⟩:ByteArray).size=1:=rfl;have:(⟨#[46]⟩:ByteArray).size=1:=rfl;omega) rfl),(3,.call (SItoaA ((zaw s c.proc (k+1)).length:Int) (by omega) (by omega)) pe1_3),(4,.gen _ _ _ fun _ _ _ _=>Op.strAdd (d:=55) (xt:=9) (yt:=9) (s1:=((⟨#[63]⟩:ByteArray)++(⟨#[46]⟩:ByteArray))) (s2:=(itW ((zaw s c.proc (k+1)).length:Int))) (r:=(((⟨#[63]⟩:ByteArray)++(⟨#[46]⟩:ByteArray))++(itW ((zaw s c.proc (k+1)).length:Int)))) (OV.tmp 52 _) (OV.tmp 54 _) (by (try simp only [ByteArray.size_append]);have:(⟨#[63]⟩:ByteArray).size=1:=rfl;have:(⟨#[46]⟩:ByteArray).size=1:=rfl;omega) rfl)] [(4,.t (.c (.d (.raw (.string (((⟨#[63]⟩:ByteArray)++(⟨#[46]⟩:ByteArray))++(itW ((zaw s c.proc (k+1)).length:Int))))))))] [] h ?_));clear h;intro a w h
     refine wp_ret ?_
     refine zb0 [.c (.d (.raw (.string (((⟨#[63]⟩:ByteArray)++(⟨#[46]⟩:ByteArray))++(itW ((zaw s c.proc (k+1)).length:Int))))))] h Exit.ret (.inl rfl)  rfl ⟨RV.tmp _ _ rfl,trivial⟩ ?_
     rw [actW_q hk hp];rfl
set_option maxHeartbeats 4000000 in
theorem PActS (s:zaj) (k:Nat) (c:za6) (pr:za2) (hz:zcy s) (hl:s.acts.length≤1000000) (hk:s.acts[k]?=some c) (hp:atI s.procs c.proc=some pr):Fn Tryd.prog 33 [] [.t (.agg ([.d (.sl 1 (s.vars.map za3)),.d (.sl 5 (s.bounds.map za1.d)),cI s.init.kind,cPs s.init.r.t.parts]++zi s.init.r.t.k++[cB s.init.r.eq,cFs s.init.kids,.d (.sl 3 (s.procs.map za2.d)),.d (.sl 10 (s.acts.map za6.d))])),vi .i64 (k:Int)] (vs (zdd s (k:Int))) []:=by
 have lk:=zat hk
 have ltk:(s.acts.take (k+1)).length=k+1:=by rw [List.length_take];omega
 have lnm:=hz.name pr (zb4 hp)
 refine Fn.body Tryd.func33 rfl 56 rfl fun w H B a h=>?_
 refine rq za0 0 [] [(1,vi .i64 (k:Int)),(2,vp 0 0),(4,.t (.c (.d (.raw (.string ByteArray.empty)))))] [(0,.box ([.d (.sl 1 (s.vars.map za3)),.d (.sl 5 (s.bounds.map za1.d)),cI s.init.kind,cPs s.init.r.t.parts]++zi s.init.r.t.k++[cB s.init.r.eq,cFs s.init.kids,.d (.sl 3 (s.procs.map za2.d)),.d (.sl 10 (s.acts.map za6.d))]))] h ?_;clear h;intro a w h
 refine rq za0 1 [(3,.call (PAtAS s.acts (k:Int) c (zcx.trans hk)) pe1_0)] [(1,vi .i64 (k:Int)),(2,vp 0 0),(4,.t (.c (.d (.raw (.string ByteArray.empty))))),(5,vp 1 0),(6,vb true)] [(0,.box ([.d (.sl 1 (s.vars.map za3)),.d (.sl 5 (s.bounds.map za1.d)),cI s.init.kind,cPs s.init.r.t.parts]++zi s.init.r.t.k++[cB s.init.r.eq,cFs s.init.kids,.d (.sl 3 (s.procs.map za2.d)),.d (.sl 10 (s.acts.map za6.d))])),(1,.box ([cI c.proc,cI c.from_,cI c.to_,cI c.guard.kind,cPs c.guard.r.t.parts]++zi c.guard.r.t.k++[cB c.guard.r.eq,cFs c.guard.kids,.d (.sl 5 (c.moves.map zah.d))]))] h ?_;clear h;intro a w h
 refine wp_seq (rq za0 2 [] [(1,vi .i64 (k:Int)),(2,vp 0 0),(4,.t (.c (.d (.raw (.string ByteArray.empty))))),(5,vp 1 0),(21,vb false)] [(0,.box ([.d (.sl 1 (s.vars.map za3)),.d (.sl 5 (s.bounds.map za1.d)),cI s.init.kind,cPs s.init.r.t.parts]++zi s.init.r.t.k++[cB s.init.r.eq,cFs s.init.kids,.d (.sl 3 (s.procs.map za2.d)),.d (.sl 10 (s.acts.map za6.d))])),(1,.box ([cI c.proc,cI c.from_,cI c.to_,cI c.guard.kind,cPs c.guard.r.t.parts]++zi c.guard.r.t.k++[cB c.guard.r.eq,cFs c.guard.kids,.d (.sl 5 (c.moves.map zah.d))]))] h ?_);clear h;intro a w h
 refine zad false h rfl (fun hc=>?_) (fun hc=>?_)
 ·cases hc
 ·clear hc
  refine wp_skip (za5 (rq za0 2 [] [(1,vi .i64 (k:Int)),(2,vp 0 0),(4,.t (.c (.d (.raw (.string ByteArray.empty))))),(5,vp 1 0),(7,vi .i64 0)] [(0,.box ([.d (.sl 1 (s.vars.map za3)),.d (.sl 5 (s.bounds.map za1.d)),cI s.init.kind,cPs s.init.r.t.parts]++zi s.init.r.t.k++[cB s.init.r.eq,cFs s.init.kids,.d (.sl 3 (s.procs.map za2.d)),.d (.sl 10 (s.acts.map za6.d))])),(1,.box ([cI c.proc,cI c.from_,cI c.to_,cI c.guard.kind,cPs c.guard.r.t.parts]++zi c.guard.r.t.k++[cB c.guard.r.eq,cFs c.guard.kids,.d (.sl 5 (c.moves.map zah.d))]))] h ?_));clear h;intro a w h
  refine wp_seq (rq za0 2 [(3,.add .i64 (m:=(k:Int)) (n:=1) (zam (by omega) (by omega))),(4,.gen _ _ _ fun _ _ _ _=>Op.sliceD (d:=26) (t:=23) (l:=0) (h:=(k+1)) (rows:=s.acts.map za6.d) (rows':=(s.acts.take (k+1)).map za6.d) ki_1 (BO.no _) (BO.yes (k:=.i64) (i:=(k+1)) _ (OV.tmp 25 _)) (by first | omega | (simp at *;omega)) (by first | omega | (simp only [List.length_map];omega) | (simp at *;omega)) (by simp [List.map_take])),(5,.len (c:=(.d (.sl 10 ((s.acts.take (k+1)).map za6.d)))) (n:=(s.acts.take (k+1)).length) (za8 _ _ _))] [(2,vp 0 0),(4,.t (.c (.d (.raw (.string ByteArray.empty))))),(5,vp 1 0),(7,vi .i64 0),(26,.t (.c (.d (.sl 10 ((s.acts.take (k+1)).map za6.d))))),(27,vi .i64 ((s.acts.take (k+1)).length:Int)),(28,vi .i64 0)] [(0,.box ([.d (.sl 1 (s.vars.map za3)),.d (.sl 5 (s.bounds.map za1.d)),cI s.init.kind,cPs s.init.r.t.parts]++zi s.init.r.t.k++[cB s.init.r.eq,cFs s.init.kids,.d (.sl 3 (s.procs.map za2.d)),.d (.sl 10 (s.acts.map za6.d))])),(1,.box ([cI c.proc,cI c.from_,cI c.to_,cI c.guard.kind,cPs c.guard.r.t.parts]++zi c.guard.r.t.k++[cB c.guard.r.eq,cFs c.guard.kids,.d (.sl 5 (c.moves.map zah.d))]))] h ?_);clear h;intro a w h
  refine wp_block ?_
  replace h:=h.conv (f':=F.of [(2,vp 0 0),(4,.t (.c (.d (.raw (.string ByteArray.empty))))),(5,vp 1 0),(7,vi .i64 ((zaw s c.proc 0).length:Int)),(26,.t (.c (.d (.sl 10 ((s.acts.take (k+1)).map za6.d))))),(27,vi .i64 ((s.acts.take (k+1)).length:Int)),(28,vi .i64 ((zaw s c.proc 0).length:Int))] [(0,.box ([.d (.sl 1 (s.vars.map za3)),.d (.sl 5 (s.bounds.map za1.d)),cI s.init.kind,cPs s.init.r.t.parts]++zi s.init.r.t.k++[cB s.init.r.eq,cFs s.init.kids,.d (.sl 3 (s.procs.map za2.d)),.d (.sl 10 (s.acts.map za6.d))])),(1,.box ([cI c.proc,cI c.from_,cI c.to_,cI c.guard.kind,cPs c.guard.r.t.parts]++zi c.guard.r.t.k++[cB c.guard.r.eq,cFs c.guard.kids,.d (.sl 5 (c.moves.map zah.d))]))]) (by rw [show (0:Int)=((zaw s c.proc 0).length:Int) from rfl])
  refine zch (ι:=(Nat)) (fun (z_:(Nat))=>match z_ with | j=>j≤(s.acts.take (k+1)).length)
    (fun (z_:(Nat))=>match z_ with | j=>[(2,vp 0 0),(4,.t (.c (.d (.raw (.string ByteArray.empty))))),(5,vp 1 0),(7,vi .i64 ((zaw s c.proc j).length:Int)),(26,.t (.c (.d (.sl 10 ((s.acts.take (k+1)).map za6.d))))),(27,vi .i64 ((s.acts.take (k+1)).length:Int)),(28,vi .i64 (j:Int))])
    (fun (z_:(Nat))=>match z_ with | j=>[(0,.box ([.d (.sl 1 (s.vars.map za3)),.d (.sl 5 (s.bounds.map za1.d)),cI s.init.kind,cPs s.init.r.t.parts]++zi s.init.r.t.k++[cB s.init.r.eq,cFs s.init.kids,.d (.sl 3 (s.procs.map za2.d)),.d (.sl 10 (s.acts.map za6.d))])),(1,.box ([cI c.proc,cI c.from_,cI c.to_,cI c.guard.kind,cPs c.guard.r.t.parts]++zi c.guard.r.t.k++[cB c.guard.r.eq,cFs c.guard.kids,.d (.sl 5 (c.moves.map zah.d))]))])
    (fun (z_:(Nat))=>match z_ with | j=>(s.acts.take (k+1)).length - j) 0 ?_ h (by kernel_rfl) (by kernel_rfl) ?_
  ·exact Nat.zero_le _
  ·clear h;rintro j a w hI h
   change St _ (F.of [(2,vp 0 0),(4,.t (.c (.d (.raw (.string ByteArray.empty))))),(5,vp 1 0),(7,vi .i64 ((zaw s c.proc j).length:Int)),(26,.t (.c (.d (.sl 10 ((s.acts.take (k+1)).map za6.d))))),(27,vi .i64 ((s.acts.take (k+1)).length:Int)),(28,vi .i64 (j:Int))] [(0,.box ([.d (.sl 1 (s.vars.map za3)),.d (.sl 5 (s.bounds.map za1.d)),cI s.init.kind,cPs s.init.r.t.parts]++zi s.init.r.t.k++[cB s.init.r.eq,cFs s.init.kids,.d (.sl 3 (s.procs.map za2.d)),.d (.sl 10 (s.acts.map za6.d))])),(1,.box ([cI c.proc,cI c.from_,cI c.to_,cI c.guard.kind,cPs c.guard.r.t.parts]++zi c.guard.r.t.k++[cB c.guard.r.eq,cFs c.guard.kids,.d (.sl 5 (c.moves.map zah.d))]))]) a w at h
   have lan:=actN_le s c.proc j
   refine rq za0 2 [] [(2,vp 0 0),(4,.t (.c (.d (.raw (.string ByteArray.empty))))),(5,vp 1 0),(7,vi .i64 ((zaw s c.proc j).length:Int)),(26,.t (.c (.d (.sl 10 ((s.acts.take (k+1)).map za6.d))))),(27,vi .i64 ((s.acts.take (k+1)).length:Int)),(28,vi .i64 (j:Int)),(29,vb (decide ((j:Int)<((s.acts.take (k+1)).length:Int))))] [(0,.box ([.d (.sl 1 (s.vars.map za3)),.d (.sl 5 (s.bounds.map za1.d)),cI s.init.kind,cPs s.init.r.t.parts]++zi s.init.r.t.k++[cB s.init.r.eq,cFs s.init.kids,.d (.sl 3 (s.procs.map za2.d)),.d (.sl 10 (s.acts.map za6.d))])),(1,.box ([cI c.proc,cI c.from_,cI c.to_,cI c.guard.kind,cPs c.guard.r.t.parts]++zi c.guard.r.t.k++[cB c.guard.r.eq,cFs c.guard.kids,.d (.sl 5 (c.moves.map zah.d))]))] h ?_;clear h;intro a w h
   refine wp_seq ?_
   refine zad (decide ((j:Int)<((s.acts.take (k+1)).length:Int))) h rfl (fun hc=>?_) (fun hc=>?_)
   ·have hc1:=hc;clear hc
    have hc1':=of_decide_eq_true hc1
    refine wp_skip (za5 (wp_seq (wp_block ?_)))
    obtain ⟨x2,hx2⟩:∃ z_:za6,(s.acts.take (k+1))[j]?=some z_:=⟨_,List.getElem?_eq_getElem (by first | omega | (simp at *;omega))⟩
    refine rq za0 2 [(0,.gen _ _ _ fun _ _ _ _=>Op.idxD (d:=30) (t:=26) (k:=.i64) ki_1 (zb2 hx2 (f:=za6.d)) (OV.tmp 28 _))] [(2,vp 0 0),(4,.t (.c (.d (.raw (.string ByteArray.empty))))),(5,vp 1 0),(7,vi .i64 ((zaw s c.proc j).length:Int)),(9,vp 2 0),(26,.t (.c (.d (.sl 10 ((s.acts.take (k+1)).map za6.d))))),(27,vi .i64 ((s.acts.take (k+1)).length:Int)),(28,vi .i64 (j:Int))] [(0,.box ([.d (.sl 1 (s.vars.map za3)),.d (.sl 5 (s.bounds.map za1.d)),cI s.init.kind,cPs s.init.r.t.parts]++zi s.init.r.t.k++[cB s.init.r.eq,cFs s.init.kids,.d (.sl 3 (s.procs.map za2.d)),.d (.sl 10 (s.acts.map za6.d))])),(1,.box ([cI c.proc,cI c.from_,cI c.to_,cI c.guard.kind,cPs c.guard.r.t.parts]++zi c.guard.r.t.k++[cB c.guard.r.eq,cFs c.guard.kids,.d (.sl 5 (c.moves.map zah.d))])),(2,.box ([cI x2.proc,cI x2.from_,cI x2.to_,cI x2.guard.kind,cPs x2.guard.r.t.parts]++zi x2.guard.r.t.k++[cB x2.guard.r.eq,cFs x2.guard.kids,.d (.sl 5 (x2.moves.map zah.d))]))] h ?_;clear h;intro a w h
    refine rq za0 3 [] [(2,vp 0 0),(4,.t (.c (.d (.raw (.string ByteArray.empty))))),(5,vp 1 0),(7,vi .i64 ((zaw s c.proc j).length:Int)),(26,.t (.c (.d (.sl 10 ((s.acts.take (k+1)).map za6.d))))),(27,vi .i64 ((s.acts.take (k+1)).length:Int)),(28,vi .i64 (j:Int)),(36,vb (x2.proc == c.proc))] [(0,.box ([.d (.sl 1 (s.vars.map za3)),.d (.sl 5 (s.bounds.map za1.d)),cI s.init.kind,cPs s.init.r.t.parts]++zi s.init.r.t.k++[cB s.init.r.eq,cFs s.init.kids,.d (.sl 3 (s.procs.map za2.d)),.d (.sl 10 (s.acts.map za6.d))])),(1,.box ([cI c.proc,cI c.from_,cI c.to_,cI c.guard.kind,cPs c.guard.r.t.parts]++zi c.guard.r.t.k++[cB c.guard.r.eq,cFs c.guard.kids,.d (.sl 5 (c.moves.map zah.d))]))] h ?_;clear h;intro a w h
    refine zad (x2.proc == c.proc) h rfl (fun hc=>?_) (fun hc=>?_)
    ·have hc2:=hc;clear hc
     have hc2':=hc2;(try simp at hc2')
     refine rn za0 3 [(1,.add .i64 (m:=((zaw s c.proc j).length:Int)) (n:=1) (zam (by omega) (by omega)))] [(2,vp 0 0),(4,.t (.c (.d (.raw (.string ByteArray.empty))))),(5,vp 1 0),(7,vi .i64 (((zaw s c.proc j).length:Int)+1)),(26,.t (.c (.d (.sl 10 ((s.acts.take (k+1)).map za6.d))))),(27,vi .i64 ((s.acts.take (k+1)).length:Int)),(28,vi .i64 (j:Int))] [(0,.box ([.d (.sl 1 (s.vars.map za3)),.d (.sl 5 (s.bounds.map za1.d)),cI s.init.kind,cPs s.init.r.t.parts]++zi s.init.r.t.k++[cB s.init.r.eq,cFs s.init.kids,.d (.sl 3 (s.procs.map za2.d)),.d (.sl 10 (s.acts.map za6.d))])),(1,.box ([cI c.proc,cI c.from_,cI c.to_,cI c.guard.kind,cPs c.guard.r.t.parts]++zi c.guard.r.t.k++[cB c.guard.r.eq,cFs c.guard.kids,.d (.sl 5 (c.moves.map zah.d))]))] h ?_;clear h;intro a w h
     refine zar (za5 (rn za0 3 [(0,.add .i64 (m:=(j:Int)) (n:=1) (zam (by omega) (by omega)))] [(2,vp 0 0),(4,.t (.c (.d (.raw (.string ByteArray.empty))))),(5,vp 1 0),(7,vi .i64 (((zaw s c.proc j).length:Int)+1)),(26,.t (.c (.d (.sl 10 ((s.acts.take (k+1)).map za6.d))))),(27,vi .i64 ((s.acts.take (k+1)).length:Int)),(28,vi .i64 ((j:Int)+1))] [(0,.box ([.d (.sl 1 (s.vars.map za3)),.d (.sl 5 (s.bounds.map za1.d)),cI s.init.kind,cPs s.init.r.t.parts]++zi s.init.r.t.k++[cB s.init.r.eq,cFs s.init.kids,.d (.sl 3 (s.procs.map za2.d)),.d (.sl 10 (s.acts.map za6.d))])),(1,.box ([cI c.proc,cI c.from_,cI c.to_,cI c.guard.kind,cPs c.guard.r.t.parts]++zi c.guard.r.t.k++[cB c.guard.r.eq,cFs c.guard.kids,.d (.sl 5 (c.moves.map zah.d))]))] h ?_));clear h;intro a w h
     refine za5 ?_
     replace h:=h.conv (f':=F.of [(2,vp 0 0),(4,.t (.c (.d (.raw (.string ByteArray.empty))))),(5,vp 1 0),(7,vi .i64 ((zaw s c.proc (j+1)).length:Int)),(26,.t (.c (.d (.sl 10 ((s.acts.take (k+1)).map za6.d))))),(27,vi .i64 ((s.acts.take (k+1)).length:Int)),(28,vi .i64 ((j:Int)+1))] [(0,.box ([.d (.sl 1 (s.vars.map za3)),.d (.sl 5 (s.bounds.map za1.d)),cI s.init.kind,cPs s.init.r.t.parts]++zi s.init.r.t.k++[cB s.init.r.eq,cFs s.init.kids,.d (.sl 3 (s.procs.map za2.d)),.d (.sl 10 (s.acts.map za6.d))])),(1,.box ([cI c.proc,cI c.from_,cI c.to_,cI c.guard.kind,cPs c.guard.r.t.parts]++zi c.guard.r.t.k++[cB c.guard.r.eq,cFs c.guard.kids,.d (.sl 5 (c.moves.map zah.d))]))]) (by rw [show (((zaw s c.proc j).length:Int)+1:Int)=((zaw s c.proc (j+1)).length:Int) from (by rw [actN_yes (tk_at hx2) hc2];rfl)])
     refine zb5 (x:=j) (y:=j+1) h ?_ ?_
     ·have:=zat hx2
      show j+1≤(s.acts.take (k+1)).length
      omega
     ·show (s.acts.take (k+1)).length - (j+1)<(s.acts.take (k+1)).length - j
      have:=zat hx2;omega
    ·have hc3:=hc;clear hc
     have hc3':=hc3;(try simp at hc3')
     refine wp_skip (zar (za5 (rn za0 3 [(0,.add .i64 (m:=(j:Int)) (n:=1) (zam (by omega) (by omega)))] [(2,vp 0 0),(4,.t (.c (.d (.raw (.string ByteArray.empty))))),(5,vp 1 0),(7,vi .i64 ((zaw s c.proc j).length:Int)),(26,.t (.c (.d (.sl 10 ((s.acts.take (k+1)).map za6.d))))),(27,vi .i64 ((s.acts.take (k+1)).length:Int)),(28,vi .i64 ((j:Int)+1))] [(0,.box ([.d (.sl 1 (s.vars.map za3)),.d (.sl 5 (s.bounds.map za1.d)),cI s.init.kind,cPs s.init.r.t.parts]++zi s.init.r.t.k++[cB s.init.r.eq,cFs s.init.kids,.d (.sl 3 (s.procs.map za2.d)),.d (.sl 10 (s.acts.map za6.d))])),(1,.box ([cI c.proc,cI c.from_,cI c.to_,cI c.guard.kind,cPs c.guard.r.t.parts]++zi c.guard.r.t.k++[cB c.guard.r.eq,cFs c.guard.kids,.d (.sl 5 (c.moves.map zah.d))]))] h ?_)));clear h;intro a w h
     refine za5 ?_
     replace h:=h.conv (f':=F.of [(2,vp 0 0),(4,.t (.c (.d (.raw (.string ByteArray.empty))))),(5,vp 1 0),(7,vi .i64 ((zaw s c.proc (j+1)).length:Int)),(26,.t (.c (.d (.sl 10 ((s.acts.take (k+1)).map za6.d))))),(27,vi .i64 ((s.acts.take (k+1)).length:Int)),(28,vi .i64 ((j:Int)+1))] [(0,.box ([.d (.sl 1 (s.vars.map za3)),.d (.sl 5 (s.bounds.map za1.d)),cI s.init.kind,cPs s.init.r.t.parts]++zi s.init.r.t.k++[cB s.init.r.eq,cFs s.init.kids,.d (.sl 3 (s.procs.map za2.d)),.d (.sl 10 (s.acts.map za6.d))])),(1,.box ([cI c.proc,cI c.from_,cI c.to_,cI c.guard.kind,cPs c.guard.r.t.parts]++zi c.guard.r.t.k++[cB c.guard.r.eq,cFs c.guard.kids,.d (.sl 5 (c.moves.map zah.d))]))]) (by rw [show (((zaw s c.proc j).length:Int):Int)=((zaw s c.proc (j+1)).length:Int) from (by rw [actN_no (tk_at hx2) hc3])])
     refine zb5 (x:=j) (y:=j+1) h ?_ ?_
     ·have:=zat hx2
      show j+1≤(s.acts.take (k+1)).length
      omega
     ·show (s.acts.take (k+1)).length - (j+1)<(s.acts.take (k+1)).length - j
      have:=zat hx2;omega
   ·have hc4:=hc;clear hc
    have hc4':=of_decide_eq_false hc4
    refine wp_exit (zap (zap (zae (za5 ?_))))
    have hjk:j=k+1:=by have:=of_decide_eq_false hc4;omega
    have lit:=itA_sz s c.proc (k+1) hl
    have lan:=actN_le s c.proc (k+1)
    replace h:=h.conv (f':=F.of [(2,vp 0 0),(4,.t (.c (.d (.raw (.string ByteArray.empty))))),(5,vp 1 0),(7,vi .i64 ((zaw s c.proc (k+1)).length:Int)),(26,.t (.c (.d (.sl 10 ((s.acts.take (k+1)).map za6.d))))),(27,vi .i64 ((s.acts.take (k+1)).length:Int)),(28,vi .i64 (j:Int)),(29,vb (decide ((j:Int)<((s.acts.take (k+1)).length:Int))))] [(0,.box ([.d (.sl 1 (s.vars.map za3)),.d (.sl 5 (s.bounds.map za1.d)),cI s.init.kind,cPs s.init.r.t.parts]++zi s.init.r.t.k++[cB s.init.r.eq,cFs s.init.kids,.d (.sl 3 (s.procs.map za2.d)),.d (.sl 10 (s.acts.map za6.d))])),(1,.box ([cI c.proc,cI c.from_,cI c.to_,cI c.guard.kind,cPs c.guard.r.t.parts]++zi c.guard.r.t.k++[cB c.guard.r.eq,cFs c.guard.kids,.d (.sl 5 (c.moves.map zah.d))]))]) (by rw [show (((zaw s c.proc j).length:Int):Int)=((zaw s c.proc (k+1)).length:Int) from (by rw [hjk])])
    refine rq za0 3 [] [(2,vp 0 0),(4,.t (.c (.d (.raw (.string ByteArray.empty))))),(5,vp 1 0),(7,vi .i64 ((zaw s c.proc (k+1)).length:Int)),(10,.t (.c (.d (.raw (.string (⟨#[63]⟩:ByteArray))))))] [(0,.box ([.d (.sl 1 (s.vars.map za3)),.d (.sl 5 (s.bounds.map za1.d)),cI s.init.kind,cPs s.init.r.t.parts]++zi s.init.r.t.k++[cB s.init.r.eq,cFs s.init.kids,.d (.sl 3 (s.procs.map za2.d)),.d (.sl 10 (s.acts.map za6.d))])),(1,.box ([cI c.proc,cI c.from_,cI c.to_,cI c.guard.kind,cPs c.guard.r.t.parts]++zi c.guard.r.t.k++[cB c.guard.r.eq,cFs c.guard.kids,.d (.sl 5 (c.moves.map zah.d))]))] h ?_;clear h;intro a w h
    refine wp_seq (rq za0 3 [(4,.call (PAtPS s.procs c.proc pr hp) pb1_0)] [(4,.t (.c (.d (.raw (.string ByteArray.empty))))),(7,vi .i64 ((zaw s c.proc (k+1)).length:Int)),(10,.t (.c (.d (.raw (.string (⟨#[63]⟩:ByteArray)))))),(11,vp 3 0),(12,vb true)] [(3,.box [.d (.raw (.string pr.name)),.d (.sl 1 (pr.locs.map za3)),.d pr.cmds])] h ?_);clear h;intro a w h
    refine rq za0 4 [] [(4,.t (.c (.d (.raw (.string ByteArray.empty))))),(7,vi .i64 ((zaw s c.proc (k+1)).length:Int)),(10,.t (.c (.d (.raw (.string (⟨#[63]⟩:ByteArray)))))),(11,vp 3 0),(48,vb true)] [(3,.box [.d (.raw (.string pr.name)),.d (.sl 1 (pr.locs.map za3)),.d pr.cmds])] h ?_;clear h;intro a w h
    refine zad true h rfl (fun hc=>?_) (fun hc=>?_)
    ·clear hc
     refine rn za0 4 [] [(4,.t (.c (.d (.raw (.string ByteArray.empty))))),(7,vi .i64 ((zaw s c.proc (k+1)).length:Int)),(10,.t (.c (.d (.raw (.string pr.name)))))] [] h ?_;clear h;intro a w h
     refine za5 (rq za0 4 [(1,.gen _ _ _ fun _ _ _ _=>Op.strAdd (d:=52) (xt:=9) (yt:=9) (s1:=pr.name) (s2:=(⟨#[46]⟩:ByteArray)) (r:=(pr.name++(⟨#[46]⟩:ByteArray))) (OV.tmp 51 _) (OV.const (.string (⟨#[46]⟩:ByteArray)) rfl) (by have:(⟨#[46]⟩:ByteArray).size=1:=rfl;omega) rfl),(3,.call (SItoaA ((zaw s c.proc (k+1)).length:Int) (by omega) (by omega)) pe1_3),(4,.gen _ _ _ fun _ _ _ _=>Op.strAdd (d:=55) (xt:=9) (yt:=9) (s1:=(pr.name++(⟨#[46]⟩:ByteArray))) (s2:=(itW ((zaw s c.proc (k+1)).length:Int))) (r:=((pr.name++(⟨#[46]⟩:ByteArray))++(itW ((zaw s c.proc (k+1)).length:Int)))) (OV.tmp 52 _) (OV.tmp 54 _) (by (try simp only [ByteArray.size_append]);have:(⟨#[46]⟩:ByteArray).size=1:=rfl;omega) rfl)] [(4,.t (.c (.d (.raw (.string ((pr.name++(⟨#[46]⟩:ByteArray))++(itW ((zaw s c.proc (k+1)).length:Int))))))))] [] h ?_);clear h;intro a w h
     refine wp_ret ?_
     refine zb0 [.c (.d (.raw (.string ((pr.name++(⟨#[46]⟩:ByteArray))++(itW ((zaw s c.proc (k+1)).length:Int))))))] h Exit.ret (.inl rfl)  rfl ⟨RV.tmp _ _ rfl,trivial⟩ ?_
     rw [actW_s hk hp];rfl
    ·cases hc
theorem PAct (s:zaj) (i:Int) (hz:zcy s) (hl:s.acts.length≤1000000):Fn Tryd.prog 33 [] [.t (.agg ([.d (.sl 1 (s.vars.map za3)),.d (.sl 5 (s.bounds.map za1.d)),cI s.init.kind,cPs s.init.r.t.parts]++zi s.init.r.t.k++[cB s.init.r.eq,cFs s.init.kids,.d (.sl 3 (s.procs.map za2.d)),.d (.sl 10 (s.acts.map za6.d))])),vi .i64 i] (vs (zdd s i)) []:=by
 cases hi:atI s.acts i with
 | none=>exact PActN s i hz hl hi
 | some c =>
  obtain ⟨k,rfl,hk⟩:=zcm hi
  cases hp:atI s.procs c.proc with
  | none=>exact PActQ s k c hz hl hk hp
  | some pr=>exact PActS s k c pr hz hl hk hp
theorem ph1_1:zaa Tryd.prog 41:=zaa.mk' (by kernel_rfl)
theorem zcc:ElZ Tryd.prog 22 9 1:=ElZ.mk' Tryd.underlying22 _ _ rfl rfl (by kernel_rfl) (by kernel_rfl) (by kernel_rfl) (by decide)
theorem ph1_3:ElT Tryd.prog 22 9 1 16:=ElT.mk' Tryd.underlying22 _ _ rfl rfl (by kernel_rfl) (by kernel_rfl) (by kernel_rfl) (by decide) (by decide)
theorem ph1_6:zaa Tryd.prog 43:=zaa.mk' (by kernel_rfl)
theorem ph1_7:zaa Tryd.prog 44:=zaa.mk' (by kernel_rfl)
def vaW (s:zaj) (i:Nat) (v:ZI):ByteArray:=((match s.vars[i]? with | none=>⟨#[63]⟩ | some t=>t)++⟨#[61]⟩)++itW v.val
def plN (s:zaj) (x:StD) (j:Nat):List ByteArray:=(List.range j).map fun (i:Nat)=>plW s (i:Int) ((x.locs[i]?).getD 0)
def vaN (s:zaj) (x:StD) (j:Nat):List ByteArray:=(List.range j).map fun i=>vaW s i ((x.vals[i]?).getD zero0)
def stW (s:zaj) (x:StD):ByteArray:=joinB (plN s x x.locs.length++vaN s x x.vals.length) ⟨#[32]⟩
theorem plN_len (s:zaj) (x:StD) (j:Nat):(plN s x j).length=j:=by simp [plN]
theorem vaN_len (s:zaj) (x:StD) (j:Nat):(vaN s x j).length=j:=by simp [vaN]
theorem plN_snoc {s:zaj} {x:StD} {j:Nat} {l:Int} (h:x.locs[j]?=some l):plN s x j++[plW s (j:Int) l]=plN s x (j+1):=by unfold plN;rw [List.range_succ,List.map_append];simp [h]
theorem vaN_snoc {s:zaj} {x:StD} {j:Nat} {v:ZI} (h:x.vals[j]?=some v):vaN s x j++[vaW s j v]=vaN s x (j+1):=by unfold vaN;rw [List.range_succ,List.map_append];simp [h]
theorem pv_snoc {s:zaj} {x:StD} {j:Nat} {v:ZI} (h:x.vals[j]?=some v) {t:ByteArray} (ht:t=vaW s j v):(plN s x x.locs.length++vaN s x j)++[t]=plN s x x.locs.length++vaN s x (j+1):=by rw [← vaN_snoc h,ht,List.append_assoc]
theorem vaW_n {s:zaj} {j:Nat} {v:ZI} (h:s.vars[j]?=none):((⟨#[63]⟩:ByteArray)++(⟨#[61]⟩:ByteArray))++itW v.val=vaW s j v:=by unfold vaW;rw [h]
theorem vaW_s {s:zaj} {j:Nat} {v:ZI} {t:ByteArray} (h:s.vars[j]?=some t):(t++(⟨#[61]⟩:ByteArray))++itW v.val=vaW s j v:=by unfold vaW;rw [h]
theorem itZ_sz {z:ZI} (h:Lb z.abs) (hl:z.abs.length≤4):(itW z.val).size≤40:=by
 have h1:=ZI.abs_lt h
 have h2:pw z.abs.length≤pw 4:=by unfold pw;exact Nat.pow_le_pow_right (by decide) hl
 exact itW_sz (k:=39) (Nat.lt_of_lt_of_le h1 (Nat.le_trans h2 (by unfold pw;decide))) (by decide)
theorem baL (a:ByteArray):a.size=a.data.toList.length:=Lib.size_eq a
theorem joinB_sz {M:Nat} {sep:ByteArray}:∀ {xs:List ByteArray}, (∀ t ∈ xs,t.size≤M)→(joinB xs sep).size≤xs.length*(M+sep.size):=by
 intro xs h
 have h0:(joinB xs sep).size=(Lib.join (xs.map (·.data.toList)) sep.data.toList).length:=by unfold joinB;simp [ByteArray.size]
 rw [h0]
 cases xs with
 | nil=>simp [Lib.join_nil]
 | cons x r =>
  rw [List.map_cons,Lib.join_cons,List.length_append,Lib.joinTail_length,List.length_map]
  have hx:x.data.toList.length≤M:=by rw [← baL];exact h x (by simp)
  have hr:∀ (r:List ByteArray),(∀ t ∈ r,t.size≤M)→Lib.lens (r.map (·.data.toList))≤r.length*M:=by
   intro r
   induction r with
   | nil=>intro _;simp [Lib.lens]
   | cons y r ih =>
    intro h
    have h1:=ih fun t ht=>h t (by simp [ht])
    have h2:y.data.toList.length≤M:=by rw [← baL];exact h y (by simp)
    simp only [Lib.lens,List.map_cons,List.sum_cons,List.length_cons,Nat.add_mul,Nat.one_mul] at h1 ⊢
    omega
  have h3:=hr r fun t ht=>h t (by simp [ht])
  rw [List.length_cons,Nat.add_mul,Nat.mul_add,Nat.one_mul,← baL sep,Nat.mul_comm sep.size]
  omega
theorem plW_sz {s:zaj} (hz:zcy s) (p l:Int):0<(plW s p l).size∧(plW s p l).size≤2097153:=by
 have e1:(⟨#[64]⟩:ByteArray).size=1:=rfl
 have e2:(⟨#[63]⟩:ByteArray).size=1:=rfl
 have e3:(⟨#[63,64,63]⟩:ByteArray).size=3:=rfl
 unfold plW
 cases hp:atI s.procs p with
 | none=>simp only;omega
 | some pr =>
  have h1:=hz.name pr (zb4 hp)
  simp only
  cases hl:atI pr.locs l with
  | none=>simp only [ByteArray.size_append];omega
  | some t=>have h2:=hz.locs pr (zb4 hp) t (zb4 hl);simp only [ByteArray.size_append];omega
theorem vaW_sz {s:zaj} (hz:zcy s) {j:Nat} {v:ZI} (hv:(itW v.val).size≤40):(vaW s j v).size≤2097153:=by
 have e1:(⟨#[61]⟩:ByteArray).size=1:=rfl
 have e2:(⟨#[63]⟩:ByteArray).size=1:=rfl
 unfold vaW
 cases hp:s.vars[j]? with
 | none=>simp only [ByteArray.size_append];omega
 | some t=>have h2:=hz.vars t (List.mem_of_getElem? hp);simp only [ByteArray.size_append];omega
theorem pl_all {s:zaj} (hz:zcy s) {x:StD} {j:Nat}:∀ t ∈ plN s x j,0<t.size∧t.size≤2097153:=fun t ht=>by
 obtain ⟨i,_,rfl⟩:=List.mem_map.1 ht;exact plW_sz hz _ _
theorem va_all {s:zaj} (hz:zcy s) {x:StD} (hx:StOk 4 x) {j:Nat}:∀ t ∈ vaN s x j,t.size≤2097153:=fun t ht=>by
 obtain ⟨i,_,rfl⟩:=List.mem_map.1 ht
 refine vaW_sz hz ?_
 cases hv:x.vals[i]? with
 | none=>exact itZ_sz Lb_nil (Nat.zero_le _)
 | some z=>have:=hx.val z (List.mem_of_getElem? hv);exact itZ_sz this.1 this.2
theorem pvN_sz {s:zaj} (hz:zcy s) {x:StD} (hx:StOk 4 x) {i j:Nat} (hi:i≤x.locs.length) (hj:j≤x.vals.length):(joinB (plN s x i++vaN s x j) ⟨#[32]⟩).size≤41943080:=by
 have h1:=joinB_sz (M:=2097153) (sep:=⟨#[32]⟩) (xs:=plN s x i++vaN s x j) (fun t ht=>by
  rcases List.mem_append.1 ht with h | h
  ·exact (pl_all hz t h).2
  ·exact va_all hz hx t h)
 rw [List.length_append,plN_len,vaN_len] at h1
 have e1:(⟨#[32]⟩:ByteArray).size=1:=rfl
 rw [e1] at h1
 have l1:=hx.locs;have l2:=hx.vals
 have h2:(i+j)*(2097153+1)≤20*(2097153+1):=Nat.mul_le_mul_right _ (by omega)
 omega
theorem stW_sz {s:zaj} (hz:zcy s) {x:StD} (hx:StOk 4 x):(stW s x).size≤41943080:=pvN_sz hz hx (Nat.le_refl _) (Nat.le_refl _)
set_option maxHeartbeats 4000000 in
theorem PState (s:zaj) (x:StD) (hz:zcy s) (hx:StOk 4 x):Fn Tryd.prog 32 [] [.t (.agg [.d (.sl 1 (s.vars.map za3)),.d (.sl 5 (s.bounds.map za1.d)),cI s.init.kind,cPs s.init.r.t.parts,cB s.init.r.t.k.neg,.d (nsl s.init.r.t.k.abs),cB s.init.r.eq,cFs s.init.kids,.d (.sl 3 (s.procs.map za2.d)),.d (.sl 10 (s.acts.map za6.d))]),.t (.agg [cIs x.locs,cZs x.vals])] (vs (stW s x)) []:=by
 have lx1:=hx.locs
 have lx2:=hx.vals
 refine Fn.body Tryd.func32 rfl 56 rfl fun w H B a h=>?_
 refine rq za0 5 [] [(2,vp 5 0),(3,vp 6 0),(4,.t (.c (.d (.raw (.string ByteArray.empty)))))] [(5,.box [.d (.sl 1 (s.vars.map za3)),.d (.sl 5 (s.bounds.map za1.d)),cI s.init.kind,cPs s.init.r.t.parts,cB s.init.r.t.k.neg,.d (nsl s.init.r.t.k.abs),cB s.init.r.eq,cFs s.init.kids,.d (.sl 3 (s.procs.map za2.d)),.d (.sl 10 (s.acts.map za6.d))]),(6,.box [cIs x.locs,cZs x.vals])] h ?_;clear h;intro a w h
 refine rq za0 7 [] [(2,vp 5 0),(3,vp 6 0),(4,.t (.c (.d (.raw (.string ByteArray.empty))))),(5,.t (.c (.d (.raw za4))))] [(5,.box [.d (.sl 1 (s.vars.map za3)),.d (.sl 5 (s.bounds.map za1.d)),cI s.init.kind,cPs s.init.r.t.parts,cB s.init.r.t.k.neg,.d (nsl s.init.r.t.k.abs),cB s.init.r.eq,cFs s.init.kids,.d (.sl 3 (s.procs.map za2.d)),.d (.sl 10 (s.acts.map za6.d))]),(6,.box [cIs x.locs,cZs x.vals])] h ?_;clear h;intro a w h
 refine wp_seq (rq za0 7 [(2,.len (c:=(cIs x.locs)) (n:=x.locs.length) (za8 _ _ _))] [(2,vp 5 0),(3,vp 6 0),(4,.t (.c (.d (.raw (.string ByteArray.empty))))),(5,.t (.c (.d (.raw za4)))),(13,(vIs x.locs)),(14,vi .i64 (x.locs.length:Int)),(15,vi .i64 0)] [(5,.box [.d (.sl 1 (s.vars.map za3)),.d (.sl 5 (s.bounds.map za1.d)),cI s.init.kind,cPs s.init.r.t.parts,cB s.init.r.t.k.neg,.d (nsl s.init.r.t.k.abs),cB s.init.r.eq,cFs s.init.kids,.d (.sl 3 (s.procs.map za2.d)),.d (.sl 10 (s.acts.map za6.d))]),(6,.box [cIs x.locs,cZs x.vals])] h ?_);clear h;intro a w h
 refine wp_block ?_
 replace h:=nilOSs 5 0 7 1 9 (.t (.c (.d (.raw za4)))) [(2,vp 5 0),(3,vp 6 0),(4,.t (.c (.d (.raw (.string ByteArray.empty))))),(5,.t (.c (.own 7 0))),(13,(vIs x.locs)),(14,vi .i64 (x.locs.length:Int)),(15,vi .i64 0)] [(5,.box [.d (.sl 1 (s.vars.map za3)),.d (.sl 5 (s.bounds.map za1.d)),cI s.init.kind,cPs s.init.r.t.parts,cB s.init.r.t.k.neg,.d (nsl s.init.r.t.k.abs),cB s.init.r.eq,cFs s.init.kids,.d (.sl 3 (s.procs.map za2.d)),.d (.sl 10 (s.acts.map za6.d))]),(6,.box [cIs x.locs,cZs x.vals]),(7,.row 9 1 ([].map za3))] h (by kernel_rfl) rfl rfl
 replace h:=h.conv (f':=F.of [(2,vp 5 0),(3,vp 6 0),(4,.t (.c (.d (.raw (.string ByteArray.empty))))),(5,.t (.c (.own 7 0))),(13,(vIs x.locs)),(14,vi .i64 (x.locs.length:Int)),(15,vi .i64 0)] [(5,.box [.d (.sl 1 (s.vars.map za3)),.d (.sl 5 (s.bounds.map za1.d)),cI s.init.kind,cPs s.init.r.t.parts,cB s.init.r.t.k.neg,.d (nsl s.init.r.t.k.abs),cB s.init.r.eq,cFs s.init.kids,.d (.sl 3 (s.procs.map za2.d)),.d (.sl 10 (s.acts.map za6.d))]),(6,.box [cIs x.locs,cZs x.vals]),(7,.row 9 1 ((plN s x 0).map za3))]) (congrArg (fun (z_:List ByteArray)=>F.of [(2,vp 5 0),(3,vp 6 0),(4,.t (.c (.d (.raw (.string ByteArray.empty))))),(5,.t (.c (.own 7 0))),(13,(vIs x.locs)),(14,vi .i64 (x.locs.length:Int)),(15,vi .i64 0)] [(5,.box [.d (.sl 1 (s.vars.map za3)),.d (.sl 5 (s.bounds.map za1.d)),cI s.init.kind,cPs s.init.r.t.parts,cB s.init.r.t.k.neg,.d (nsl s.init.r.t.k.abs),cB s.init.r.eq,cFs s.init.kids,.d (.sl 3 (s.procs.map za2.d)),.d (.sl 10 (s.acts.map za6.d))]),(6,.box [cIs x.locs,cZs x.vals]),(7,.row 9 1 (z_.map za3))]) (show ([]:List ByteArray)=(plN s x 0) from rfl))
 refine zch (ι:=(Nat)) (fun (z_:(Nat))=>match z_ with | j=>j≤x.locs.length)
   (fun (z_:(Nat))=>match z_ with | j=>[(2,vp 5 0),(3,vp 6 0),(4,.t (.c (.d (.raw (.string ByteArray.empty))))),(5,.t (.c (.own 7 (plN s x j).length))),(13,(vIs x.locs)),(14,vi .i64 (x.locs.length:Int)),(15,vi .i64 (j:Int))])
   (fun (z_:(Nat))=>match z_ with | j=>[(5,.box [.d (.sl 1 (s.vars.map za3)),.d (.sl 5 (s.bounds.map za1.d)),cI s.init.kind,cPs s.init.r.t.parts,cB s.init.r.t.k.neg,.d (nsl s.init.r.t.k.abs),cB s.init.r.eq,cFs s.init.kids,.d (.sl 3 (s.procs.map za2.d)),.d (.sl 10 (s.acts.map za6.d))]),(6,.box [cIs x.locs,cZs x.vals]),(7,.row 9 1 ((plN s x j).map za3))])
   (fun (z_:(Nat))=>match z_ with | j=>x.locs.length - j) 0 ?_ h (by kernel_rfl) (by kernel_rfl) ?_
 ·exact Nat.zero_le _
 ·clear h;rintro j a w hI h
  change St _ (F.of [(2,vp 5 0),(3,vp 6 0),(4,.t (.c (.d (.raw (.string ByteArray.empty))))),(5,.t (.c (.own 7 (plN s x j).length))),(13,(vIs x.locs)),(14,vi .i64 (x.locs.length:Int)),(15,vi .i64 (j:Int))] [(5,.box [.d (.sl 1 (s.vars.map za3)),.d (.sl 5 (s.bounds.map za1.d)),cI s.init.kind,cPs s.init.r.t.parts,cB s.init.r.t.k.neg,.d (nsl s.init.r.t.k.abs),cB s.init.r.eq,cFs s.init.kids,.d (.sl 3 (s.procs.map za2.d)),.d (.sl 10 (s.acts.map za6.d))]),(6,.box [cIs x.locs,cZs x.vals]),(7,.row 9 1 ((plN s x j).map za3))]) a w at h
  have lmj:=plN_len s x j
  refine rq za0 8 [] [(2,vp 5 0),(3,vp 6 0),(4,.t (.c (.d (.raw (.string ByteArray.empty))))),(5,.t (.c (.own 7 (plN s x j).length))),(13,(vIs x.locs)),(14,vi .i64 (x.locs.length:Int)),(15,vi .i64 (j:Int)),(16,vb (decide ((j:Int)<(x.locs.length:Int))))] [(5,.box [.d (.sl 1 (s.vars.map za3)),.d (.sl 5 (s.bounds.map za1.d)),cI s.init.kind,cPs s.init.r.t.parts,cB s.init.r.t.k.neg,.d (nsl s.init.r.t.k.abs),cB s.init.r.eq,cFs s.init.kids,.d (.sl 3 (s.procs.map za2.d)),.d (.sl 10 (s.acts.map za6.d))]),(6,.box [cIs x.locs,cZs x.vals]),(7,.row 9 1 ((plN s x j).map za3))] h ?_;clear h;intro a w h
  refine wp_seq ?_
  refine zad (decide ((j:Int)<(x.locs.length:Int))) h rfl (fun hc=>?_) (fun hc=>?_)
  ·have hc1:=hc;clear hc
   have hc1':=of_decide_eq_true hc1
   refine wp_skip (za5 (wp_seq (wp_block ?_)))
   obtain ⟨x1,hx1⟩:∃ z_:Int,x.locs[j]?=some z_:=⟨_,List.getElem?_eq_getElem (by first | omega | (simp at *;omega))⟩
   refine rq za0 8 [(1,.gen _ _ _ fun _ _ _ _=>Op.idxD (d:=18) (t:=13) (k:=.i64) tb_1 (zb2 hx1 (f:=intD)) (OV.tmp 15 _))] [(2,vp 5 0),(3,vp 6 0),(4,.t (.c (.d (.raw (.string ByteArray.empty))))),(5,.t (.c (.own 7 (plN s x j).length))),(6,vi .i64 (j:Int)),(7,vi .i64 x1),(13,(vIs x.locs)),(14,vi .i64 (x.locs.length:Int)),(15,vi .i64 (j:Int))] [(5,.box [.d (.sl 1 (s.vars.map za3)),.d (.sl 5 (s.bounds.map za1.d)),cI s.init.kind,cPs s.init.r.t.parts,cB s.init.r.t.k.neg,.d (nsl s.init.r.t.k.abs),cB s.init.r.eq,cFs s.init.kids,.d (.sl 3 (s.procs.map za2.d)),.d (.sl 10 (s.acts.map za6.d))]),(6,.box [cIs x.locs,cZs x.vals]),(7,.row 9 1 ((plN s x j).map za3))] h ?_;clear h;intro a w h
   refine rn za0 8 [(4,.call (PPlace s (j:Int) x1 hz) ph1_1),(5,.gen _ _ _ fun _ _ _ _=>Op.buildD (d:=25) (len:=1) (rows:=[(plW s (j:Int) x1)].map za3) (rs:=[(24,.t (.c (.d (.raw (.string (plW s (j:Int) x1))))))]) zcc (.cons (i:=0) (OV.tmp 24 _) (.nil)) (by kernel_rfl) rfl (by simp [za3]) (by decide) (by decide)),(6,.gen _ _ _ fun _ _ _ _=>Op.appOD (d:=26) (t:=20) (u:=25) (n:=7) (n':=8) (len:=(plN s x j).length) (len':=((plN s x j)++[(plW s (j:Int) x1)]).length) (rows:=(plN s x j).map za3) (rows2:=[(plW s (j:Int) x1)].map za3) (rows':=((plN s x j)++[(plW s (j:Int) x1)]).map za3) ph1_3 (by first | exact (List.length_map _).symm | simp) (by first | (rw [List.length_append,List.length_map];done) | simp) (by simp) (by simp [za3]) (by first | omega | (simp at *;done) | (simp at *;omega)))] [(2,vp 5 0),(3,vp 6 0),(4,.t (.c (.d (.raw (.string ByteArray.empty))))),(5,.t (.c (.own 8 ((plN s x j)++[(plW s (j:Int) x1)]).length))),(13,(vIs x.locs)),(14,vi .i64 (x.locs.length:Int)),(15,vi .i64 (j:Int))] [(5,.box [.d (.sl 1 (s.vars.map za3)),.d (.sl 5 (s.bounds.map za1.d)),cI s.init.kind,cPs s.init.r.t.parts,cB s.init.r.t.k.neg,.d (nsl s.init.r.t.k.abs),cB s.init.r.eq,cFs s.init.kids,.d (.sl 3 (s.procs.map za2.d)),.d (.sl 10 (s.acts.map za6.d))]),(6,.box [cIs x.locs,cZs x.vals]),(8,.row 9 1 (((plN s x j)++[(plW s (j:Int) x1)]).map za3))] h ?_;clear h;intro a w h
   refine zar (za5 (rn za0 9 [(0,.add .i64 (m:=(j:Int)) (n:=1) (zam (by omega) (by omega)))] [(2,vp 5 0),(3,vp 6 0),(4,.t (.c (.d (.raw (.string ByteArray.empty))))),(5,.t (.c (.own 8 ((plN s x j)++[(plW s (j:Int) x1)]).length))),(13,(vIs x.locs)),(14,vi .i64 (x.locs.length:Int)),(15,vi .i64 ((j:Int)+1))] [(5,.box [.d (.sl 1 (s.vars.map za3)),.d (.sl 5 (s.bounds.map za1.d)),cI s.init.kind,cPs s.init.r.t.parts,cB s.init.r.t.k.neg,.d (nsl s.init.r.t.k.abs),cB s.init.r.eq,cFs s.init.kids,.d (.sl 3 (s.procs.map za2.d)),.d (.sl 10 (s.acts.map za6.d))]),(6,.box [cIs x.locs,cZs x.vals]),(8,.row 9 1 (((plN s x j)++[(plW s (j:Int) x1)]).map za3))] h ?_));clear h;intro a w h
   refine za5 ?_
   replace h:=h.conv (f':=F.of [(2,vp 5 0),(3,vp 6 0),(4,.t (.c (.d (.raw (.string ByteArray.empty))))),(5,.t (.c (.own 8 (plN s x (j+1)).length))),(13,(vIs x.locs)),(14,vi .i64 (x.locs.length:Int)),(15,vi .i64 ((j:Int)+1))] [(5,.box [.d (.sl 1 (s.vars.map za3)),.d (.sl 5 (s.bounds.map za1.d)),cI s.init.kind,cPs s.init.r.t.parts,cB s.init.r.t.k.neg,.d (nsl s.init.r.t.k.abs),cB s.init.r.eq,cFs s.init.kids,.d (.sl 3 (s.procs.map za2.d)),.d (.sl 10 (s.acts.map za6.d))]),(6,.box [cIs x.locs,cZs x.vals]),(8,.row 9 1 ((plN s x (j+1)).map za3))]) (congrArg (fun (z_:List ByteArray)=>F.of [(2,vp 5 0),(3,vp 6 0),(4,.t (.c (.d (.raw (.string ByteArray.empty))))),(5,.t (.c (.own 8 z_.length))),(13,(vIs x.locs)),(14,vi .i64 (x.locs.length:Int)),(15,vi .i64 ((j:Int)+1))] [(5,.box [.d (.sl 1 (s.vars.map za3)),.d (.sl 5 (s.bounds.map za1.d)),cI s.init.kind,cPs s.init.r.t.parts,cB s.init.r.t.k.neg,.d (nsl s.init.r.t.k.abs),cB s.init.r.eq,cFs s.init.kids,.d (.sl 3 (s.procs.map za2.d)),.d (.sl 10 (s.acts.map za6.d))]),(6,.box [cIs x.locs,cZs x.vals]),(8,.row 9 1 (z_.map za3))]) (show (((plN s x j)++[(plW s (j:Int) x1)]):List ByteArray)=(plN s x (j+1)) from (plN_snoc hx1)))
   replace h:=renS 8 7 [(2,vp 5 0),(3,vp 6 0),(4,.t (.c (.d (.raw (.string ByteArray.empty))))),(5,.t (.c (.own 7 (plN s x (j+1)).length))),(13,(vIs x.locs)),(14,vi .i64 (x.locs.length:Int)),(15,vi .i64 ((j:Int)+1))] [(5,.box [.d (.sl 1 (s.vars.map za3)),.d (.sl 5 (s.bounds.map za1.d)),cI s.init.kind,cPs s.init.r.t.parts,cB s.init.r.t.k.neg,.d (nsl s.init.r.t.k.abs),cB s.init.r.eq,cFs s.init.kids,.d (.sl 3 (s.procs.map za2.d)),.d (.sl 10 (s.acts.map za6.d))]),(6,.box [cIs x.locs,cZs x.vals]),(7,.row 9 1 ((plN s x (j+1)).map za3))] h
   refine zb5 (x:=j) (y:=j+1) h ?_ ?_
   ·have:=zat hx1
    show j+1≤x.locs.length
    omega
   ·show x.locs.length - (j+1)<x.locs.length - j
    have:=zat hx1;omega
  ·have hc2:=hc;clear hc
   have hc2':=of_decide_eq_false hc2
   refine wp_exit (zap (zap (zae (za5 (wp_seq (rq za0 9 [(2,.len (c:=(cZs x.vals)) (n:=x.vals.length) (za8 _ _ _))] [(2,vp 5 0),(4,.t (.c (.d (.raw (.string ByteArray.empty))))),(5,.t (.c (.own 7 (plN s x j).length))),(29,(vZs x.vals)),(30,vi .i64 (x.vals.length:Int)),(31,vi .i64 0)] [(5,.box [.d (.sl 1 (s.vars.map za3)),.d (.sl 5 (s.bounds.map za1.d)),cI s.init.kind,cPs s.init.r.t.parts,cB s.init.r.t.k.neg,.d (nsl s.init.r.t.k.abs),cB s.init.r.eq,cFs s.init.kids,.d (.sl 3 (s.procs.map za2.d)),.d (.sl 10 (s.acts.map za6.d))]),(7,.row 9 1 ((plN s x j).map za3))] h ?_))))));clear h;intro a w h
   refine wp_block ?_
   replace h:=h.conv (f':=F.of [(2,vp 5 0),(4,.t (.c (.d (.raw (.string ByteArray.empty))))),(5,.t (.c (.own 7 (plN s x x.locs.length++vaN s x 0).length))),(29,(vZs x.vals)),(30,vi .i64 (x.vals.length:Int)),(31,vi .i64 0)] [(5,.box [.d (.sl 1 (s.vars.map za3)),.d (.sl 5 (s.bounds.map za1.d)),cI s.init.kind,cPs s.init.r.t.parts,cB s.init.r.t.k.neg,.d (nsl s.init.r.t.k.abs),cB s.init.r.eq,cFs s.init.kids,.d (.sl 3 (s.procs.map za2.d)),.d (.sl 10 (s.acts.map za6.d))]),(7,.row 9 1 ((plN s x x.locs.length++vaN s x 0).map za3))]) (congrArg (fun (z_:List ByteArray)=>F.of [(2,vp 5 0),(4,.t (.c (.d (.raw (.string ByteArray.empty))))),(5,.t (.c (.own 7 z_.length))),(29,(vZs x.vals)),(30,vi .i64 (x.vals.length:Int)),(31,vi .i64 0)] [(5,.box [.d (.sl 1 (s.vars.map za3)),.d (.sl 5 (s.bounds.map za1.d)),cI s.init.kind,cPs s.init.r.t.parts,cB s.init.r.t.k.neg,.d (nsl s.init.r.t.k.abs),cB s.init.r.eq,cFs s.init.kids,.d (.sl 3 (s.procs.map za2.d)),.d (.sl 10 (s.acts.map za6.d))]),(7,.row 9 1 (z_.map za3))]) (show ((plN s x j):List ByteArray)=(plN s x x.locs.length++vaN s x 0) from (by rw [show j=x.locs.length by have:=of_decide_eq_false hc2;omega];simp [vaN])))
   refine zch (ι:=(Nat)) (fun (z_:(Nat))=>match z_ with | k=>k≤x.vals.length)
     (fun (z_:(Nat))=>match z_ with | k=>[(2,vp 5 0),(4,.t (.c (.d (.raw (.string ByteArray.empty))))),(5,.t (.c (.own 7 (plN s x x.locs.length++vaN s x k).length))),(29,(vZs x.vals)),(30,vi .i64 (x.vals.length:Int)),(31,vi .i64 (k:Int))])
     (fun (z_:(Nat))=>match z_ with | k=>[(5,.box [.d (.sl 1 (s.vars.map za3)),.d (.sl 5 (s.bounds.map za1.d)),cI s.init.kind,cPs s.init.r.t.parts,cB s.init.r.t.k.neg,.d (nsl s.init.r.t.k.abs),cB s.init.r.eq,cFs s.init.kids,.d (.sl 3 (s.procs.map za2.d)),.d (.sl 10 (s.acts.map za6.d))]),(7,.row 9 1 ((plN s x x.locs.length++vaN s x k).map za3))])
     (fun (z_:(Nat))=>match z_ with | k=>x.vals.length - k) 0 ?_ h (by kernel_rfl) (by kernel_rfl) ?_
   ·exact Nat.zero_le _
   ·clear h;rintro k a w hI h
    change St _ (F.of [(2,vp 5 0),(4,.t (.c (.d (.raw (.string ByteArray.empty))))),(5,.t (.c (.own 7 (plN s x x.locs.length++vaN s x k).length))),(29,(vZs x.vals)),(30,vi .i64 (x.vals.length:Int)),(31,vi .i64 (k:Int))] [(5,.box [.d (.sl 1 (s.vars.map za3)),.d (.sl 5 (s.bounds.map za1.d)),cI s.init.kind,cPs s.init.r.t.parts,cB s.init.r.t.k.neg,.d (nsl s.init.r.t.k.abs),cB s.init.r.eq,cFs s.init.kids,.d (.sl 3 (s.procs.map za2.d)),.d (.sl 10 (s.acts.map za6.d))]),(7,.row 9 1 ((plN s x x.locs.length++vaN s x k).map za3))]) a w at h
    have lmk:(plN s x x.locs.length++vaN s x k).length≤x.locs.length+k:=by rw [List.length_append,plN_len,vaN_len];omega
    refine rq za0 9 [] [(2,vp 5 0),(4,.t (.c (.d (.raw (.string ByteArray.empty))))),(5,.t (.c (.own 7 (plN s x x.locs.length++vaN s x k).length))),(29,(vZs x.vals)),(30,vi .i64 (x.vals.length:Int)),(31,vi .i64 (k:Int)),(32,vb (decide ((k:Int)<(x.vals.length:Int))))] [(5,.box [.d (.sl 1 (s.vars.map za3)),.d (.sl 5 (s.bounds.map za1.d)),cI s.init.kind,cPs s.init.r.t.parts,cB s.init.r.t.k.neg,.d (nsl s.init.r.t.k.abs),cB s.init.r.eq,cFs s.init.kids,.d (.sl 3 (s.procs.map za2.d)),.d (.sl 10 (s.acts.map za6.d))]),(7,.row 9 1 ((plN s x x.locs.length++vaN s x k).map za3))] h ?_;clear h;intro a w h
    refine wp_seq ?_
    refine zad (decide ((k:Int)<(x.vals.length:Int))) h rfl (fun hc=>?_) (fun hc=>?_)
    ·have hc3:=hc;clear hc
     have hc3':=of_decide_eq_true hc3
     refine wp_skip (za5 (wp_seq (wp_block ?_)))
     obtain ⟨x3,hx3⟩:∃ z_:ZI,x.vals[k]?=some z_:=⟨_,List.getElem?_eq_getElem (by first | omega | (simp at *;omega))⟩
     have gx3:=hx.val x3 (List.mem_of_getElem? hx3)
     have lix3:=itZ_sz gx3.1 gx3.2
     refine rq za0 9 [(1,.gen _ _ _ fun _ _ _ _=>Op.idxD (d:=34) (t:=29) (k:=.i64) tt_6 (zb2 hx3 (f:=ziD)) (OV.tmp 31 _))] [(2,vp 5 0),(4,.t (.c (.d (.raw (.string ByteArray.empty))))),(5,.t (.c (.own 7 (plN s x x.locs.length++vaN s x k).length))),(8,vi .i64 (k:Int)),(9,vp 9 0),(29,(vZs x.vals)),(30,vi .i64 (x.vals.length:Int)),(31,vi .i64 (k:Int))] [(5,.box [.d (.sl 1 (s.vars.map za3)),.d (.sl 5 (s.bounds.map za1.d)),cI s.init.kind,cPs s.init.r.t.parts,cB s.init.r.t.k.neg,.d (nsl s.init.r.t.k.abs),cB s.init.r.eq,cFs s.init.kids,.d (.sl 3 (s.procs.map za2.d)),.d (.sl 10 (s.acts.map za6.d))]),(7,.row 9 1 ((plN s x x.locs.length++vaN s x k).map za3)),(9,.box (zi x3))] h ?_;clear h;intro a w h
     rcases hv:s.vars[k]? with _ | nm
     ·have hat:=(zcx (xs:=s.vars)).trans hv
      refine rq za0 10 [(3,.call (PAtTN s.vars (k:Int) hat) pb1_1)] [(2,vp 5 0),(4,.t (.c (.d (.raw (.string ByteArray.empty))))),(5,.t (.c (.own 7 (plN s x x.locs.length++vaN s x k).length))),(9,vp 9 0),(10,.t (.c (.d (.raw (.string (⟨#[]⟩:ByteArray)))))),(11,vb false),(29,(vZs x.vals)),(30,vi .i64 (x.vals.length:Int)),(31,vi .i64 (k:Int))] [(5,.box [.d (.sl 1 (s.vars.map za3)),.d (.sl 5 (s.bounds.map za1.d)),cI s.init.kind,cPs s.init.r.t.parts,cB s.init.r.t.k.neg,.d (nsl s.init.r.t.k.abs),cB s.init.r.eq,cFs s.init.kids,.d (.sl 3 (s.procs.map za2.d)),.d (.sl 10 (s.acts.map za6.d))]),(7,.row 9 1 ((plN s x x.locs.length++vaN s x k).map za3)),(9,.box (zi x3))] h ?_;clear h;intro a w h
      refine wp_seq (rq za0 10 [] [(2,vp 5 0),(4,.t (.c (.d (.raw (.string ByteArray.empty))))),(5,.t (.c (.own 7 (plN s x x.locs.length++vaN s x k).length))),(9,vp 9 0),(10,.t (.c (.d (.raw (.string (⟨#[]⟩:ByteArray)))))),(29,(vZs x.vals)),(30,vi .i64 (x.vals.length:Int)),(31,vi .i64 (k:Int)),(44,vb true)] [(5,.box [.d (.sl 1 (s.vars.map za3)),.d (.sl 5 (s.bounds.map za1.d)),cI s.init.kind,cPs s.init.r.t.parts,cB s.init.r.t.k.neg,.d (nsl s.init.r.t.k.abs),cB s.init.r.eq,cFs s.init.kids,.d (.sl 3 (s.procs.map za2.d)),.d (.sl 10 (s.acts.map za6.d))]),(7,.row 9 1 ((plN s x x.locs.length++vaN s x k).map za3)),(9,.box (zi x3))] h ?_);clear h;intro a w h
      refine zad true h rfl (fun hc=>?_) (fun hc=>?_)
      ·clear hc
       refine rn za0 10 [] [(2,vp 5 0),(4,.t (.c (.d (.raw (.string ByteArray.empty))))),(5,.t (.c (.own 7 (plN s x x.locs.length++vaN s x k).length))),(9,vp 9 0),(10,.t (.c (.d (.raw (.string (⟨#[63]⟩:ByteArray)))))),(29,(vZs x.vals)),(30,vi .i64 (x.vals.length:Int)),(31,vi .i64 (k:Int))] [(5,.box [.d (.sl 1 (s.vars.map za3)),.d (.sl 5 (s.bounds.map za1.d)),cI s.init.kind,cPs s.init.r.t.parts,cB s.init.r.t.k.neg,.d (nsl s.init.r.t.k.abs),cB s.init.r.eq,cFs s.init.kids,.d (.sl 3 (s.procs.map za2.d)),.d (.sl 10 (s.acts.map za6.d))]),(7,.row 9 1 ((plN s x x.locs.length++vaN s x k).map za3)),(9,.box (zi x3))] h ?_;clear h;intro a w h
       refine za5 (rn za0 10 [(2,.gen _ _ _ fun _ _ _ _=>Op.strAdd (d:=47) (xt:=9) (yt:=9) (s1:=(⟨#[63]⟩:ByteArray)) (s2:=(⟨#[61]⟩:ByteArray)) (r:=((⟨#[63]⟩:ByteArray)++(⟨#[61]⟩:ByteArray))) (OV.tmp 46 _) (OV.const (.string (⟨#[61]⟩:ByteArray)) rfl) (by have:(⟨#[63]⟩:ByteArray).size=1:=rfl;have:(⟨#[61]⟩:ByteArray).size=1:=rfl;omega) rfl),(4,.call (SZText x3 gx3.1 (by have:=gx3.2;omega)) ph1_6),(5,.gen _ _ _ fun _ _ _ _=>Op.strAdd (d:=50) (xt:=9) (yt:=9) (s1:=((⟨#[63]⟩:ByteArray)++(⟨#[61]⟩:ByteArray))) (s2:=(itW x3.val)) (r:=(((⟨#[63]⟩:ByteArray)++(⟨#[61]⟩:ByteArray))++(itW x3.val))) (OV.tmp 47 _) (OV.tmp 49 _) (by (try simp only [ByteArray.size_append]);have:(⟨#[63]⟩:ByteArray).size=1:=rfl;have:(⟨#[61]⟩:ByteArray).size=1:=rfl;omega) rfl),(6,.gen _ _ _ fun _ _ _ _=>Op.buildD (d:=51) (len:=1) (rows:=[(((⟨#[63]⟩:ByteArray)++(⟨#[61]⟩:ByteArray))++(itW x3.val))].map za3) (rs:=[(50,.t (.c (.d (.raw (.string (((⟨#[63]⟩:ByteArray)++(⟨#[61]⟩:ByteArray))++(itW x3.val)))))))]) zcc (.cons (i:=0) (OV.tmp 50 _) (.nil)) (by kernel_rfl) rfl (by simp [za3]) (by decide) (by decide)),(7,.gen _ _ _ fun _ _ _ _=>Op.appOD (d:=52) (t:=45) (u:=51) (n:=7) (n':=10) (len:=(plN s x x.locs.length++vaN s x k).length) (len':=((plN s x x.locs.length++vaN s x k)++[(((⟨#[63]⟩:ByteArray)++(⟨#[61]⟩:ByteArray))++(itW x3.val))]).length) (rows:=(plN s x x.locs.length++vaN s x k).map za3) (rows2:=[(((⟨#[63]⟩:ByteArray)++(⟨#[61]⟩:ByteArray))++(itW x3.val))].map za3) (rows':=((plN s x x.locs.length++vaN s x k)++[(((⟨#[63]⟩:ByteArray)++(⟨#[61]⟩:ByteArray))++(itW x3.val))]).map za3) ph1_3 (by first | exact (List.length_map _).symm | simp) (by first | (rw [List.length_append,List.length_map];done) | simp) (by simp) (by simp [za3]) (by first | omega | (simp at *;done) | (simp at *;omega)))] [(2,vp 5 0),(4,.t (.c (.d (.raw (.string ByteArray.empty))))),(5,.t (.c (.own 10 ((plN s x x.locs.length++vaN s x k)++[(((⟨#[63]⟩:ByteArray)++(⟨#[61]⟩:ByteArray))++(itW x3.val))]).length))),(29,(vZs x.vals)),(30,vi .i64 (x.vals.length:Int)),(31,vi .i64 (k:Int))] [(5,.box [.d (.sl 1 (s.vars.map za3)),.d (.sl 5 (s.bounds.map za1.d)),cI s.init.kind,cPs s.init.r.t.parts,cB s.init.r.t.k.neg,.d (nsl s.init.r.t.k.abs),cB s.init.r.eq,cFs s.init.kids,.d (.sl 3 (s.procs.map za2.d)),.d (.sl 10 (s.acts.map za6.d))]),(10,.row 9 1 (((plN s x x.locs.length++vaN s x k)++[(((⟨#[63]⟩:ByteArray)++(⟨#[61]⟩:ByteArray))++(itW x3.val))]).map za3))] h ?_);clear h;intro a w h
       refine zar (za5 (rn za0 11 [(0,.add .i64 (m:=(k:Int)) (n:=1) (zam (by omega) (by omega)))] [(2,vp 5 0),(4,.t (.c (.d (.raw (.string ByteArray.empty))))),(5,.t (.c (.own 10 ((plN s x x.locs.length++vaN s x k)++[(((⟨#[63]⟩:ByteArray)++(⟨#[61]⟩:ByteArray))++(itW x3.val))]).length))),(29,(vZs x.vals)),(30,vi .i64 (x.vals.length:Int)),(31,vi .i64 ((k:Int)+1))] [(5,.box [.d (.sl 1 (s.vars.map za3)),.d (.sl 5 (s.bounds.map za1.d)),cI s.init.kind,cPs s.init.r.t.parts,cB s.init.r.t.k.neg,.d (nsl s.init.r.t.k.abs),cB s.init.r.eq,cFs s.init.kids,.d (.sl 3 (s.procs.map za2.d)),.d (.sl 10 (s.acts.map za6.d))]),(10,.row 9 1 (((plN s x x.locs.length++vaN s x k)++[(((⟨#[63]⟩:ByteArray)++(⟨#[61]⟩:ByteArray))++(itW x3.val))]).map za3))] h ?_));clear h;intro a w h
       refine za5 ?_
       replace h:=h.conv (f':=F.of [(2,vp 5 0),(4,.t (.c (.d (.raw (.string ByteArray.empty))))),(5,.t (.c (.own 10 (plN s x x.locs.length++vaN s x (k+1)).length))),(29,(vZs x.vals)),(30,vi .i64 (x.vals.length:Int)),(31,vi .i64 ((k:Int)+1))] [(5,.box [.d (.sl 1 (s.vars.map za3)),.d (.sl 5 (s.bounds.map za1.d)),cI s.init.kind,cPs s.init.r.t.parts,cB s.init.r.t.k.neg,.d (nsl s.init.r.t.k.abs),cB s.init.r.eq,cFs s.init.kids,.d (.sl 3 (s.procs.map za2.d)),.d (.sl 10 (s.acts.map za6.d))]),(10,.row 9 1 ((plN s x x.locs.length++vaN s x (k+1)).map za3))]) (congrArg (fun (z_:List ByteArray)=>F.of [(2,vp 5 0),(4,.t (.c (.d (.raw (.string ByteArray.empty))))),(5,.t (.c (.own 10 z_.length))),(29,(vZs x.vals)),(30,vi .i64 (x.vals.length:Int)),(31,vi .i64 ((k:Int)+1))] [(5,.box [.d (.sl 1 (s.vars.map za3)),.d (.sl 5 (s.bounds.map za1.d)),cI s.init.kind,cPs s.init.r.t.parts,cB s.init.r.t.k.neg,.d (nsl s.init.r.t.k.abs),cB s.init.r.eq,cFs s.init.kids,.d (.sl 3 (s.procs.map za2.d)),.d (.sl 10 (s.acts.map za6.d))]),(10,.row 9 1 (z_.map za3))]) (show (((plN s x x.locs.length++vaN s x k)++[(((⟨#[63]⟩:ByteArray)++(⟨#[61]⟩:ByteArray))++(itW x3.val))]):List ByteArray)=(plN s x x.locs.length++vaN s x (k+1)) from (pv_snoc hx3 (vaW_n hv))))
       replace h:=renS 10 7 [(2,vp 5 0),(4,.t (.c (.d (.raw (.string ByteArray.empty))))),(5,.t (.c (.own 7 (plN s x x.locs.length++vaN s x (k+1)).length))),(29,(vZs x.vals)),(30,vi .i64 (x.vals.length:Int)),(31,vi .i64 ((k:Int)+1))] [(5,.box [.d (.sl 1 (s.vars.map za3)),.d (.sl 5 (s.bounds.map za1.d)),cI s.init.kind,cPs s.init.r.t.parts,cB s.init.r.t.k.neg,.d (nsl s.init.r.t.k.abs),cB s.init.r.eq,cFs s.init.kids,.d (.sl 3 (s.procs.map za2.d)),.d (.sl 10 (s.acts.map za6.d))]),(7,.row 9 1 ((plN s x x.locs.length++vaN s x (k+1)).map za3))] h
       refine zb5 (x:=k) (y:=k+1) h ?_ ?_
       ·have:=zat hx3
        show k+1≤x.vals.length
        omega
       ·show x.vals.length - (k+1)<x.vals.length - k
        have:=zat hx3;omega
      ·cases hc
     ·have hat:=(zcx (xs:=s.vars)).trans hv
      have lnm:=hz.vars nm (List.mem_of_getElem? hv)
      refine rq za0 10 [(3,.call (PAtTS s.vars (k:Int) nm hat) pb1_1)] [(2,vp 5 0),(4,.t (.c (.d (.raw (.string ByteArray.empty))))),(5,.t (.c (.own 7 (plN s x x.locs.length++vaN s x k).length))),(9,vp 9 0),(10,.t (.c (.d (.raw (.string nm))))),(11,vb true),(29,(vZs x.vals)),(30,vi .i64 (x.vals.length:Int)),(31,vi .i64 (k:Int))] [(5,.box [.d (.sl 1 (s.vars.map za3)),.d (.sl 5 (s.bounds.map za1.d)),cI s.init.kind,cPs s.init.r.t.parts,cB s.init.r.t.k.neg,.d (nsl s.init.r.t.k.abs),cB s.init.r.eq,cFs s.init.kids,.d (.sl 3 (s.procs.map za2.d)),.d (.sl 10 (s.acts.map za6.d))]),(7,.row 9 1 ((plN s x x.locs.length++vaN s x k).map za3)),(9,.box (zi x3))] h ?_;clear h;intro a w h
      refine wp_seq (rq za0 10 [] [(2,vp 5 0),(4,.t (.c (.d (.raw (.string ByteArray.empty))))),(5,.t (.c (.own 7 (plN s x x.locs.length++vaN s x k).length))),(9,vp 9 0),(10,.t (.c (.d (.raw (.string nm))))),(29,(vZs x.vals)),(30,vi .i64 (x.vals.length:Int)),(31,vi .i64 (k:Int)),(44,vb false)] [(5,.box [.d (.sl 1 (s.vars.map za3)),.d (.sl 5 (s.bounds.map za1.d)),cI s.init.kind,cPs s.init.r.t.parts,cB s.init.r.t.k.neg,.d (nsl s.init.r.t.k.abs),cB s.init.r.eq,cFs s.init.kids,.d (.sl 3 (s.procs.map za2.d)),.d (.sl 10 (s.acts.map za6.d))]),(7,.row 9 1 ((plN s x x.locs.length++vaN s x k).map za3)),(9,.box (zi x3))] h ?_);clear h;intro a w h
      refine zad false h rfl (fun hc=>?_) (fun hc=>?_)
      ·cases hc
      ·clear hc
       refine wp_skip (za5 (rn za0 10 [(2,.gen _ _ _ fun _ _ _ _=>Op.strAdd (d:=47) (xt:=9) (yt:=9) (s1:=nm) (s2:=(⟨#[61]⟩:ByteArray)) (r:=(nm++(⟨#[61]⟩:ByteArray))) (OV.tmp 46 _) (OV.const (.string (⟨#[61]⟩:ByteArray)) rfl) (by have:(⟨#[61]⟩:ByteArray).size=1:=rfl;omega) rfl),(4,.call (SZText x3 gx3.1 (by have:=gx3.2;omega)) ph1_6),(5,.gen _ _ _ fun _ _ _ _=>Op.strAdd (d:=50) (xt:=9) (yt:=9) (s1:=(nm++(⟨#[61]⟩:ByteArray))) (s2:=(itW x3.val)) (r:=((nm++(⟨#[61]⟩:ByteArray))++(itW x3.val))) (OV.tmp 47 _) (OV.tmp 49 _) (by (try simp only [ByteArray.size_append]);have:(⟨#[61]⟩:ByteArray).size=1:=rfl;omega) rfl),(6,.gen _ _ _ fun _ _ _ _=>Op.buildD (d:=51) (len:=1) (rows:=[((nm++(⟨#[61]⟩:ByteArray))++(itW x3.val))].map za3) (rs:=[(50,.t (.c (.d (.raw (.string ((nm++(⟨#[61]⟩:ByteArray))++(itW x3.val)))))))]) zcc (.cons (i:=0) (OV.tmp 50 _) (.nil)) (by kernel_rfl) rfl (by simp [za3]) (by decide) (by decide)),(7,.gen _ _ _ fun _ _ _ _=>Op.appOD (d:=52) (t:=45) (u:=51) (n:=7) (n':=10) (len:=(plN s x x.locs.length++vaN s x k).length) (len':=((plN s x x.locs.length++vaN s x k)++[((nm++(⟨#[61]⟩:ByteArray))++(itW x3.val))]).length) (rows:=(plN s x x.locs.length++vaN s x k).map za3) (rows2:=[((nm++(⟨#[61]⟩:ByteArray))++(itW x3.val))].map za3) (rows':=((plN s x x.locs.length++vaN s x k)++[((nm++(⟨#[61]⟩:ByteArray))++(itW x3.val))]).map za3) ph1_3 (by first | exact (List.length_map _).symm | simp) (by first | (rw [List.length_append,List.length_map];done) | simp) (by simp) (by simp [za3]) (by first | omega | (simp at *;done) | (simp at *;omega)))] [(2,vp 5 0),(4,.t (.c (.d (.raw (.string ByteArray.empty))))),(5,.t (.c (.own 10 ((plN s x x.locs.length++vaN s x k)++[((nm++(⟨#[61]⟩:ByteArray))++(itW x3.val))]).length))),(29,(vZs x.vals)),(30,vi .i64 (x.vals.length:Int)),(31,vi .i64 (k:Int))] [(5,.box [.d (.sl 1 (s.vars.map za3)),.d (.sl 5 (s.bounds.map za1.d)),cI s.init.kind,cPs s.init.r.t.parts,cB s.init.r.t.k.neg,.d (nsl s.init.r.t.k.abs),cB s.init.r.eq,cFs s.init.kids,.d (.sl 3 (s.procs.map za2.d)),.d (.sl 10 (s.acts.map za6.d))]),(10,.row 9 1 (((plN s x x.locs.length++vaN s x k)++[((nm++(⟨#[61]⟩:ByteArray))++(itW x3.val))]).map za3))] h ?_));clear h;intro a w h
       refine zar (za5 (rn za0 11 [(0,.add .i64 (m:=(k:Int)) (n:=1) (zam (by omega) (by omega)))] [(2,vp 5 0),(4,.t (.c (.d (.raw (.string ByteArray.empty))))),(5,.t (.c (.own 10 ((plN s x x.locs.length++vaN s x k)++[((nm++(⟨#[61]⟩:ByteArray))++(itW x3.val))]).length))),(29,(vZs x.vals)),(30,vi .i64 (x.vals.length:Int)),(31,vi .i64 ((k:Int)+1))] [(5,.box [.d (.sl 1 (s.vars.map za3)),.d (.sl 5 (s.bounds.map za1.d)),cI s.init.kind,cPs s.init.r.t.parts,cB s.init.r.t.k.neg,.d (nsl s.init.r.t.k.abs),cB s.init.r.eq,cFs s.init.kids,.d (.sl 3 (s.procs.map za2.d)),.d (.sl 10 (s.acts.map za6.d))]),(10,.row 9 1 (((plN s x x.locs.length++vaN s x k)++[((nm++(⟨#[61]⟩:ByteArray))++(itW x3.val))]).map za3))] h ?_));clear h;intro a w h
       refine za5 ?_
       replace h:=h.conv (f':=F.of [(2,vp 5 0),(4,.t (.c (.d (.raw (.string ByteArray.empty))))),(5,.t (.c (.own 10 (plN s x x.locs.length++vaN s x (k+1)).length))),(29,(vZs x.vals)),(30,vi .i64 (x.vals.length:Int)),(31,vi .i64 ((k:Int)+1))] [(5,.box [.d (.sl 1 (s.vars.map za3)),.d (.sl 5 (s.bounds.map za1.d)),cI s.init.kind,cPs s.init.r.t.parts,cB s.init.r.t.k.neg,.d (nsl s.init.r.t.k.abs),cB s.init.r.eq,cFs s.init.kids,.d (.sl 3 (s.procs.map za2.d)),.d (.sl 10 (s.acts.map za6.d))]),(10,.row 9 1 ((plN s x x.locs.length++vaN s x (k+1)).map za3))]) (congrArg (fun (z_:List ByteArray)=>F.of [(2,vp 5 0),(4,.t (.c (.d (.raw (.string ByteArray.empty))))),(5,.t (.c (.own 10 z_.length))),(29,(vZs x.vals)),(30,vi .i64 (x.vals.length:Int)),(31,vi .i64 ((k:Int)+1))] [(5,.box [.d (.sl 1 (s.vars.map za3)),.d (.sl 5 (s.bounds.map za1.d)),cI s.init.kind,cPs s.init.r.t.parts,cB s.init.r.t.k.neg,.d (nsl s.init.r.t.k.abs),cB s.init.r.eq,cFs s.init.kids,.d (.sl 3 (s.procs.map za2.d)),.d (.sl 10 (s.acts.map za6.d))]),(10,.row 9 1 (z_.map za3))]) (show (((plN s x x.locs.length++vaN s x k)++[((nm++(⟨#[61]⟩:ByteArray))++(itW x3.val))]):List ByteArray)=(plN s x x.locs.length++vaN s x (k+1)) from (pv_snoc hx3 (vaW_s hv))))
       replace h:=renS 10 7 [(2,vp 5 0),(4,.t (.c (.d (.raw (.string ByteArray.empty))))),(5,.t (.c (.own 7 (plN s x x.locs.length++vaN s x (k+1)).length))),(29,(vZs x.vals)),(30,vi .i64 (x.vals.length:Int)),(31,vi .i64 ((k:Int)+1))] [(5,.box [.d (.sl 1 (s.vars.map za3)),.d (.sl 5 (s.bounds.map za1.d)),cI s.init.kind,cPs s.init.r.t.parts,cB s.init.r.t.k.neg,.d (nsl s.init.r.t.k.abs),cB s.init.r.eq,cFs s.init.kids,.d (.sl 3 (s.procs.map za2.d)),.d (.sl 10 (s.acts.map za6.d))]),(7,.row 9 1 ((plN s x x.locs.length++vaN s x (k+1)).map za3))] h
       refine zb5 (x:=k) (y:=k+1) h ?_ ?_
       ·have:=zat hx3
        show k+1≤x.vals.length
        omega
       ·show x.vals.length - (k+1)<x.vals.length - k
        have:=zat hx3;omega
    ·have hc4:=hc;clear hc
     have hc4':=of_decide_eq_false hc4
     refine wp_exit (zap (zap (zae (za5 ?_))))
     replace h:=h.conv (f':=F.of [(2,vp 5 0),(4,.t (.c (.d (.raw (.string ByteArray.empty))))),(5,.t (.c (.own 7 (plN s x x.locs.length++vaN s x x.vals.length).length))),(29,(vZs x.vals)),(30,vi .i64 (x.vals.length:Int)),(31,vi .i64 (k:Int)),(32,vb (decide ((k:Int)<(x.vals.length:Int))))] [(5,.box [.d (.sl 1 (s.vars.map za3)),.d (.sl 5 (s.bounds.map za1.d)),cI s.init.kind,cPs s.init.r.t.parts,cB s.init.r.t.k.neg,.d (nsl s.init.r.t.k.abs),cB s.init.r.eq,cFs s.init.kids,.d (.sl 3 (s.procs.map za2.d)),.d (.sl 10 (s.acts.map za6.d))]),(7,.row 9 1 ((plN s x x.locs.length++vaN s x x.vals.length).map za3))]) (congrArg (fun (z_:List ByteArray)=>F.of [(2,vp 5 0),(4,.t (.c (.d (.raw (.string ByteArray.empty))))),(5,.t (.c (.own 7 z_.length))),(29,(vZs x.vals)),(30,vi .i64 (x.vals.length:Int)),(31,vi .i64 (k:Int)),(32,vb (decide ((k:Int)<(x.vals.length:Int))))] [(5,.box [.d (.sl 1 (s.vars.map za3)),.d (.sl 5 (s.bounds.map za1.d)),cI s.init.kind,cPs s.init.r.t.parts,cB s.init.r.t.k.neg,.d (nsl s.init.r.t.k.abs),cB s.init.r.eq,cFs s.init.kids,.d (.sl 3 (s.procs.map za2.d)),.d (.sl 10 (s.acts.map za6.d))]),(7,.row 9 1 (z_.map za3))]) (show ((plN s x x.locs.length++vaN s x k):List ByteArray)=(plN s x x.locs.length++vaN s x x.vals.length) from (by rw [show k=x.vals.length by have:=of_decide_eq_false hc4;omega])))
     replace h:=pubS 7 1 9 ((plN s x x.locs.length++vaN s x x.vals.length).map za3) [(2,vp 5 0),(4,.t (.c (.d (.raw (.string ByteArray.empty))))),(5,.t (.c (.d (.sl 1 ((plN s x x.locs.length++vaN s x x.vals.length).map za3))))),(29,(vZs x.vals)),(30,vi .i64 (x.vals.length:Int)),(31,vi .i64 (k:Int)),(32,vb (decide ((k:Int)<(x.vals.length:Int))))] [(5,.box [.d (.sl 1 (s.vars.map za3)),.d (.sl 5 (s.bounds.map za1.d)),cI s.init.kind,cPs s.init.r.t.parts,cB s.init.r.t.k.neg,.d (nsl s.init.r.t.k.abs),cB s.init.r.eq,cFs s.init.kids,.d (.sl 3 (s.procs.map za2.d)),.d (.sl 10 (s.acts.map za6.d))])] h rfl (show AllEq _ [(plN s x x.locs.length++vaN s x x.vals.length).length] from ⟨by first | exact (List.length_map _).symm | (simp;done) | (simp;omega),trivial⟩) trivial
     refine rq za0 11 [(1,.call (SJoin (plN s x x.locs.length++vaN s x x.vals.length) (⟨#[32]⟩:ByteArray) (by rw [List.length_append,plN_len,vaN_len];omega) (Nat.le_trans (stW_sz hz hx) (by decide))) ph1_7)] [(4,.t (.c (.d (.raw (.string (joinB (plN s x x.locs.length++vaN s x x.vals.length) (⟨#[32]⟩:ByteArray)))))))] [] h ?_;clear h;intro a w h
     refine wp_ret ?_
     refine zb0 [.c (.d (.raw (.string (joinB (plN s x x.locs.length++vaN s x x.vals.length) (⟨#[32]⟩:ByteArray)))))] h Exit.ret (.inl rfl)  rfl ⟨RV.tmp _ _ rfl,trivial⟩ ?_
     rfl
section
open Go.RowKit Go.Shelf
section
variable {P:Program} {ρ:Ren}
def CapOk (v:Value):Prop:=v = .slice none 0 0∨∃ g n c,v = .slice (some ⟨g,0,none⟩) n c∧0<c
theorem str_fresh {w:World} {t u ty e:TypeId} {i:TypeInfo} (ht:P.underlying t=some (.slice e)) (hu:P.underlying u=some .string) (hi:P.info? e=some i) (hz:i.zero=some (.int .u8 0)) (hsize:i.size=1) (hby:i.bytes=1)
  {v:Value} {n:Nat} {xs:List Value} (hown:w.ownsRow 0 e 1 v n xs) {s:ByteArray} (h63:n+s.size≤maxLen) (hb:n+s.size≤140737488355328)
  (hc0:CapOk v) {v':Value} {w':World} (hr:(Builtin.append_ #[t,u] ty #[v,.string s]).run P w = .ok v' w'):(∀ g,v'.ownBlock=some g→v.ownBlock=some g∨w.heap.size≤g)∧CapOk v':=by
 have hsmall:n+s.size≤9223372036854775807:=by simp only [maxLen] at h63;omega
 have hxl:xs.length=n:=by simpa using hown.1
 rcases hown.2 with ⟨rfl,rfl⟩ | ⟨g2,cap,cur,rfl,_,hg2,hnc,hcm,hcs,htake⟩
 ·by_cases hm:s.size=0
  ·obtain ⟨a,b,c,_,_,hnil⟩:=Lib.run_append_own_string (P:=P) w 0 t u ty e i ht hu hi hz hsize hby _ 0 xs hown s (by omega) (by omega) (Nat.zero_le _)
   rw [c] at hr
   injection hr with hr _
   subst hr
   have e1:=hnil.2 ⟨rfl,hm⟩
   exact ⟨fun g hg=>by rw [e1] at hg;simp [Value.ownBlock] at hg,.inl e1⟩
  ·have h2:=run_append_nil_string (P:=P) w t u ty e i (.int .u8 0) ht hu hi hz s (by omega) (by omega) (by rw [hby];omega)
   rw [h2] at hr
   injection hr with hr _
   subst hr
   exact ⟨fun g hg=>by simp [Value.ownBlock] at hg;exact .inr (by omega),.inr ⟨_,_,_,rfl,by have:=grownCap_ge w s.size 0 e;omega⟩⟩
 ·by_cases hroom:n+s.size≤cap
  ·have h2:=Lib.run_append_room_string (P:=P) w t u ty e i ht hu hi hsize g2 n cap cur hg2 s hroom (by omega)
   rw [h2] at hr
   injection hr with hr _
   subst hr
   refine ⟨fun g hg => .inl hg,?_⟩
   rcases hc0 with h0 | ⟨_,_,_,h0,hc⟩
   ·cases h0
   ·injection h0 with _ _ h0;subst h0;exact .inr ⟨_,_,_,rfl,hc⟩
  ·have h2:=Lib.run_append_grow_string (P:=P) w t u ty e i (.int .u8 0) ht hu hi hz ⟨g2,0,none⟩ n cap xs (by rw [hsize];simpa using hxl) (hown.cells (g:=g2) rfl) s (by omega) (by omega) (by rw [hby];exact growslice_fits (by omega) (by omega))
   rw [h2] at hr
   injection hr with hr _
   subst hr
   exact ⟨fun g hg=>by simp [Value.ownBlock] at hg;exact .inr (by omega),.inr ⟨_,_,_,rfl,by have:=grownCap_ge w (n+s.size) cap e;omega⟩⟩
theorem wpl_str {ops:Array Oper} {rest:List Oper} {o:Oper} {a:Act} {w:World} {Q:Exit→Act→World→Prop} (hgd:o.guard=none) (sl x:Operand) (t u:TypeId)
  (ho:o.op = .call { callee:=.builtin .append,args:=#[sl,x],argTypes:=#[t,u] })
  (e:TypeId) (i:TypeInfo) (ht:P.underlying t=some (.slice e)) (hu:P.underlying u=some .string) (hi:P.info? e=some i) (hz:i.zero=some (.int .u8 0)) (hsize:i.size=1) (hby:i.bytes=1)
  (v:Value) (n:Nat) (xs:List Value) (hs:a.eval sl=v) (hown:w.ownsRow 0 e 1 v n xs) (s:ByteArray) (hx:a.eval x = .string s) (h63:n+s.size≤maxLen) (hb:n+s.size≤140737488355328) (hc0:CapOk v)
  (h:∀ v' w', w'.ownsRow 0 e 1 v' (n+s.size) (xs++Lib.strCells s)→w.grownBy w' v.ownBlock→(∀ g,v'.ownBlock=some g→v.ownBlock=some g∨w.heap.size≤g)→CapOk v'→wpList P ops Q rest (a.put o.dst v') w'):wpList P ops Q (o :: rest) a w:=by
 refine wpList_plain hgd fun K hK=>?_
 obtain ⟨v', w', hr,h2,h3,_⟩:=Lib.run_append_own_string (P:=P) w 0 t u o.type e i ht hu hi hz hsize hby v n xs hown s h63 hb (Nat.zero_le _)
 have hf:=str_fresh ht hu hi hz hsize hby hown h63 hb hc0 hr
 unfold Oper.wp execOp
 simp only [ho,resolve,invoke,builtin,Sem.run_bind,Sem.run_pure,Result.andThen_ok,List.map_toArray,List.map_cons,List.map_nil,hs,hx,hr]
 exact hK _ _ (h v' w' h2 h3 hf.1 hf.2)
/-- a builder in block b: where its own address is noted, or nothing yet; its row -/
structure BldW (T e:TypeId) (b:Nat) (v:Value) (vr:List Value) (xs:List Value) (w:World):Prop where
  blk:∃ p,w.heap[b]?=some (.cells ⟨p :: v :: vr⟩ T (0,0))∧(p = .pointer none∨p = .pointer (some ⟨b,0,none⟩))
  own:w.ownsRow 0 e 1 v xs.length xs
  ne:v.ownBlock≠some b
  cap:CapOk v
theorem zcd {w:World} {e:TypeId} {v:Value} {n:Nat} {xs:List Value} (h:w.ownsRow 0 e 1 v n xs) {b j:Nat} (hb:v.ownBlock≠some b) (q:Value):(w.setCell ⟨b,j,none⟩ q).ownsRow 0 e 1 v n xs:=by
 refine ⟨h.1,?_⟩
 rcases h.2 with h2 | ⟨g,cap,cur,rfl,h3,h4,h5⟩
 ·exact .inl h2
 ·refine .inr ⟨g,cap,cur,rfl,h3,?_,h5⟩
  rw [Below.heap_setCell w ⟨b,j,none⟩ q g (fun e=>hb (by simp [Value.ownBlock,e]))]
  exact h4
def CcOk (P:Program) (ρ:Ren) (T:TypeId) (k:Nat):Prop:=∀ (b:Nat) (w:World),w.cell? ⟨b,0,none⟩=some (.pointer none)→w.shape? b=some (T,k)→w.frozen? ⟨b,0,none⟩=false →
  Calls P (ρ.f 240) #[.pointer (some ⟨b,0,none⟩)] w fun e w'=>e = .returned (.tuple #[])∧w'=w.setCell ⟨b,0,none⟩ (.pointer (some ⟨b,0,none⟩))
theorem ccx (L:Lays.n240 P ρ) (X:Builder.X72 P ρ) {T:TypeId} {b:Nat} {v:Value} {vr xs:List Value} {w:World} (hcc:CcOk P ρ T (vr.length+2)) (h:BldW T (ρ.t 5) b v vr xs w) :
  Calls P (ρ.f 240) #[.pointer (some ⟨b,0,none⟩)] w fun e w'=>e = .returned (.tuple #[])∧w'.heap[b]?=some (.cells ⟨.pointer (some ⟨b,0,none⟩) :: v :: vr⟩ T (0,0))∧w'.ownsRow 0 (ρ.t 5) 1 v xs.length xs ∧
   (∀ k,k≠b→w'.heap[k]?=w.heap[k]?)∧w'.os=w.os∧w'.tape=w.tape∧w'.output=w.output∧w'.heap.size=w.heap.size:=by
 obtain ⟨p,h1,rfl | rfl⟩:=h.blk
 ·refine (hcc b w (by rw [Lib.cell_of_heap h1];rfl) (by simp [World.shape?, h1]) (Lib.frozen_of_heap h1 0)).mono ?_
  rintro e w' ⟨rfl,rfl⟩
  refine ⟨rfl,by simp [World.setCell,Array.getElem?_modify,h1],zcd h.own h.ne _,fun k hk=>Below.heap_setCell w _ _ k hk,rfl,rfl,rfl,by simp [World.setCell]⟩
 ·refine (Any.Builder_copyCheck_used L X b w (by rw [Lib.cell_of_heap h1];rfl)).mono ?_
  rintro e w' ⟨rfl,rfl⟩
  exact ⟨rfl,h1,h.own,fun _ _=>rfl,rfl,rfl,rfl,rfl⟩
set_option maxHeartbeats 2000000 in
/-- WriteString: the bytes come behind, and nothing else turns -/
theorem wsx (L:Lays.n166 P ρ) (X:Builder.Extra P ρ) {T:TypeId} {b:Nat} {v:Value} {vr xs:List Value} {w:World} (hcc:CcOk P ρ T (vr.length+2)) (h:BldW T (ρ.t 5) b v vr xs w) (s:ByteArray) (hlen:xs.length+s.size≤140737488355328) :
  Calls P (ρ.f 166) #[.pointer (some ⟨b,0,none⟩),.string s] w fun e w'=>e = .returned (.tuple #[.int .i64 s.size,.nilIface])∧∃ v', BldW T (ρ.t 5) b v' vr (xs++Lib.strCells s) w'∧(∀ g,v'.ownBlock=some g→v.ownBlock=some g∨w.heap.size≤g) ∧
   (∀ k,k<w.heap.size→k≠b→some k≠v.ownBlock→w'.heap[k]?=w.heap[k]?)∧w'.os=w.os∧w'.tape=w.tape∧w'.output=w.output∧w.heap.size≤w'.heap.size:=by
 obtain ⟨i0,hi,hz0,hz1,hz2⟩:=info_parts X.infoByte
 have mixed:=L.mixed
 have t72:=L.t72;have a72:=L.a72;have z72:=L.z72;have v72:=L.v72;have u72:=run_underlying L.t72
 have t70:=L.t70;have a70:=L.a70;have z70:=L.z70;have v70:=L.v70;have u70:=run_underlying L.t70
 have t37:=L.t37;have a37:=L.a37;have z37:=L.z37;have v37:=L.v37;have u37:=run_underlying L.t37
 have t3:=L.t3;have a3:=L.a3;have z3:=L.z3;have v3:=L.v3;have u3:=run_underlying L.t3
 have t9:=L.t9;have a9:=L.a9;have z9:=L.z9;have v9:=L.v9;have u9:=run_underlying L.t9
 have t4:=L.t4;have a4:=L.a4;have z4:=L.z4;have v4:=L.v4;have u4:=run_underlying L.t4
 have t164:=L.t164;have a164:=L.a164;have z164:=L.z164;have v164:=L.v164;have u164:=run_underlying L.t164
 have t5:=X.t5;have a5:=X.a5;have z5:=X.z5;have v5:=X.v5;have u5:=run_underlying X.t5
 have e240:∀ args w,(callFunc (ρ.f 240) args).run P w = .ok (.enter (ρ.f 240) args) w:=enters_of L.f240 (by kernel_rfl) rfl
 have hltb:b<w.heap.size:=by obtain ⟨p,h1,_⟩:=h.blk;exact (Array.getElem?_eq_some_iff.1 h1).1
 have hne:=h.ne
 go_enter L.f166,Body.n166_ntmps ρ
 go_wp2_with (go_at_fn (ρ.f 240);refine (ccx { L with } X.toX72 hcc h).mono ?_)
 rintro e w1 ⟨rfl,hbk,hown,k1,k2,k3,k4,k5⟩
 have c0:w1.cell? ⟨b,0,none⟩=some (.pointer (some ⟨b,0,none⟩)):=by rw [Lib.cell_of_heap hbk];rfl
 have c1:w1.cell? ⟨b,1,none⟩=some v:=by rw [Lib.cell_of_heap hbk];rfl
 go_wp2_with (at_builtin;refine wpl_str rfl _ _ (ρ.t 37) (ρ.t 9) rfl (ρ.t 5) i0 L.t37 L.t9 hi hz0 hz1 hz2 _ _ _ rfl hown s rfl ?c3 ?c4 h.cap ?_)
 case c3=>unfold maxLen;omega
 case c4=>omega
 intro v' w2 hown' hgrow hfr hcap'
 have hb2:w2.heap[b]?=some (.cells ⟨.pointer (some ⟨b,0,none⟩) :: v :: vr⟩ T (0,0)):=by
  rw [hgrow.block b (by omega) (fun e=>hne e.symm)]
  exact hbk
 have d0:w2.cell? ⟨b,0,none⟩=some (.pointer (some ⟨b,0,none⟩)):=by rw [Lib.cell_of_heap hb2];rfl
 have d1:w2.cell? ⟨b,1,none⟩=some v:=by rw [Lib.cell_of_heap hb2];rfl
 have f1:w2.frozen? ⟨b,1,none⟩=false:=Lib.frozen_of_heap hb2 1
 have hne':v'.ownBlock≠some b:=fun e=>by
  rcases hfr b e with h1 | h1
  ·exact hne h1
  ·omega
 obtain ⟨ao,n', cap,rfl⟩:∃ ao n' cap,v' = .slice ao n' cap:=by
  rcases hown'.2 with ⟨hv,_⟩ | ⟨g,cap,cur,hv,_⟩
  ·exact ⟨_,_,_,hv⟩
  ·exact ⟨_,_,_,hv⟩
 go_wp2
 go_ret2
 refine ⟨rfl,_,⟨⟨_,by simp [World.setCell,Array.getElem?_modify,hb2],.inr rfl⟩,?_,hne', hcap'⟩,fun g hg=>(hfr g hg).imp id fun h=>by omega,fun k h1 h2 h3=>?_,?_,?_,?_,?_⟩
 ·exact zcd (by simpa [Lib.strCells_length] using hown') hne' _
 ·rw [Below.heap_setCell _ _ _ k h2,hgrow.block k (by omega) h3,k1 k h2]
 ·exact hgrow.os.trans k2
 ·exact hgrow.tape.trans k3
 ·exact hgrow.output.trans k4
 ·have:=hgrow.size;simp [World.setCell];omega
set_option maxHeartbeats 2000000 in
/-- String: the bytes; of all blocks only the row's own turns -/
theorem strx (L:Lays.n169 P ρ) (X:Builder.Extra P ρ) {T:TypeId} {b g cap:Nat} {p:Value} {vr:List Value} {cur:Array Value} {l:List UInt8} {w:World} (hbk:w.heap[b]?=some (.cells ⟨p :: .slice (some ⟨g,0,none⟩) l.length cap :: vr⟩ T (0,0)))
  (hg:w.heap[g]?=some (.cells cur (ρ.t 5) (0,0))) (h0:l≠[]) (hnc:l.length≤cap) (hcm:cap≤maxLen) (hcs:cur.size=cap) (htake:cur.toList.take l.length=Lib.byteCells l) :
  Calls P (ρ.f 169) #[.pointer (some ⟨b,0,none⟩)] w fun e w'=>e = .returned (.string ⟨l.toArray⟩)∧w'=w.drew.freeze ⟨g,0,none⟩ l.length:=by
 have hl0:l.length≠0:=by simpa using h0
 have c1:w.drew.cell? ⟨b,1,none⟩=some (.slice (some ⟨g,0,none⟩) l.length cap):=by
  have:w.drew.heap[b]?=some (.cells ⟨p :: .slice (some ⟨g,0,none⟩) l.length cap :: vr⟩ T (0,0)):=hbk
  rw [Lib.cell_of_heap this];rfl
 have hSD:(Builtin.unsafeSliceData_ #[(ρ.t 37)] (ρ.t 127) #[.slice (some ⟨g,0,none⟩) l.length cap]).run P w.drew = .ok (.pointer (some ⟨g,0,none⟩)) w.drew :=
  Lib.run_unsafeSliceData_row _ _ _ _ _ _ (by omega)
 have hUS:(Builtin.unsafeString_ #[(ρ.t 127),(ρ.t 3)] (ρ.t 9) #[.pointer (some ⟨g,0,none⟩),.int .i64 l.length]).run P w.drew = .ok (.string ⟨l.toArray⟩) (w.drew.freeze ⟨g,0,none⟩ l.length):=by
  refine Lib.run_unsafeString_row w.drew (ρ.t 127) (ρ.t 3) (ρ.t 9) (ρ.t 5) L.t127 X.cellsByte g cur.size (by have hg':w.drew.heap[g]?=some (.cells cur (ρ.t 5) (0,0)):=hg;simp [World.shape?, hg']) l h0 (by omega) (by unfold maxLen at hcm;omega) ?_
  intro j x hx
  have hg':w.drew.heap[g]?=some (.cells cur (ρ.t 5) (0,0)):=hg
  have e1:(Lib.byteCells l)[j]?=some (.int .u8 x.toNat):=by simp [Lib.byteCells,hx]
  have hjl:j<l.length:=(List.getElem?_eq_some_iff.1 hx).1
  rw [← htake,List.getElem?_take,if_pos hjl] at e1
  have e2:cur[j]?=some (.int .u8 x.toNat):=by rw [← Array.getElem?_toList];exact e1
  rw [Addr.add_mid,Lib.cell_of_heap hg', Nat.zero_add];exact e2
 have mixed:=L.mixed
 have t72:=L.t72;have a72:=L.a72;have z72:=L.z72;have v72:=L.v72;have u72:=run_underlying L.t72
 have t70:=L.t70;have a70:=L.a70;have z70:=L.z70;have v70:=L.v70;have u70:=run_underlying L.t70
 have t37:=L.t37;have a37:=L.a37;have z37:=L.z37;have v37:=L.v37;have u37:=run_underlying L.t37
 have t127:=L.t127;have a127:=L.a127;have z127:=L.z127;have v127:=L.v127;have u127:=run_underlying L.t127
 have t3:=L.t3;have a3:=L.a3;have z3:=L.z3;have v3:=L.v3;have u3:=run_underlying L.t3
 have t9:=L.t9;have a9:=L.a9;have z9:=L.z9;have v9:=L.v9;have u9:=run_underlying L.t9
 have t5:=X.t5;have a5:=X.a5;have z5:=X.z5;have v5:=X.v5;have u5:=run_underlying X.t5
 go_enter L.f169,Body.n169_ntmps ρ
 go_wp2
 go_region_o
 all_goals (go_wp2;go_ret;exact ⟨rfl,rfl⟩)
def bw (l:List UInt8):List (List D):=l.map fun c=>[.raw (.int .u8 (c.toNat:Int))]
theorem bw_length (l:List UInt8):(bw l).length=l.length:=by simp [bw]
theorem bw_one (l:List UInt8):∀ r ∈ bw l,r.length=1:=by
 intro r hr;obtain ⟨c,_,rfl⟩:=List.mem_map.1 hr;rfl
theorem bw_flat (l:List UInt8):(bw l).flatten=l.map fun c=>D.raw (.int .u8 (c.toNat:Int)):=by
 induction l with
 | nil=>rfl
 | cons x l ih=>show _ :: (bw l).flatten=_;rw [ih];rfl
theorem raws_eq {H:Im}:∀ {l:List UInt8} {vs:List Value}, zag (DR H) (l.map fun c=>D.raw (.int .u8 (c.toNat:Int))) vs→vs=Lib.byteCells l
 | [],[],_=>rfl
 | _ :: l,_ :: vs,h=>by
  have h1:=h.1
  cases h1
  rw [raws_eq h.2];rfl
 | [],_ :: _,h=>h.elim
 | _ :: _,[],h=>h.elim
theorem raws_mk {H:Im}:∀ (l:List UInt8),zag (DR H) (l.map fun c=>D.raw (.int .u8 (c.toNat:Int))) (Lib.byteCells l)
 | []=>trivial
 | _x :: l=>⟨DR.raw _ rfl,raws_mk l⟩
theorem strCells_bytes (s:ByteArray):Lib.strCells s=Lib.byteCells s.data.toList:=by simp [Lib.strCells,Lib.byteCells]
theorem byteCells_app (l m:List UInt8):Lib.byteCells (l++m)=Lib.byteCells l++Lib.byteCells m:=by simp [Lib.byteCells]
theorem all2_d {H:Im} {B:Bl}:∀ {ds:List D} {vs:List Value}, zag (CR H B) (ds.map C.d) vs→zag (DR H) ds vs
 | [],[],_=>trivial
 | _ :: _,_ :: _,h=>⟨h.1,all2_d h.2⟩
 | [],_ :: _,h=>h.elim
 | _ :: _,[],h=>h.elim
theorem d_all2 {H:Im} {B:Bl}:∀ {ds:List D} {vs:List Value}, zag (DR H) ds vs→zag (CR H B) (ds.map C.d) vs
 | [],[],_=>trivial
 | _ :: _,_ :: _,h=>⟨h.1,d_all2 h.2⟩
 | [],_ :: _,h=>h.elim
 | _ :: _,[],h=>h.elim
theorem bldW_of {H:Im} {B:Bl} {w:World} {n m:Nat} {T e:TypeId} {l:List UInt8} {ds:List D} (hnm:n≠m) (h7:LR H B w n (.bld T (.own m l.length) (ds.map C.d))) (h8:LR H B w m (.row e 1 (bw l))) (hi:∀ b c c', B n=some (b,c)→B m=some (b,c')→n=m) :
  ∃ b c v vr,B n=some (b,c)∧BldW T e b v vr (Lib.byteCells l) w∧v.ownBlock=(B m).map (·.1)∧zag (DR H) ds vr:=by
 obtain ⟨b,c,v1,v2,vr,hb,hc,hp,hz,hv,hr⟩:=h7
 refine ⟨b,c,v2,vr,hb,⟨⟨v1,hc,hp⟩,?_,?_,?_⟩,?_,all2_d hr⟩
 ·refine ⟨by simp,?_⟩
  simp only [CR] at hv
  simp only [LR] at h8
  cases hB:B m with
  | none =>
   rw [hB] at hv h8
   obtain ⟨h1,ao,rfl⟩:=hv
   rcases hz with hz | ⟨g,k,c', hz,hc'⟩
   ·exact .inl ⟨hz,by simp [Lib.byteCells_length,h1]⟩
   ·injection hz with _ _ hz;omega
  | some q =>
   obtain ⟨g,cap⟩:=q
   rw [hB] at hv h8
   obtain ⟨arr,g1,g2,g3,g4,_,g6⟩:=h8
   rw [bw_length] at g3 g6
   rw [bw_flat] at g6
   have g7:=raws_eq g6
   exact .inr ⟨g,cap,⟨arr⟩,by rw [Lib.byteCells_length];exact hv,Nat.zero_le _,g1,by rw [Lib.byteCells_length];exact g3,g4,by simpa using g2,by rw [Lib.byteCells_length];exact g7⟩
 ·simp only [CR] at hv
  cases hB:B m with
  | none =>
   rw [hB] at hv
   obtain ⟨h1,ao,rfl⟩:=hv
   rcases hz with hz | ⟨g,k,c', hz,hc'⟩
   ·rw [hz];simp [Value.ownBlock]
   ·injection hz with _ _ hz;omega
  | some q =>
   obtain ⟨g,cap⟩:=q
   rw [hB] at hv
   rw [hv]
   intro e1
   simp only [Value.ownBlock,Option.some.injEq] at e1
   subst e1
   exact hnm (hi _ _ _ hb hB)
 ·exact hz
 ·simp only [CR] at hv
  cases hB:B m with
  | none =>
   rw [hB] at hv
   obtain ⟨h1,ao,rfl⟩:=hv
   rcases hz with hz | ⟨g,k,c', hz,hc'⟩
   ·rw [hz];rfl
   ·injection hz with _ _ hz;omega
  | some q =>
   obtain ⟨g,cap⟩:=q
   rw [hB] at hv
   rw [hv];rfl
def zce (v:Value):Option (Nat × Nat):=match v with | .slice (some a) _ c=>some (a.block,c) | _=>none
theorem bldW_to {H:Im} {B:Bl} {w:World} {n m b c:Nat} {T e:TypeId} {v:Value} {vr:List Value} {l:List UInt8} {ds:List D} (hB:B n=some (b,c)) (hm:B m=zce v) (hr:zag (DR H) ds vr) (h:BldW T e b v vr (Lib.byteCells l) w) :
  LR H B w n (.bld T (.own m l.length) (ds.map C.d))∧LR H B w m (.row e 1 (bw l)):=by
 obtain ⟨⟨p,h1,h2⟩,h3,h4,h5⟩:=h
 rw [Lib.byteCells_length] at h3
 constructor
 ·refine ⟨b,c,p,v,vr,hB,h1,h2,h5,?_,d_all2 hr⟩
  simp only [CR,hm]
  rcases h3.2 with ⟨rfl,h6⟩ | ⟨g,cap,cur,rfl,_⟩
  ·exact ⟨h6,none,rfl⟩
  ·rfl
 ·simp only [LR,hm]
  rcases h3.2 with ⟨rfl,h6⟩ | ⟨g,cap,cur,rfl,_,g1,g2,g3,g4,g5⟩
  ·show bw l=[]
   rw [List.length_eq_zero_iff.1 h6];rfl
  ·refine ⟨cur.toList,g1,by simpa using g4,by rw [bw_length];exact g2,g3,bw_one l,?_⟩
   rw [bw_flat,bw_length,g5]
   exact raws_mk l
theorem frz (w:World) (g n:Nat):(w.freeze ⟨g,0,none⟩ n).os=w.os∧(w.freeze ⟨g,0,none⟩ n).tape=w.tape∧(w.freeze ⟨g,0,none⟩ n).output=w.output∧(w.freeze ⟨g,0,none⟩ n).heap.size=w.heap.size∧∀ k,k≠g→(w.freeze ⟨g,0,none⟩ n).heap[k]?=w.heap[k]?:=by
 unfold World.freeze
 split
 ·exact ⟨rfl,rfl,rfl,rfl,fun _ _=>rfl⟩
 ·refine ⟨rfl,rfl,rfl,by simp,fun k hk=>?_⟩
  simp only [Array.getElem?_modify]
  rw [if_neg (Ne.symm hk)]
theorem SBWrite (La:Lays.n166 P ρ) (X:Builder.Extra P ρ) {T:TypeId} {ds:List D} (hcc:CcOk P ρ T (ds.length+2)) (m m2:Nat) (hm:7≠m) (h27:m2≠7) (h2m:m2≠m) (l:List UInt8) (s:ByteArray) (hs:l.length+s.size≤140737488355328) :
  Fn P (ρ.f 166) [(7,.bld T (.own m l.length) (ds.map C.d)),(m,.row (ρ.t 5) 1 (bw l))] [vp 7 0,vs s] (.tup [.c (cI s.size),.c (.d (.raw .nilIface))]) [(7,.bld T (.own m2 (l++s.data.toList).length) (ds.map C.d)),(m2,.row (ρ.t 5) 1 (bw (l++s.data.toList)))]:=by
 intro w H B vals pre
 obtain ⟨a1,a2,rfl,⟨b,c,hb,rfl⟩,h2⟩:=args2 pre.arg
 have h2:=VR.rawI h2
 subst h2
 have hi:∀ b c c', B 7=some (b,c)→B m=some (b,c')→7=m:=fun b c c' h1 h2=>pre.inj _ List.mem_cons_self _ (List.mem_cons_of_mem _ List.mem_cons_self) b c c' h1 h2
 obtain ⟨b', c', v,vr,hb', hw,hv,hr⟩:=bldW_of hm (pre.loc _ List.mem_cons_self) (pre.loc _ (List.mem_cons_of_mem _ List.mem_cons_self)) hi
 rw [hr.length] at hcc
 rw [hb] at hb'
 injection hb' with hb'
 obtain ⟨rfl,rfl⟩:=Prod.mk.injEq .. ▸ hb'
 obtain ⟨p71,p72⟩:=pre.priv _ List.mem_cons_self b c hb
 refine (wsx La X hcc hw s (by rw [Lib.byteCells_length];exact hs)).mono ?_
 rintro en w' ⟨rfl,v', hw', hfr,hk,k1,k2,k3,k4⟩
 rw [strCells_bytes,← byteCells_app] at hw'
 have hHs:∀ g,w.heap.size≤g→H g=none:=fun g hg=>by
  cases hx:H g with
  | none=>rfl
  | some o=>have:=(Array.getElem?_eq_some_iff.1 (pre.sat g o hx)).1;omega
 have old:∀ g,v.ownBlock=some g→∃ c,B m=some (g,c):=fun g hg=>by
  rw [hv] at hg
  cases hB:B m with
  | none=>rw [hB] at hg;cases hg
  | some q=>rw [hB] at hg;injection hg with hg;subst hg;exact ⟨q.2,rfl⟩
 have rowOwn:∀ g c,zce v'=some (g,c)→v'.ownBlock=some g:=fun g c hg=>by
  cases v' <;> first | (simp [zce] at hg;done) | skip
  rename_i ao k cc
  cases ao with
  | none=>simp [zce] at hg
  | some a=>simp [zce] at hg;simp [Value.ownBlock,hg.1]
 have lt':∀ g,v'.ownBlock=some g→g<w'.heap.size:=fun g hg=>by
  rcases hw'.own.2 with ⟨h1,_⟩ | ⟨g2,cap,cur,h1,_,h3,_⟩
  ·rw [h1] at hg;cases hg
  ·rw [h1] at hg;injection hg with hg;subst hg;exact (Array.getElem?_eq_some_iff.1 h3).1
 have hB7:(fun x=>if x=m2 then zce v' else B x) 7=some (b,c):=by show (if 7=m2 then _ else _)=_;rw [if_neg (Ne.symm h27)];exact hb
 obtain ⟨l7,l9⟩:=bldW_to (H:=H) (B:=fun x=>if x=m2 then zce v' else B x) (n:=7) (m:=m2) hB7 (by simp) hr hw'
 refine ⟨_,H,fun x=>if x=m2 then zce v' else B x,rfl,Le.refl _,fun _ _=>rfl,?_,?_,?_,?_,?_,?_,?_⟩
 ·intro k o hko
  have h1:=pre.sat k o hko
  rw [hk k (Array.getElem?_eq_some_iff.1 h1).1 ?_ ?_];exact h1
  ·rintro rfl;rw [p72] at hko;cases hko
  ·intro e1
   obtain ⟨c2,hc2⟩:=old k e1.symm
   have:=(pre.priv _ (List.mem_cons_of_mem _ List.mem_cons_self) k c2 hc2).2
   rw [this] at hko;cases hko
 ·intro p hp
  rcases List.mem_cons.1 hp with rfl | hp
  ·exact l7
  ·rw [List.mem_singleton.1 hp];exact l9
 ·intro p hp g c2 hg
  rcases List.mem_cons.1 hp with rfl | hp
  ·have hg':B 7=some (g,c2):=by have hg:(if 7=m2 then zce v' else B 7)=some (g,c2):=hg;rwa [if_neg (Ne.symm h27)] at hg
   rw [hb] at hg'
   injection hg' with hg'
   obtain ⟨rfl,rfl⟩:=Prod.mk.injEq .. ▸ hg'
   exact ⟨by omega,p72,.inl ⟨_,List.mem_cons_self,_,hb⟩⟩
  ·rw [List.mem_singleton.1 hp] at hg
   have hg:(if m2=m2 then zce v' else B m2)=some (g,c2):=hg
   rw [if_pos rfl] at hg
   have hg2:=rowOwn g c2 hg
   refine ⟨lt' g hg2,?_,?_⟩
   ·rcases hfr g hg2 with h1 | h1
    ·obtain ⟨c3,hc3⟩:=old g h1
     exact (pre.priv _ (List.mem_cons_of_mem _ List.mem_cons_self) g c3 hc3).2
    ·exact hHs g h1
   ·rcases hfr g hg2 with h1 | h1
    ·obtain ⟨c3,hc3⟩:=old g h1
     exact .inl ⟨_,List.mem_cons_of_mem _ List.mem_cons_self,c3,hc3⟩
    ·exact .inr h1
 ·have key:∀ g c1 c2,B 7=some (g,c1)→zce v'=some (g,c2)→False:=fun g c1 c2 h1 h2=>by
   rw [hb] at h1
   injection h1 with h1
   obtain ⟨rfl,rfl⟩:=Prod.mk.injEq .. ▸ h1
   exact hw'.ne (rowOwn _ _ h2)
  intro p hp q hq g c1 c2 h1 h2
  rcases List.mem_cons.1 hp with rfl | hp <;> rcases List.mem_cons.1 hq with rfl | hq
  ·rfl
  ·rw [List.mem_singleton.1 hq] at h2;have h1:(if 7=m2 then zce v' else B 7)=some (g,c1):=h1;have h2:(if m2=m2 then zce v' else B m2)=some (g,c2):=h2;rw [if_neg (Ne.symm h27)] at h1;rw [if_pos rfl] at h2;exact (key g c1 c2 h1 h2).elim
  ·rw [List.mem_singleton.1 hp] at h1;have h1:(if m2=m2 then zce v' else B m2)=some (g,c1):=h1;have h2:(if 7=m2 then zce v' else B 7)=some (g,c2):=h2;rw [if_neg (Ne.symm h27)] at h2;rw [if_pos rfl] at h1;exact (key g c2 c1 h2 h1).elim
  ·rw [List.mem_singleton.1 hp,List.mem_singleton.1 hq]
 ·intro n hn
  have:n≠m2:=by
   rcases hn with hn | hn
   ·rintro rfl;simp at hn;exact hn.elim h27 h2m
   ·rintro rfl;simp at hn
  show (if n=m2 then _ else _)=_
  rw [if_neg this]
 ·exact ⟨[.int .i64 s.size,.nilIface],rfl,DR.raw _ rfl,DR.raw _ rfl,trivial⟩
 ·refine ⟨k1,k2,k3,k4,fun k hk1 hk2=>hk k hk1 ?_ ?_⟩
  ·rintro rfl;exact hk2 ⟨_,List.mem_cons_self,_,hb⟩
  ·intro e1
   obtain ⟨c2,hc2⟩:=old k e1.symm
   exact hk2 ⟨_,List.mem_cons_of_mem _ List.mem_cons_self,c2,hc2⟩
theorem SBString (La:Lays.n169 P ρ) (X:Builder.Extra P ρ) {T:TypeId} {ds:List D} (m:Nat) (hm:7≠m) (l:List UInt8) (h0:l≠[]) :
  Fn P (ρ.f 169) [(7,.bld T (.own m l.length) (ds.map C.d)),(m,.row (ρ.t 5) 1 (bw l))] [vp 7 0] (vs ⟨l.toArray⟩) []:=by
 intro w H B vals pre
 obtain ⟨a,rfl,b,c,hb,rfl⟩:=args1 pre.arg
 obtain ⟨b', c', v,vr,hb', hw,hv,hr⟩:=bldW_of hm (pre.loc _ List.mem_cons_self) (pre.loc _ (List.mem_cons_of_mem _ List.mem_cons_self)) (fun b c c' h1 h2=>pre.inj _ List.mem_cons_self _ (List.mem_cons_of_mem _ List.mem_cons_self) b c c' h1 h2)
 rw [hb] at hb'
 injection hb' with hb'
 obtain ⟨rfl,rfl⟩:=Prod.mk.injEq .. ▸ hb'
 obtain ⟨p,h1,_⟩:=hw.blk
 have hl0:l.length≠0:=by simpa using h0
 have hown:=hw.own
 rw [Lib.byteCells_length] at hown
 rcases hown.2 with ⟨_,hz⟩ | ⟨g,cap,cur,rfl,_,g1,g2,g3,g4,g5⟩
 ·exact absurd hz hl0
 obtain ⟨c8,h8⟩:∃ c8,B m=some (g,c8):=by
  cases hB:B m with
  | none=>rw [hB] at hv;cases hv
  | some q =>
   rw [hB] at hv
   obtain ⟨q1,q2⟩:=q
   have e1:g=q1:=by simpa [Value.ownBlock] using hv
   exact ⟨q2,by rw [e1]⟩
 obtain ⟨_,p82⟩:=pre.priv _ (List.mem_cons_of_mem _ List.mem_cons_self) g c8 h8
 refine (strx La X h1 g1 h0 g2 g3 (by simpa using g4) (by simpa using g5)).mono ?_
 rintro en w' ⟨rfl,rfl⟩
 obtain ⟨f1,f2,f3,f4,hk⟩:=frz w.drew g l.length
 refine ⟨_,H,B,rfl,Le.refl _,fun _ _=>rfl,fun k o hko=>?_,fun _ h=>(by cases h),fun _ h=>(by cases h),fun _ h=>(by cases h),fun _ _=>rfl,DR.raw _ rfl,f1,f2,f3,Nat.le_of_eq f4.symm,fun k _ hk2=>hk k ?_⟩
 ·rw [hk k ?_];exact pre.sat k o hko
  rintro rfl;rw [p82] at hko;cases hko
 ·rintro rfl;exact hk2 ⟨_,List.mem_cons_of_mem _ List.mem_cons_self,c8,h8⟩
end
section
variable {P:Program}
theorem St.nilOB {e:E} {f:F} {a:Act} {w:World} (h:St e f a w) (m n es:Nat) (ty T:TypeId) {rest:List C} (hv:f.l m=some (.bld T (.d (.raw za4)) rest)) (hn:New e.K f n):St e ((f.setL n (.row ty es [])).setL m (.bld T (.own n 0) rest)) a w:=by
 obtain ⟨H,B,hok⟩:=h
 have hmn:m≠n:=fun e=>by have:=hn.2.1;rw [← e,hv] at this;cases this
 refine ⟨H,_,(hok.nilName n es ty hn).setL m (.bld T (.d (.raw za4)) rest) _ (by simp [F.setL,hmn,hv]) fun hu=>?_⟩
 obtain ⟨b,c,v1,v2,vr,hb,hc,h1,h0,h2,h3⟩:=hu
 refine ⟨b,c,v1,v2,vr,hb,hc,h1,h0,?_,h3⟩
 have:=VR.rawI (H:=H) (B:=fun x=>if x=n then none else B x) h2
 subst this
 simp [CR,za4]
end
end
section
open Go.RowKit Go.Shelf
section
variable {P:Program} {ρ:Ren}
theorem append_frc {w:World} {el xt ty:TypeId} {i:TypeInfo} {z:Value} (hu:P.underlying xt=some (.slice el)) (hi:P.info? el=some i) (hz:i.zero=some z) (hsz:i.size=1) (hby:i.bytes=1)
  {v:Value} {n:Nat} {xs:List Value} (hown:w.ownsRow 0 el 1 v n xs) {a:Addr} {c:Nat} {news:List Value} (hl:news.length=1) (hnews:∀ j u,news[j]?=some u→w.cell? (a.add j)=some u) (h1:∀ u ∈ news,u.oneCell'=true)
  (hb:n+1≤140737488355328) (hc0:CapOk v) {v':Value} {w':World} (hr:(Builtin.append_ #[xt,xt] ty #[v,.slice (some a) 1 c]).run P w = .ok v' w'):(∀ g,v'.ownBlock=some g→v.ownBlock=some g∨w.heap.size≤g)∧CapOk v':=by
 have hl':news.length=1*i.size:=by rw [hsz];exact hl
 rcases hown.2 with ⟨rfl,rfl⟩ | ⟨g2,cap,cur,rfl,_,hg2,hnc,hcm,hcs,htake⟩
 ·have h2:=run_append_nil (P:=P) w xt ty el i z hu hi hz a 1 c news hl' hnews (by decide) (by omega) (by omega)
  rw [h2] at hr
  injection hr with hr _
  subst hr
  exact ⟨fun g hg=>by simp [Value.ownBlock] at hg;exact .inr (by omega),.inr ⟨_,_,_,rfl,by have:=grownCap_ge w 1 0 el;omega⟩⟩
 ·by_cases hroom:n+1≤cap
  ·have h2:=run_append_room (P:=P) w xt ty el i hu hi g2 n cap cur hg2 a 1 c news hl' hnews h1 hroom (by rw [hsz,hl,hcs];omega)
   rw [h2] at hr
   injection hr with hr _
   subst hr
   exact ⟨fun g hg => .inl hg,.inr ⟨_,_,_,rfl,by omega⟩⟩
  ·have holds:∀ j u,xs[j]?=some u→w.cell? ((⟨g2,0,none⟩:Addr).add j)=some u:=hown.cells (g:=g2) rfl
   have h2:=run_append_grow (P:=P) w xt ty el i z hu hi hz ⟨g2,0,none⟩ n cap xs (by rw [hsz];exact hown.1) holds a 1 c news hl' hnews (by omega) (by omega) (growslice_fits (by omega) (by rw [hby];omega))
   rw [h2] at hr
   injection hr with hr _
   subst hr
   exact ⟨fun g hg=>by simp [Value.ownBlock] at hg;exact .inr (by omega),.inr ⟨_,_,_,rfl,by have:=grownCap_ge w (n+1) cap el;omega⟩⟩
theorem zcb {ops:Array Oper} {rest:List Oper} {o:Oper} {a:Act} {w:World} {Q:Exit→Act→World→Prop} (hgd:o.guard=none) (s x:Operand) (t:TypeId)
  (ho:o.op = .call { callee:=.builtin .append,args:=#[s,x],argTypes:=#[t,t] })
  (e:TypeId) (i:TypeInfo) (z:Value) (ht:P.underlying t=some (.slice e)) (hi:P.info? e=some i) (hz:i.zero=some z) (hsize:i.size=1) (hby:i.bytes=1)
  (v:Value) (n:Nat) (xs:List Value) (hs:a.eval s=v) (hown:w.ownsRow 0 e 1 v n xs) (ad:Addr) (c:Nat) (news:List Value) (hx:a.eval x = .slice (some ad) 1 c) (hl:news.length=1) (hnews:∀ j u,news[j]?=some u→w.cell? (ad.add j)=some u) (h1:∀ u ∈ news,u.oneCell'=true) (hzs:z.cells.size=1)
  (hb:n+1≤140737488355328) (hc0:CapOk v)
  (h:∀ v' w', w'.ownsRow 0 e 1 v' (n+1) (xs++news)→w.grownBy w' v.ownBlock→(∀ g,v'.ownBlock=some g→v.ownBlock=some g∨w.heap.size≤g)→CapOk v'→wpList P ops Q rest (a.put o.dst v') w'):wpList P ops Q (o :: rest) a w:=by
 refine wpList_plain hgd fun K hK=>?_
 obtain ⟨v', w', hr,h2,h3,_⟩:=run_append_own (P:=P) w 0 t o.type e i z 1 1 ht hi hz hsize hby hzs (by decide) v n xs hown ad 1 c news (by simpa using hl) hnews h1 (by unfold maxLen;omega) (by omega) (Nat.zero_le _)
 have hf:=append_frc ht hi hz hsize hby hown hl hnews h1 hb hc0 hr
 unfold Oper.wp execOp
 simp only [ho,resolve,invoke,builtin,Sem.run_bind,Sem.run_pure,Result.andThen_ok,List.map_toArray,List.map_cons,List.map_nil,hs,hx,hr]
 exact hK _ _ (h v' w' h2 h3 hf.1 hf.2)
end
section
variable {P:Program} {ρ:Ren}
set_option maxHeartbeats 1000000 in
theorem CcOk.at_ (L:Lays.n240 P ρ) (X:Builder.X72 P ρ) {T:TypeId} {k:Nat} (hk:0<k) (hl:liesAt P P.depth T (k / P.cellsOf T) 0 (ρ.t 72) 1=true):CcOk P ρ T k:=by
 intro b w h0 hsh hfz
 obtain ⟨j,hj,hjs⟩:=Option.map_eq_some_iff.1 X.sizeBuilder
 have mixed:=L.mixed
 have t72:=L.t72;have a72:=L.a72;have z72:=L.z72;have v72:=L.v72;have u72:=run_underlying L.t72
 have t70:=L.t70;have a70:=L.a70;have z70:=L.z70;have v70:=L.v70;have u70:=run_underlying L.t70
 have t9:=L.t9;have a9:=L.a9;have z9:=L.z9;have v9:=L.v9;have u9:=run_underlying L.t9
 have t4:=L.t4;have a4:=L.a4;have z4:=L.z4;have v4:=L.v4;have u4:=run_underlying L.t4
 have t164:=L.t164;have a164:=L.a164;have z164:=L.z164;have v164:=L.v164;have u164:=run_underlying L.t164
 go_enter L.f240,Body.n240_ntmps ρ
 go_wp2
 rw [Lib.run_to_unsafe w ⟨b,0,none⟩ L.t70 L.t164 hj (by rw [hjs];decide) hsh hk]
 simp only [Result.andThen]
 rw [Oper.upon_value]
 go_wp2
 rw [run_callFunc_extern L.f276 (by kernel_rfl) (by kernel_rfl) (by kernel_rfl) (e:=Extern.AbiNoEscape.same) (by kernel_rfl)]
 rw [Lib.run_noEscape]
 simp only [Result.andThen]
 rw [Oper.upon_value]
 go_wp2
 rw [Lib.run_from_unsafe w ⟨b,0,none⟩ L.t164 L.t70 hj hsh hl]
 simp only [Result.andThen]
 rw [Oper.upon_value]
 go_wp2
 go_end0
 exact ⟨rfl,rfl⟩
def Grown (ρ:Ren) (T:TypeId) (b:Nat) (v:Value) (vr:List Value) (l':List UInt8) (w w':World):Prop :=
  ∃ v', BldW T (ρ.t 5) b v' vr (Lib.byteCells l') w'∧(∀ g,v'.ownBlock=some g→v.ownBlock=some g∨w.heap.size≤g) ∧
      (∀ k,k<w.heap.size→k≠b→some k≠v.ownBlock→w'.heap[k]?=w.heap[k]?)∧w'.os=w.os∧w'.tape=w.tape∧w'.output=w.output∧w.heap.size≤w'.heap.size
set_option maxHeartbeats 2000000 in
/-- WriteByte: the byte comes behind, and nothing else turns -/
theorem wbx (L:Lays.n167 P ρ) (X:Builder.Extra P ρ) {T:TypeId} {b:Nat} {v:Value} {vr:List Value} {l:List UInt8} {w:World} (hcc:CcOk P ρ T (vr.length+2)) (h:BldW T (ρ.t 5) b v vr (Lib.byteCells l) w) (c:UInt8) (hlen:l.length+1≤140737488355328) :
  Calls P (ρ.f 167) #[.pointer (some ⟨b,0,none⟩),.int .u8 c.toNat] w fun e w'=>e = .returned .nilIface∧Grown ρ T b v vr (l++[c]) w w':=by
 obtain ⟨i0,hi,hz0,hz1,hz2⟩:=info_parts X.infoByte
 have mixed:=L.mixed
 have t72:=L.t72;have a72:=L.a72;have z72:=L.z72;have v72:=L.v72;have u72:=run_underlying L.t72
 have t70:=L.t70;have a70:=L.a70;have z70:=L.z70;have v70:=L.v70;have u70:=run_underlying L.t70
 have t5:=L.t5;have a5:=L.a5;have z5:=L.z5;have v5:=L.v5;have u5:=run_underlying L.t5
 have t37:=L.t37;have a37:=L.a37;have z37:=L.z37;have v37:=L.v37;have u37:=run_underlying L.t37
 have t9:=L.t9;have a9:=L.a9;have z9:=L.z9;have v9:=L.v9;have u9:=run_underlying L.t9
 have t4:=L.t4;have a4:=L.a4;have z4:=L.z4;have v4:=L.v4;have u4:=run_underlying L.t4
 have t164:=L.t164;have a164:=L.a164;have z164:=L.z164;have v164:=L.v164;have u164:=run_underlying L.t164
 have e240:∀ args w,(callFunc (ρ.f 240) args).run P w = .ok (.enter (ρ.f 240) args) w:=enters_of L.f240 (by kernel_rfl) rfl
 have hltb:b<w.heap.size:=by obtain ⟨p,h1,_⟩:=h.blk;exact (Array.getElem?_eq_some_iff.1 h1).1
 have hne:=h.ne
 have hcap0:=h.cap
 have hxl:(Lib.byteCells l).length=l.length:=Lib.byteCells_length l
 go_enter L.f167,Body.n167_ntmps ρ
 go_wp2_with (go_at_fn (ρ.f 240);refine (ccx { L with } X.toX72 hcc h).mono ?_)
 rintro e w1 ⟨rfl,hbk,hown,k1,k2,k3,k4,k5⟩
 have c0:w1.cell? ⟨b,0,none⟩=some (.pointer (some ⟨b,0,none⟩)):=by rw [Lib.cell_of_heap hbk];rfl
 have c1:w1.cell? ⟨b,1,none⟩=some v:=by rw [Lib.cell_of_heap hbk];rfl
 have hlt:b<w1.heap.size:=by omega
 go_wp2_with (at_builtin;refine zcb rfl _ _ (ρ.t 37) rfl (ρ.t 5) i0 (.int .u8 0) L.t37 hi hz0 hz1 hz2 v _ _ rfl (hown.alloc _) ⟨w.heap.size,0,none⟩ 1 [.int .u8 c.toNat] rfl rfl ?c1 ?c2 rfl ?c4 hcap0 ?_)
 case c1 =>
  intro j u hj
  match j,hj with
  | 0,hj=>simp at hj;subst hj;rw [← k5];simp [Addr.add]
 case c2=>intro u hu;simp at hu;subst hu;rfl
 case c4=>omega
 intro v' w2 hown' hgrow hfr hcap'
 have hb2:w2.heap[b]?=some (.cells ⟨.pointer (some ⟨b,0,none⟩) :: v :: vr⟩ T (0,0)):=by
  rw [hgrow.block b (by simp;omega) (fun e=>hne e.symm),Lib.alloc_old w1 _ b hlt]
  exact hbk
 have d0:w2.cell? ⟨b,0,none⟩=some (.pointer (some ⟨b,0,none⟩)):=by rw [Lib.cell_of_heap hb2];rfl
 have d1:w2.cell? ⟨b,1,none⟩=some v:=by rw [Lib.cell_of_heap hb2];rfl
 have f1:w2.frozen? ⟨b,1,none⟩=false:=Lib.frozen_of_heap hb2 1
 have hne':v'.ownBlock≠some b:=fun e=>by
  rcases hfr b e with h1 | h1
  ·exact hne h1
  ·(try simp at h1);omega
 obtain ⟨ao,n', cap,rfl⟩:∃ ao n' cap,v' = .slice ao n' cap:=by
  rcases hown'.2 with ⟨hv,_⟩ | ⟨g,cap,cur,hv,_⟩
  ·exact ⟨_,_,_,hv⟩
  ·exact ⟨_,_,_,hv⟩
 have eqc:Lib.byteCells (l++[c])=Lib.byteCells l++[.int .u8 c.toNat]:=by simp [Lib.byteCells]
 go_wp2
 go_ret
 refine ⟨rfl,_,⟨⟨_,by simp [World.setCell,Array.getElem?_modify,hb2],.inr rfl⟩,?_,hne', hcap'⟩,fun g hg=>(hfr g hg).imp id fun h=>by (try simp at h);omega,fun k h1 h2 h3=>?_,?_,?_,?_,?_⟩
 ·rw [eqc];exact zcd (by rw [List.length_append,List.length_singleton,hxl];exact hown') hne' _
 ·rw [Below.heap_setCell _ _ _ k h2,hgrow.block k (by simp;omega) h3,Lib.alloc_old w1 _ k (by omega),k1 k h2]
 ·exact hgrow.os.trans k2
 ·exact hgrow.tape.trans k3
 ·exact hgrow.output.trans k4
 ·have:=hgrow.size;simp [World.setCell] at this ⊢;omega
theorem SBGrow {k:FuncId} {T:TypeId} {ds:List D} (m m2:Nat) (hm:7≠m) (h27:m2≠7) (h2m:m2≠m) (l l':List UInt8) {x r:Value} {res:V} (hres:∀ H B,VR H B res r)
  (hc:∀ (b:Nat) (v:Value) (vr:List Value) (w:World),vr.length=ds.length→BldW T (ρ.t 5) b v vr (Lib.byteCells l) w→Calls P k #[.pointer (some ⟨b,0,none⟩),x] w fun e w'=>e = .returned r∧Grown ρ T b v vr l' w w') :
  Fn P k [(7,.bld T (.own m l.length) (ds.map C.d)),(m,.row (ρ.t 5) 1 (bw l))] [vp 7 0,.t (.c (.d (.raw x)))] res [(7,.bld T (.own m2 l'.length) (ds.map C.d)),(m2,.row (ρ.t 5) 1 (bw l'))]:=by
 intro w H B vals pre
 obtain ⟨a1,a2,rfl,⟨b,c,hb,rfl⟩,h2⟩:=args2 pre.arg
 have h2:=VR.rawI h2
 subst h2
 have hi:∀ b c c', B 7=some (b,c)→B m=some (b,c')→7=m:=fun b c c' h1 h2=>pre.inj _ List.mem_cons_self _ (List.mem_cons_of_mem _ List.mem_cons_self) b c c' h1 h2
 obtain ⟨b', c', v,vr,hb', hw,hv,hr⟩:=bldW_of hm (pre.loc _ List.mem_cons_self) (pre.loc _ (List.mem_cons_of_mem _ List.mem_cons_self)) hi
 rw [hb] at hb'
 injection hb' with hb'
 obtain ⟨rfl,rfl⟩:=Prod.mk.injEq .. ▸ hb'
 obtain ⟨p71,p72⟩:=pre.priv _ List.mem_cons_self b c hb
 refine (hc b v vr w hr.length.symm hw).mono ?_
 rintro en w' ⟨rfl,v', hw', hfr,hk,k1,k2,k3,k4⟩
 have hHs:∀ g,w.heap.size≤g→H g=none:=fun g hg=>by
  cases hx:H g with
  | none=>rfl
  | some o=>have:=(Array.getElem?_eq_some_iff.1 (pre.sat g o hx)).1;omega
 have old:∀ g,v.ownBlock=some g→∃ c,B m=some (g,c):=fun g hg=>by
  rw [hv] at hg
  cases hB:B m with
  | none=>rw [hB] at hg;cases hg
  | some q=>rw [hB] at hg;injection hg with hg;subst hg;exact ⟨q.2,rfl⟩
 have rowOwn:∀ g c,zce v'=some (g,c)→v'.ownBlock=some g:=fun g c hg=>by
  cases v' <;> first | (simp [zce] at hg;done) | skip
  rename_i ao k cc
  cases ao with
  | none=>simp [zce] at hg
  | some a=>simp [zce] at hg;simp [Value.ownBlock,hg.1]
 have lt':∀ g,v'.ownBlock=some g→g<w'.heap.size:=fun g hg=>by
  rcases hw'.own.2 with ⟨h1,_⟩ | ⟨g2,cap,cur,h1,_,h3,_⟩
  ·rw [h1] at hg;cases hg
  ·rw [h1] at hg;injection hg with hg;subst hg;exact (Array.getElem?_eq_some_iff.1 h3).1
 have hB7:(fun x=>if x=m2 then zce v' else B x) 7=some (b,c):=by show (if 7=m2 then _ else _)=_;rw [if_neg (Ne.symm h27)];exact hb
 obtain ⟨l7,l9⟩:=bldW_to (H:=H) (B:=fun x=>if x=m2 then zce v' else B x) (n:=7) (m:=m2) hB7 (by simp) hr hw'
 refine ⟨_,H,fun x=>if x=m2 then zce v' else B x,rfl,Le.refl _,fun _ _=>rfl,?_,?_,?_,?_,?_,?_,?_⟩
 ·intro k o hko
  have h1:=pre.sat k o hko
  rw [hk k (Array.getElem?_eq_some_iff.1 h1).1 ?_ ?_];exact h1
  ·rintro rfl;rw [p72] at hko;cases hko
  ·intro e1
   obtain ⟨c2,hc2⟩:=old k e1.symm
   have:=(pre.priv _ (List.mem_cons_of_mem _ List.mem_cons_self) k c2 hc2).2
   rw [this] at hko;cases hko
 ·intro p hp
  rcases List.mem_cons.1 hp with rfl | hp
  ·exact l7
  ·rw [List.mem_singleton.1 hp];exact l9
 ·intro p hp g c2 hg
  rcases List.mem_cons.1 hp with rfl | hp
  ·have hg':B 7=some (g,c2):=by have hg:(if 7=m2 then zce v' else B 7)=some (g,c2):=hg;rwa [if_neg (Ne.symm h27)] at hg
   rw [hb] at hg'
   injection hg' with hg'
   obtain ⟨rfl,rfl⟩:=Prod.mk.injEq .. ▸ hg'
   exact ⟨by omega,p72,.inl ⟨_,List.mem_cons_self,_,hb⟩⟩
  ·rw [List.mem_singleton.1 hp] at hg
   have hg:(if m2=m2 then zce v' else B m2)=some (g,c2):=hg
   rw [if_pos rfl] at hg
   have hg2:=rowOwn g c2 hg
   refine ⟨lt' g hg2,?_,?_⟩
   ·rcases hfr g hg2 with h1 | h1
    ·obtain ⟨c3,hc3⟩:=old g h1
     exact (pre.priv _ (List.mem_cons_of_mem _ List.mem_cons_self) g c3 hc3).2
    ·exact hHs g h1
   ·rcases hfr g hg2 with h1 | h1
    ·obtain ⟨c3,hc3⟩:=old g h1
     exact .inl ⟨_,List.mem_cons_of_mem _ List.mem_cons_self,c3,hc3⟩
    ·exact .inr h1
 ·have key:∀ g c1 c2,B 7=some (g,c1)→zce v'=some (g,c2)→False:=fun g c1 c2 h1 h2=>by
   rw [hb] at h1
   injection h1 with h1
   obtain ⟨rfl,rfl⟩:=Prod.mk.injEq .. ▸ h1
   exact hw'.ne (rowOwn _ _ h2)
  intro p hp q hq g c1 c2 h1 h2
  rcases List.mem_cons.1 hp with rfl | hp <;> rcases List.mem_cons.1 hq with rfl | hq
  ·rfl
  ·rw [List.mem_singleton.1 hq] at h2;have h1:(if 7=m2 then zce v' else B 7)=some (g,c1):=h1;have h2:(if m2=m2 then zce v' else B m2)=some (g,c2):=h2;rw [if_neg (Ne.symm h27)] at h1;rw [if_pos rfl] at h2;exact (key g c1 c2 h1 h2).elim
  ·rw [List.mem_singleton.1 hp] at h1;have h1:(if m2=m2 then zce v' else B m2)=some (g,c1):=h1;have h2:(if 7=m2 then zce v' else B 7)=some (g,c2):=h2;rw [if_neg (Ne.symm h27)] at h2;rw [if_pos rfl] at h1;exact (key g c2 c1 h2 h1).elim
  ·rw [List.mem_singleton.1 hp,List.mem_singleton.1 hq]
 ·intro n hn
  have:n≠m2:=by
   rcases hn with hn | hn
   ·rintro rfl;simp at hn;exact hn.elim h27 h2m
   ·rintro rfl;simp at hn
  show (if n=m2 then _ else _)=_
  rw [if_neg this]
 ·exact hres H _
 ·refine ⟨k1,k2,k3,k4,fun k hk1 hk2=>hk k hk1 ?_ ?_⟩
  ·rintro rfl;exact hk2 ⟨_,List.mem_cons_self,_,hb⟩
  ·intro e1
   obtain ⟨c2,hc2⟩:=old k e1.symm
   exact hk2 ⟨_,List.mem_cons_of_mem _ List.mem_cons_self,c2,hc2⟩
theorem SBByte (La:Lays.n167 P ρ) (X:Builder.Extra P ρ) {T:TypeId} {ds:List D} (hcc:CcOk P ρ T (ds.length+2)) (m m2:Nat) (hm:7≠m) (h27:m2≠7) (h2m:m2≠m) (l:List UInt8) (c:UInt8) (hs:l.length+1≤140737488355328) :
  Fn P (ρ.f 167) [(7,.bld T (.own m l.length) (ds.map C.d)),(m,.row (ρ.t 5) 1 (bw l))] [vp 7 0,vi .u8 (c.toNat:Int)] (.t (.c (.d (.raw .nilIface)))) [(7,.bld T (.own m2 (l++[c]).length) (ds.map C.d)),(m2,.row (ρ.t 5) 1 (bw (l++[c])))] :=
 SBGrow m m2 hm h27 h2m l (l++[c]) (fun _ _=>DR.raw _ rfl) fun b v vr w hl h=>wbx La X (by rw [hl];exact hcc) h c hs
end
section
variable {P:Program}
theorem Op.nilP {d t n o:Nat} {ty:TypeId} {pos af gd}:zan P ⟨some d,.nilCheck (.tmp t),ty,pos,af,gd⟩ { rs:=[(t,vp n o)],ws:=[(d,some (vp n o))] } :=
 zan.value d _ rfl rfl rfl fun e f H B a w hok hr=>by
  obtain ⟨b,c,hb,hu⟩:=(hok.slot t _ (hr.1 (t,vp n o) (by simp))).ptrI
  refine ⟨.pointer (some ⟨b,o,none⟩),?_,⟨b,c,hb,rfl⟩⟩
  have h5:a.eval (.tmp t) = .pointer (some ⟨b,o,none⟩):=hu
  generalize a.eval=ρ at h5 ⊢
  simp only [execOp,h5,Sem.run_pure]
theorem bld_cells {e:E} {f:F} {H:Im} {B:Bl} {a:Act} {w:World} (hok:Ok e f H B a w) {n:Nat} {T:TypeId} {c0:C} {rest:List C} (h:f.l n=some (.bld T c0 rest)) {b c:Nat} (hb:B n=some (b,c)) :
  ∃ v1 v2 vr,w.heap[b]?=some (.cells ⟨v1 :: v2 :: vr⟩ T (0,0))∧(v1 = .pointer none∨v1 = .pointer (some ⟨b,0,none⟩))∧(v2 = .slice none 0 0∨∃ g n c,v2 = .slice (some ⟨g,0,none⟩) n c∧0<c)∧CR H B c0 v2∧zag (CR H B) rest vr:=by
 obtain ⟨b', c', v1,v2,vr,hb', hc,h1,h2,h3,h4⟩:=hok.loc n _ h
 rw [hb] at hb'
 injection hb' with hb'
 obtain ⟨rfl,rfl⟩:=Prod.mk.injEq .. ▸ hb'
 exact ⟨v1,v2,vr,hc,h1,h2,h3,h4⟩
theorem Op.loadB_agg {d t n o m:Nat} {T:TypeId} {c0:C} {rest xs:List C} {xt ty:TypeId} {pos af gd} (hs:Sz P xt m true) (h:(rest.drop o).take m=xs) (hm:xs.length=m):zan P ⟨some d,.load xt (.tmp t),ty,pos,af,gd⟩ { rs:=[(t,vp n (o+2))],rl:=[(n,.bld T c0 rest)],ws:=[(d,some (.t (.agg xs)))] } :=
 zan.value d _ rfl rfl rfl fun e f H B a w hok hr=>by
  obtain ⟨b,c,hb,hu⟩:=(hok.slot t _ (hr.1 (t,vp n (o+2)) (by simp))).ptrI
  obtain ⟨v1,v2,vr,hc,_,_,_,h2⟩:=bld_cells hok (hr.2 (n,.bld T c0 rest) (by simp)) hb
  have h3:zag (CR H B) xs ((vr.drop o).take m):=by rw [← h];exact (h2.drop o).take m
  refine ⟨.agg ((vr.drop o).take m).toArray,?_,⟨_,rfl,h3⟩⟩
  have h5:a.eval (.tmp t) = .pointer (some ⟨b,o+2,none⟩):=hu
  generalize a.eval=ρ at h5 ⊢
  have h6:=zbh (P:=P) hs (w:=w) (b:=b) (o:=o+2) (cs:=(vr.drop o).take m) (by rw [← h3.length,hm]) (fun j v hv=>by
   refine zbj hc ?_
   rw [List.getElem?_take] at hv
   split at hv
   ·rw [List.getElem?_drop] at hv;rw [show o+2+j=(o+j)+1+1 by omega];exact hv
   ·cases hv)
  simp only [execOp,h5,Instr.loadAt,Instr.sureAddr,Sem.run_bind,Sem.run_pure,Result.andThen_ok,h6]
theorem Op.loadB_c {d t n o m:Nat} {T:TypeId} {c0:C} {rest:List C} {x:C} {xt ty:TypeId} {pos af gd} (hs:Sz P xt m false) (h:rest[o]?=some x):zan P ⟨some d,.load xt (.tmp t),ty,pos,af,gd⟩ { rs:=[(t,vp n (o+2))],rl:=[(n,.bld T c0 rest)],ws:=[(d,some (.t (.c x)))] } :=
 zan.value d _ rfl rfl rfl fun e f H B a w hok hr=>by
  obtain ⟨b,c,hb,hu⟩:=(hok.slot t _ (hr.1 (t,vp n (o+2)) (by simp))).ptrI
  obtain ⟨v1,v2,vr,hc,_,_,_,h2⟩:=bld_cells hok (hr.2 (n,.bld T c0 rest) (by simp)) hb
  obtain ⟨ho,rfl⟩:=List.getElem?_eq_some_iff.1 h
  obtain ⟨v,h3,h4⟩:=h2.get o ho
  refine ⟨v,?_,h4⟩
  have h5:a.eval (.tmp t) = .pointer (some ⟨b,o+2,none⟩):=hu
  generalize a.eval=ρ at h5 ⊢
  have h6:=zc1 (P:=P) hs (zbj hc (o:=o+2) (v:=v) (by exact h3))
  simp only [execOp,h5,Instr.loadAt,Instr.sureAddr,Sem.run_bind,Sem.run_pure,Result.andThen_ok,h6]
theorem Op.storeB {t n o:Nat} {T:TypeId} {c0:C} {rest rest':List C} {x:Operand} {y:C} {rs:List (Nat × V)} {xt ty:TypeId} {pos af gd} (hs:Sz P xt 1 false) (h:OV x (.t (.c y)) rs) (ho:Nat.ble (o+1) rest.length=true) (hc':rest.set o y=rest') :
  zan P ⟨none,.store xt (.tmp t) x,ty,pos,af,gd⟩ { rs:=(t,vp n (o+2)) :: rs,rl:=[(n,.bld T c0 rest)],wl:=[(n,some (.bld T c0 rest'))] }:=by
 rintro e f a w Q ⟨H,B,hok⟩ hr hnw hb0
 obtain ⟨b,c,hb,hu⟩:=(hok.slot t _ (hr.1 (t,vp n (o+2)) (by simp))).ptrI
 have hfl:=hr.2 (n,.bld T c0 rest) (by simp)
 obtain ⟨v1,v2,vr,hcl,g1,g2,g3,h2⟩:=bld_cells hok hfl hb
 have hv:=h.eval hok (fun p hp=>hr.1 p (by simp [hp]))
 obtain ⟨l,h3,h4⟩:=TR.cells (H:=H) (B:=B) (x:=.c y) hv
 have h4':zag (CR H B) [y] l:=h4
 obtain ⟨u,rfl,hyu⟩:∃ u,l=[u]∧CR H B y u:=by
  match l,h4' with
  | [u],h=>exact ⟨u,rfl,h.1⟩
  | [],h=>exact h.elim
  | _ :: _ :: _,h=>exact h.2.elim
 have ho':o+1≤vr.length:=by rw [← h2.length];exact Nat.le_of_ble_eq_true ho
 have hrun:(storeVar xt ⟨b,o+2,none⟩ (a.eval x)).run P w = .ok () (w.setCells b (o+2) [u]):=by
  have hst:=run_storeCells_cells (P:=P) b (o+2) [u] 0 w (fun j hj=>by
    have hj0:j=0:=by simpa using hj
    subst hj0
    rw [zbj hcl (o:=o+2+0+0) (v:=vr[o]'(by omega)) (by exact List.getElem?_eq_getElem (l:=vr) (i:=o) (by omega))];rfl) (fun j hj=>by simp [World.frozen?, hcl]) (fun v hv=>by
    rw [List.mem_singleton.1 hv];exact zdc (CR.flat hyu))
  unfold storeVar
  simp only [Sem.run_bind,hs.sizeOf,Result.andThen_ok,h3,List.size_toArray,List.length_singleton,ne_eq,not_true_eq_false,if_false]
  simpa using hst
 obtain ⟨k1,k2,k3,k4,k5,k6⟩:=zbo [u] (o+2) w (v1 :: v2 :: vr) hcl
 have h5:a.eval (.tmp t) = .pointer (some ⟨b,o+2,none⟩):=hu
 unfold Oper.wp
 have hexec:(execOp a.eval ⟨none,.store xt (.tmp t) x,ty,pos,af,gd⟩).run P w = .ok .skip (w.setCells b (o+2) [u]):=by
  generalize hq:a.eval x=q at hrun
  generalize a.eval=ρ at h5 hq ⊢
  simp only [execOp,h5,hq,Instr.storeAt,Instr.sureAddr,Sem.run_bind,Sem.run_pure,Result.andThen_ok,hrun]
 rw [hexec,Oper.upon_skip]
 subst hc'
 refine St.put0 ⟨H,B,hok.write (g:=⟨f.s,fun m=>if m=n then some (.bld T c0 (rest.set o y)) else f.l m⟩) (l' := .bld T c0 (rest.set o y)) hfl hb (fun _=>rfl) (fun _=>rfl) k2 k3 k4 k5 k6 ⟨b,c,v1,v2,vr.set o u,hb,k1,g1,g2,g3,h2.set o hyu⟩⟩ rfl (app0_s _ _ rfl) (fun m=>app1_l f n _ _ rfl m)
theorem Op.boxB {d:Nat} (n m:Nat) (hnm:n≠m) (u8:TypeId) {x:Operand} {rest:List C} {ds:List D} {rs:List (Nat × V)} {T ty:TypeId} {pos af gd} (v:S.T) (h:OV x (.t v) rs) (hcv:cellsOf v=[.d (.raw (.pointer none)),.d (.raw za4)]++rest) (hd:rest=ds.map C.d) :
  zan P ⟨some d,.box T x,ty,pos,af,gd⟩ { rs:=rs,ws:=[(d,some (vp n 0))],wl:=[(n,some (.bld T (.own m 0) rest)),(m,some (.row u8 1 (bw [])))],nw:=[n,m] }:=by
 rintro e f a w Q hst hr hnw hb
 have hN:=hnw n (by simp)
 have hM:=hnw m (by simp)
 have h1:zan P ⟨some d,.box T x,ty,pos,af,gd⟩ { rs:=rs,ws:=[(d,some (vp n 0))],wl:=[(n,some (.bld T (.d (.raw za4)) rest))],nw:=[n] }:=by
  refine zan.news d n _ _ rfl rfl rfl (by simp) fun e f H B a w hok hr hn=>?_
  have hv:=h.eval hok hr.1
  obtain ⟨l,h1,h2⟩:=TR.cells hv
  have h2':zag (CR H B) ([.d (.raw (.pointer none)),.d (.raw za4)]++rest) l:=by rw [← hcv];exact h2
  obtain ⟨vr,rfl,h3⟩:∃ vr,l = .pointer none :: .slice none 0 0 :: vr∧zag (CR H B) rest vr:=by
   match l,h2' with
   | [],h=>exact h.elim
   | [_],h=>exact h.2.elim
   | a :: b :: vr,h =>
    have q1:=h.1;have q2:=h.2.1
    cases q1;cases q2
    exact ⟨vr,rfl,h.2.2⟩
  subst hd
  refine ⟨.pointer (some ⟨w.heap.size,0,none⟩),0,.cells ⟨.pointer none :: .slice none 0 0 :: vr⟩ T,?_,⟨w.heap.size,0,.pointer none,.slice none 0 0,vr,by simp,heap_alloc_new w _,.inl rfl,.inl rfl,DR.raw _ rfl,h3.tagsMono fun c hc=>?_⟩,⟨w.heap.size,0,by simp,rfl⟩⟩
  ·simp only [execOp,Instr.box,newVar,newRow,newObj,h1,Sem.run_bind,Sem.run_pure]
   rfl
  ·obtain ⟨z,_,rfl⟩:=List.mem_map.1 hc;simp [C.tags]
 refine Oper.wp_imp (h1 e f a w Q hst ⟨hr.1,fun p hp=>(by cases hp)⟩ (fun k hk=>by rw [List.mem_singleton.1 hk];exact hN) ⟨fun p hp=>hb.1 p hp,fun h=>by cases h⟩) fun a' w' h2=>?_
 have hM':New e.K (f.app { rs:=rs,ws:=[(d,some (vp n 0))],wl:=[(n,some (.bld T (.d (.raw za4)) rest))],nw:=[n] }) m:=by
  obtain ⟨g1,g2,g3,g4⟩:=hM
  refine ⟨g1,by rw [zco (by simpa using Ne.symm hnm)];exact g2,fun t v hv=>?_,fun k l hk=>?_⟩
  ·rw [zd5 f d (some (vp n 0)) _ rfl] at hv
   split at hv
   ·injection hv with hv;subst hv;intro hx;have hx:m ∈ [n]:=hx;exact hnm (List.mem_singleton.1 hx).symm
   ·exact g3 t v hv
  ·rw [app1_l f n _ _ rfl] at hk
   split at hk
   ·injection hk with hk;subst hk;subst hd;intro hx
    have hx:m ∈ ([]:List Nat)++(ds.map C.d).flatMap C.tags:=hx
    rw [List.nil_append,List.mem_flatMap] at hx
    obtain ⟨z,hz,hx⟩:=hx
    obtain ⟨y,_,rfl⟩:=List.mem_map.1 hz
    cases hx
   ·exact g4 k l hk
 refine (h2.nilOB n m 1 u8 T (rest:=rest) (by rw [app1_l f n _ _ rfl];simp) hM').weaken ⟨fun t v hv=>?_,fun k l hk=>?_⟩
 ·show (f.app _).s t=_
  rw [zd5 f d (some (vp n 0)) _ rfl] at hv ⊢
  exact hv
 ·simp only [F.app,List.lookup] at hk
  simp only [F.setL]
  by_cases e1:k=n
  ·subst e1;simpa using hk
  ·have g1:(k == n)=false:=by simpa using e1
   rw [g1] at hk
   rw [if_neg (by intro h;exact e1 (Nat.eq_of_beq_eq_true h))]
   by_cases e2:k=m
   ·subst e2;simpa [bw] using hk
   ·have g2:(k == m)=false:=by simpa using e2
    rw [g2] at hk
    rw [if_neg (by intro h;exact e2 (Nat.eq_of_beq_eq_true h)),app1_l f n _ _ rfl,if_neg e1]
    exact hk
end
end
def fam1tb:Tb:=[(22,⟨1,false,[],[.d (.raw za4)],1⟩),(9,⟨1,false,[],[.d (.raw (.string ByteArray.empty))],2⟩),(72,⟨1,false,[],[.d (.raw (.pointer none))],4⟩),(73,⟨1,false,[],[.d (.raw za4)],1⟩),(75,⟨2,true,[(0,1,false),(1,1,false)],[.d (.raw (.pointer none)),.d (.raw za4)],0⟩),(23,⟨1,false,[],[.d (.raw za4)],1⟩),(3,⟨1,false,[],[.d (.raw (.int .i64 0))],13⟩),(24,⟨1,false,[],[.d (.raw za4)],1⟩),(4,⟨1,false,[],[.d (.raw (.bool false))],3⟩),(26,⟨1,false,[],[.d (nsl [])],1⟩),(28,⟨2,true,[(0,1,false),(1,1,false)],[.d (.raw (.bool false)),.d (nsl [])],0⟩),(30,⟨3,true,[(0,1,false),(1,2,true)],[.d (.raw za4),.d (.raw (.bool false)),.d (nsl [])],0⟩),(32,⟨4,true,[(0,3,true),(3,1,false)],[.d (.raw za4),.d (.raw (.bool false)),.d (nsl []),.d (.raw (.bool false))],0⟩),(33,⟨1,false,[],[.d (.raw za4)],1⟩),(35,⟨6,true,[(0,1,false),(1,4,true),(5,1,false)],[.d (.raw (.int .i64 0)),.d (.raw za4),.d (.raw (.bool false)),.d (nsl []),.d (.raw (.bool false)),.d (.raw za4)],0⟩),(36,⟨1,false,[],[.d (.raw za4)],1⟩),(37,⟨1,false,[],[.d (.raw za4)],1⟩),(39,⟨10,true,[(0,1,false),(1,1,false),(2,6,true),(8,1,false),(9,1,false)],[.d (.raw za4),.d (.raw za4),.d (.raw (.int .i64 0)),.d (.raw za4),.d (.raw (.bool false)),.d (nsl []),.d (.raw (.bool false)),.d (.raw za4),.d (.raw za4),.d (.raw za4)],0⟩),(41,⟨1,false,[],[.d (.raw za4)],1⟩),(77,⟨14,true,[(0,2,true),(2,10,true),(12,1,false),(13,1,false)],[.d (.raw (.pointer none)),.d (.raw za4),.d (.raw za4),.d (.raw za4),.d (.raw (.int .i64 0)),.d (.raw za4),.d (.raw (.bool false)),.d (nsl []),.d (.raw (.bool false)),.d (.raw za4),.d (.raw za4),.d (.raw za4),.d (.raw za4),.d (.raw (.int .i64 0))],0⟩),(40,⟨1,false,[],[.d (.raw za4)],1⟩),(66,⟨1,false,[],[.d (.raw za4)],1⟩),(68,⟨2,true,[(0,1,false),(1,1,false)],[.d (.raw za4),.d (.raw za4)],0⟩),(43,⟨3,true,[(0,1,false),(1,1,false),(2,1,false)],[.d (.raw za4),.d (.raw za4),.d (.raw za4)],0⟩),(50,⟨7,true,[(0,1,false),(1,1,false),(2,3,true),(5,1,false),(6,1,false)],[.d (.raw (.int .i64 0)),.d (.raw (.string ByteArray.empty)),.d (.raw za4),.d (.raw za4),.d (.raw za4),.d (.raw (.int .i64 0)),.d (.raw (.int .i64 0))],0⟩),(45,⟨2,true,[(0,1,false),(1,1,false)],[.d (.raw (.int .i64 0)),.d (.raw (.int .i64 0))],0⟩)]
theorem zac:TbOk Tryd.prog fam1tb:=⟨zau.slc Tryd.underlying22 (by kernel_rfl) ⟨(.slice none 0 0:Value),[.slice none 0 0],by kernel_rfl,rfl,(fun _ _=>⟨DR.raw _ rfl,trivial⟩)⟩,
 zau.str Tryd.underlying9 (by kernel_rfl) ⟨(.string ByteArray.empty:Value),[.string ByteArray.empty],by kernel_rfl,rfl,(fun _ _=>⟨DR.raw _ rfl,trivial⟩)⟩,
 zau.fnc Tryd.underlying72 rfl (by kernel_rfl) ⟨(.pointer none:Value),[.pointer none],by kernel_rfl,rfl,(fun _ _=>⟨DR.raw _ rfl,trivial⟩)⟩,
 zau.slc Tryd.underlying73 (by kernel_rfl) ⟨(.slice none 0 0:Value),[.slice none 0 0],by kernel_rfl,rfl,(fun _ _=>⟨DR.raw _ rfl,trivial⟩)⟩,
 zau.st Tryd.underlying75 (by kernel_rfl) ⟨⟨by decide,Fd.mk' _ _ Tryd.underlying75 rfl rfl (Sz.mk' (by kernel_rfl) Tryd.underlying72 _ rfl)⟩,⟨by decide,Fd.mk' _ _ Tryd.underlying75 rfl rfl (Sz.mk' (by kernel_rfl) Tryd.underlying73 _ rfl)⟩,trivial⟩ ⟨(Value.agg #[.pointer none,.slice none 0 0]),[.pointer none,.slice none 0 0],by kernel_rfl,rfl,(fun _ _=>⟨DR.raw _ rfl,DR.raw _ rfl,trivial⟩)⟩ ⟨_,Tryd.underlying75,⟨⟨rfl,by kernel_rfl⟩,⟨rfl,by kernel_rfl⟩,trivial⟩⟩,
 zau.slc Tryd.underlying23 (by kernel_rfl) ⟨(.slice none 0 0:Value),[.slice none 0 0],by kernel_rfl,rfl,(fun _ _=>⟨DR.raw _ rfl,trivial⟩)⟩,
 zau.int Tryd.underlying3 rfl (by kernel_rfl) ⟨(.int .i64 0:Value),[.int .i64 0],by kernel_rfl,rfl,(fun _ _=>⟨DR.raw _ rfl,trivial⟩)⟩,
 zau.slc Tryd.underlying24 (by kernel_rfl) ⟨(.slice none 0 0:Value),[.slice none 0 0],by kernel_rfl,rfl,(fun _ _=>⟨DR.raw _ rfl,trivial⟩)⟩,
 zau.bl Tryd.underlying4 (by kernel_rfl) ⟨(.bool false:Value),[.bool false],by kernel_rfl,rfl,(fun _ _=>⟨DR.raw _ rfl,trivial⟩)⟩,
 zau.slc Tryd.underlying26 (by kernel_rfl) ⟨(.slice none 0 0:Value),[.slice none 0 0],by kernel_rfl,rfl,(fun _ _=>⟨DR.nil _ _ _ (fun _=>rfl) (Nat.zero_le _),trivial⟩)⟩,
 zau.st Tryd.underlying28 (by kernel_rfl) ⟨⟨by decide,Fd.mk' _ _ Tryd.underlying28 rfl rfl (Sz.mk' (by kernel_rfl) Tryd.underlying4 _ rfl)⟩,⟨by decide,Fd.mk' _ _ Tryd.underlying28 rfl rfl (Sz.mk' (by kernel_rfl) Tryd.underlying26 _ rfl)⟩,trivial⟩ ⟨(Value.agg #[.bool false,.slice none 0 0]),[.bool false,.slice none 0 0],by kernel_rfl,rfl,(fun _ _=>⟨DR.raw _ rfl,DR.nil _ _ _ (fun _=>rfl) (Nat.zero_le _),trivial⟩)⟩ ⟨_,Tryd.underlying28,⟨⟨rfl,by kernel_rfl⟩,⟨rfl,by kernel_rfl⟩,trivial⟩⟩,
 zau.st Tryd.underlying30 (by kernel_rfl) ⟨⟨by decide,Fd.mk' _ _ Tryd.underlying30 rfl rfl (Sz.mk' (by kernel_rfl) Tryd.underlying24 _ rfl)⟩,⟨by decide,Fd.mk' _ _ Tryd.underlying30 rfl rfl (Sz.mk' (by kernel_rfl) Tryd.underlying28 _ rfl)⟩,trivial⟩ ⟨(Value.agg #[.slice none 0 0,.bool false,.slice none 0 0]),[.slice none 0 0,.bool false,.slice none 0 0],by kernel_rfl,rfl,(fun _ _=>⟨DR.raw _ rfl,DR.raw _ rfl,DR.nil _ _ _ (fun _=>rfl) (Nat.zero_le _),trivial⟩)⟩ ⟨_,Tryd.underlying30,⟨⟨rfl,by kernel_rfl⟩,⟨rfl,by kernel_rfl⟩,trivial⟩⟩,
 zau.st Tryd.underlying32 (by kernel_rfl) ⟨⟨by decide,Fd.mk' _ _ Tryd.underlying32 rfl rfl (Sz.mk' (by kernel_rfl) Tryd.underlying30 _ rfl)⟩,⟨by decide,Fd.mk' _ _ Tryd.underlying32 rfl rfl (Sz.mk' (by kernel_rfl) Tryd.underlying4 _ rfl)⟩,trivial⟩ ⟨(Value.agg #[.slice none 0 0,.bool false,.slice none 0 0,.bool false]),[.slice none 0 0,.bool false,.slice none 0 0,.bool false],by kernel_rfl,rfl,(fun _ _=>⟨DR.raw _ rfl,DR.raw _ rfl,DR.nil _ _ _ (fun _=>rfl) (Nat.zero_le _),DR.raw _ rfl,trivial⟩)⟩ ⟨_,Tryd.underlying32,⟨⟨rfl,by kernel_rfl⟩,⟨rfl,by kernel_rfl⟩,trivial⟩⟩,
 zau.slc Tryd.underlying33 (by kernel_rfl) ⟨(.slice none 0 0:Value),[.slice none 0 0],by kernel_rfl,rfl,(fun _ _=>⟨DR.raw _ rfl,trivial⟩)⟩,
 zau.st Tryd.underlying35 (by kernel_rfl) ⟨⟨by decide,Fd.mk' _ _ Tryd.underlying35 rfl rfl (Sz.mk' (by kernel_rfl) Tryd.underlying3 _ rfl)⟩,⟨by decide,Fd.mk' _ _ Tryd.underlying35 rfl rfl (Sz.mk' (by kernel_rfl) Tryd.underlying32 _ rfl)⟩,⟨by decide,Fd.mk' _ _ Tryd.underlying35 rfl rfl (Sz.mk' (by kernel_rfl) Tryd.underlying33 _ rfl)⟩,trivial⟩ ⟨(Value.agg #[.int .i64 0,.slice none 0 0,.bool false,.slice none 0 0,.bool false,.slice none 0 0]),[.int .i64 0,.slice none 0 0,.bool false,.slice none 0 0,.bool false,.slice none 0 0],by kernel_rfl,rfl,(fun _ _=>⟨DR.raw _ rfl,DR.raw _ rfl,DR.raw _ rfl,DR.nil _ _ _ (fun _=>rfl) (Nat.zero_le _),DR.raw _ rfl,DR.raw _ rfl,trivial⟩)⟩ ⟨_,Tryd.underlying35,⟨⟨rfl,by kernel_rfl⟩,⟨rfl,by kernel_rfl⟩,⟨rfl,by kernel_rfl⟩,trivial⟩⟩,
 zau.slc Tryd.underlying36 (by kernel_rfl) ⟨(.slice none 0 0:Value),[.slice none 0 0],by kernel_rfl,rfl,(fun _ _=>⟨DR.raw _ rfl,trivial⟩)⟩,
 zau.slc Tryd.underlying37 (by kernel_rfl) ⟨(.slice none 0 0:Value),[.slice none 0 0],by kernel_rfl,rfl,(fun _ _=>⟨DR.raw _ rfl,trivial⟩)⟩,
 zau.st Tryd.underlying39 (by kernel_rfl) ⟨⟨by decide,Fd.mk' _ _ Tryd.underlying39 rfl rfl (Sz.mk' (by kernel_rfl) Tryd.underlying22 _ rfl)⟩,⟨by decide,Fd.mk' _ _ Tryd.underlying39 rfl rfl (Sz.mk' (by kernel_rfl) Tryd.underlying23 _ rfl)⟩,⟨by decide,Fd.mk' _ _ Tryd.underlying39 rfl rfl (Sz.mk' (by kernel_rfl) Tryd.underlying35 _ rfl)⟩,⟨by decide,Fd.mk' _ _ Tryd.underlying39 rfl rfl (Sz.mk' (by kernel_rfl) Tryd.underlying36 _ rfl)⟩,⟨by decide,Fd.mk' _ _ Tryd.underlying39 rfl rfl (Sz.mk' (by kernel_rfl) Tryd.underlying37 _ rfl)⟩,trivial⟩ ⟨(Value.agg #[.slice none 0 0,.slice none 0 0,.int .i64 0,.slice none 0 0,.bool false,.slice none 0 0,.bool false,.slice none 0 0,.slice none 0 0,.slice none 0 0]),[.slice none 0 0,.slice none 0 0,.int .i64 0,.slice none 0 0,.bool false,.slice none 0 0,.bool false,.slice none 0 0,.slice none 0 0,.slice none 0 0],by kernel_rfl,rfl,(fun _ _=>⟨DR.raw _ rfl,DR.raw _ rfl,DR.raw _ rfl,DR.raw _ rfl,DR.raw _ rfl,DR.nil _ _ _ (fun _=>rfl) (Nat.zero_le _),DR.raw _ rfl,DR.raw _ rfl,DR.raw _ rfl,DR.raw _ rfl,trivial⟩)⟩ ⟨_,Tryd.underlying39,⟨⟨rfl,by kernel_rfl⟩,⟨rfl,by kernel_rfl⟩,⟨rfl,by kernel_rfl⟩,⟨rfl,by kernel_rfl⟩,⟨rfl,by kernel_rfl⟩,trivial⟩⟩,
 zau.slc Tryd.underlying41 (by kernel_rfl) ⟨(.slice none 0 0:Value),[.slice none 0 0],by kernel_rfl,rfl,(fun _ _=>⟨DR.raw _ rfl,trivial⟩)⟩,
 zau.st Tryd.underlying77 (by kernel_rfl) ⟨⟨by decide,Fd.mk' _ _ Tryd.underlying77 rfl rfl (Sz.mk' (by kernel_rfl) Tryd.underlying75 _ rfl)⟩,⟨by decide,Fd.mk' _ _ Tryd.underlying77 rfl rfl (Sz.mk' (by kernel_rfl) Tryd.underlying39 _ rfl)⟩,⟨by decide,Fd.mk' _ _ Tryd.underlying77 rfl rfl (Sz.mk' (by kernel_rfl) Tryd.underlying41 _ rfl)⟩,⟨by decide,Fd.mk' _ _ Tryd.underlying77 rfl rfl (Sz.mk' (by kernel_rfl) Tryd.underlying3 _ rfl)⟩,trivial⟩ ⟨(Value.agg #[.pointer none,.slice none 0 0,.slice none 0 0,.slice none 0 0,.int .i64 0,.slice none 0 0,.bool false,.slice none 0 0,.bool false,.slice none 0 0,.slice none 0 0,.slice none 0 0,.slice none 0 0,.int .i64 0]),[.pointer none,.slice none 0 0,.slice none 0 0,.slice none 0 0,.int .i64 0,.slice none 0 0,.bool false,.slice none 0 0,.bool false,.slice none 0 0,.slice none 0 0,.slice none 0 0,.slice none 0 0,.int .i64 0],by kernel_rfl,rfl,(fun _ _=>⟨DR.raw _ rfl,DR.raw _ rfl,DR.raw _ rfl,DR.raw _ rfl,DR.raw _ rfl,DR.raw _ rfl,DR.raw _ rfl,DR.nil _ _ _ (fun _=>rfl) (Nat.zero_le _),DR.raw _ rfl,DR.raw _ rfl,DR.raw _ rfl,DR.raw _ rfl,DR.raw _ rfl,DR.raw _ rfl,trivial⟩)⟩ ⟨_,Tryd.underlying77,⟨⟨rfl,by kernel_rfl⟩,⟨rfl,by kernel_rfl⟩,⟨rfl,by kernel_rfl⟩,⟨rfl,by kernel_rfl⟩,trivial⟩⟩,
 zau.slc Tryd.underlying40 (by kernel_rfl) ⟨(.slice none 0 0:Value),[.slice none 0 0],by kernel_rfl,rfl,(fun _ _=>⟨DR.raw _ rfl,trivial⟩)⟩,
 zau.slc Tryd.underlying66 (by kernel_rfl) ⟨(.slice none 0 0:Value),[.slice none 0 0],by kernel_rfl,rfl,(fun _ _=>⟨DR.raw _ rfl,trivial⟩)⟩,
 zau.st Tryd.underlying68 (by kernel_rfl) ⟨⟨by decide,Fd.mk' _ _ Tryd.underlying68 rfl rfl (Sz.mk' (by kernel_rfl) Tryd.underlying41 _ rfl)⟩,⟨by decide,Fd.mk' _ _ Tryd.underlying68 rfl rfl (Sz.mk' (by kernel_rfl) Tryd.underlying66 _ rfl)⟩,trivial⟩ ⟨(Value.agg #[.slice none 0 0,.slice none 0 0]),[.slice none 0 0,.slice none 0 0],by kernel_rfl,rfl,(fun _ _=>⟨DR.raw _ rfl,DR.raw _ rfl,trivial⟩)⟩ ⟨_,Tryd.underlying68,⟨⟨rfl,by kernel_rfl⟩,⟨rfl,by kernel_rfl⟩,trivial⟩⟩,
 zau.st Tryd.underlying43 (by kernel_rfl) ⟨⟨by decide,Fd.mk' _ _ Tryd.underlying43 rfl rfl (Sz.mk' (by kernel_rfl) Tryd.underlying40 _ rfl)⟩,⟨by decide,Fd.mk' _ _ Tryd.underlying43 rfl rfl (Sz.mk' (by kernel_rfl) Tryd.underlying40 _ rfl)⟩,⟨by decide,Fd.mk' _ _ Tryd.underlying43 rfl rfl (Sz.mk' (by kernel_rfl) Tryd.underlying41 _ rfl)⟩,trivial⟩ ⟨(Value.agg #[.slice none 0 0,.slice none 0 0,.slice none 0 0]),[.slice none 0 0,.slice none 0 0,.slice none 0 0],by kernel_rfl,rfl,(fun _ _=>⟨DR.raw _ rfl,DR.raw _ rfl,DR.raw _ rfl,trivial⟩)⟩ ⟨_,Tryd.underlying43,⟨⟨rfl,by kernel_rfl⟩,⟨rfl,by kernel_rfl⟩,⟨rfl,by kernel_rfl⟩,trivial⟩⟩,
 zau.st Tryd.underlying50 (by kernel_rfl) ⟨⟨by decide,Fd.mk' _ _ Tryd.underlying50 rfl rfl (Sz.mk' (by kernel_rfl) Tryd.underlying3 _ rfl)⟩,⟨by decide,Fd.mk' _ _ Tryd.underlying50 rfl rfl (Sz.mk' (by kernel_rfl) Tryd.underlying9 _ rfl)⟩,⟨by decide,Fd.mk' _ _ Tryd.underlying50 rfl rfl (Sz.mk' (by kernel_rfl) Tryd.underlying43 _ rfl)⟩,⟨by decide,Fd.mk' _ _ Tryd.underlying50 rfl rfl (Sz.mk' (by kernel_rfl) Tryd.underlying3 _ rfl)⟩,⟨by decide,Fd.mk' _ _ Tryd.underlying50 rfl rfl (Sz.mk' (by kernel_rfl) Tryd.underlying3 _ rfl)⟩,trivial⟩ ⟨(Value.agg #[.int .i64 0,.string ByteArray.empty,.slice none 0 0,.slice none 0 0,.slice none 0 0,.int .i64 0,.int .i64 0]),[.int .i64 0,.string ByteArray.empty,.slice none 0 0,.slice none 0 0,.slice none 0 0,.int .i64 0,.int .i64 0],by kernel_rfl,rfl,(fun _ _=>⟨DR.raw _ rfl,DR.raw _ rfl,DR.raw _ rfl,DR.raw _ rfl,DR.raw _ rfl,DR.raw _ rfl,DR.raw _ rfl,trivial⟩)⟩ ⟨_,Tryd.underlying50,⟨⟨rfl,by kernel_rfl⟩,⟨rfl,by kernel_rfl⟩,⟨rfl,by kernel_rfl⟩,⟨rfl,by kernel_rfl⟩,⟨rfl,by kernel_rfl⟩,trivial⟩⟩,
 zau.st Tryd.underlying45 (by kernel_rfl) ⟨⟨by decide,Fd.mk' _ _ Tryd.underlying45 rfl rfl (Sz.mk' (by kernel_rfl) Tryd.underlying3 _ rfl)⟩,⟨by decide,Fd.mk' _ _ Tryd.underlying45 rfl rfl (Sz.mk' (by kernel_rfl) Tryd.underlying3 _ rfl)⟩,trivial⟩ ⟨(Value.agg #[.int .i64 0,.int .i64 0]),[.int .i64 0,.int .i64 0],by kernel_rfl,rfl,(fun _ _=>⟨DR.raw _ rfl,DR.raw _ rfl,trivial⟩)⟩ ⟨_,Tryd.underlying45,⟨⟨rfl,by kernel_rfl⟩,⟨rfl,by kernel_rfl⟩,trivial⟩⟩,
 trivial⟩
end S
end Go.Proofs.YtlfebjeoeijlfaaDoor
