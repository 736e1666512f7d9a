/-
  Part 2 of the proof of the statement ReportTells: the walk through the program and the references lifted to the given row. It holds for every input.
-/
import Derived.Test.YtlfebjeoeijlfaaDoorRT1
import Derived.Laws.Cover3
import Derived.Shelf.Small.Bits
import Derived.Test.YtlfebjeoeijlfaaDoorProg
import Derived.Laws.Bits64b
import Derived.Deep.RegionWith
import Derived.Deep.LoopGhost
import Derived.Laws.Strings
import Derived.Laws.MakeOwn
import Derived.Shelf.Small.Wraps
import Derived.Shelf.Strings.Prefix
import Derived.Shelf.Strings.Builder1
import Derived.Shelf.Strconv.Itoa3
import Derived.Lib.ItoaNum
set_option maxRecDepth 100000
open Go.RowKit
namespace Go.Proofs.YtlfebjeoeijlfaaDoor
namespace S
/-- a bound of a part: told, or left out -/
inductive BO:Option Operand→Nat→Nat→List (Nat × V)→Prop
  | no (n:Nat):BO none n n []
  | yes {y:Operand} {k:IntKind} {i:Nat} {rs:List (Nat × V)} (n:Nat) (h:OV y (vi k i) rs):BO (some y) n i rs
section
variable {P:Program}
theorem BO.low {x:Option Operand} {l h:Nat} {rs:List (Nat × V)} (hx:BO x 0 l rs) {e:E} {f:F} {H:Im} {B:Bl} {a:Act} {w:World} (hok:Ok e f H B a w) (hr:∀ p ∈ rs,f.s p.1=some p.2) (hl:l≤h) (c:BoundsCode) :
  (match x.map a.eval with | some v=>Instr.sliceBound v h c | none=>pure 0).run P w = .ok l w:=by
 cases hx with
 | no=>simp
 | yes _ hv =>
  have h2:=(hv.eval hok hr).rawI
  simp only [Option.map_some]
  rw [h2,run_sliceBound (P:=P) w _ _ h c (by omega) (by omega)]
  simp
theorem BO.high {x:Option Operand} {n l h:Nat} {rs:List (Nat × V)} (hx:BO x n l rs) {e:E} {f:F} {H:Im} {B:Bl} {a:Act} {w:World} (hok:Ok e f H B a w) (hr:∀ p ∈ rs,f.s p.1=some p.2) (hl:l≤h) (c:BoundsCode) :
  (match x.map a.eval with | some v=>Instr.sliceBound v h c | none=>pure n).run P w = .ok l w:=by
 cases hx with
 | no=>simp
 | yes _ hv =>
  have h2:=(hv.eval hok hr).rawI
  simp only [Option.map_some]
  rw [h2,run_sliceBound (P:=P) w _ _ h c (by omega) (by omega)]
  simp
theorem run_bounds {lo hi:Option Operand} {len cap l h:Nat} {rs rs':List (Nat × V)} {is:Bool} (hl:BO lo 0 l rs) (hh:BO hi len h rs') {e:E} {f:F} {H:Im} {B:Bl} {a:Act} {w:World} (hok:Ok e f H B a w) (hr:∀ p ∈ rs,f.s p.1=some p.2) (hr':∀ p ∈ rs', f.s p.1=some p.2)
  (h1:l≤h) (h2:h≤cap):(Instr.sliceBounds is len cap (lo.map a.eval) (hi.map a.eval) none).run P w = .ok (l,h,cap) w:=by
 have g1:=hl.low (P:=P) hok hr h1 .sliceB
 have g2:=hh.high (P:=P) hok hr' h2 (if is then .sliceAcap else .sliceAlen)
 cases lo with
 | none =>
  cases hi with
  | none=>cases hl;cases hh;simp [Instr.sliceBounds]
  | some y=>simp only [Option.map_some,Option.map_none] at g1 g2 ⊢;cases hl;simp [Instr.sliceBounds,g2]
 | some x =>
  cases hi with
  | none=>simp only [Option.map_some,Option.map_none] at g1 g2 ⊢;cases hh;simp [Instr.sliceBounds,g1]
  | some y=>simp only [Option.map_some] at g1 g2 ⊢;simp [Instr.sliceBounds,g1,g2]
theorem run_sliceS {t el:TypeId} {es:Nat} (hs:SlT P t el es) {ao:Option Addr} {len cap l h:Nat} {lo hi:Option Value} {w:World} (hb:(Instr.sliceBounds true len cap lo hi none).run P w = .ok (l,h,cap) w) :
  (Instr.sliceAt t (.slice ao len cap) lo hi none).run P w = .ok (.slice (if cap=l then ao else ao.map (·.add (l*es))) (h - l) (cap - l)) w:=by
 simp only [Instr.sliceAt,Instr.slice,Sem.run_bind,run_underlying hs.hu,Result.andThen_ok,hb,size_run hs.hs,Sem.run_pure]
theorem Op.sliceD {d t es l h:Nat} {lo hi:Option Operand} {rows rows':List (List D)} {rs rs':List (Nat × V)} {xt el ty:TypeId} {pos af gd} (hs:SlT P xt el es) (hl:BO lo 0 l rs) (hh:BO hi rows.length h rs') (h1:l≤h) (h2:h≤rows.length) (he:(rows.drop l).take (h - l)=rows') :
  zaw P ⟨some d,.slice xt (.tmp t) lo hi none,ty,pos,af,gd⟩ { rs:=(t,.t (.c (.d (.sl es rows)))) :: (rs++rs'),ws:=[(d,some (.t (.c (.d (.sl es rows')))))] } :=
 zaw.value d _ rfl rfl rfl fun e f H B a w hok hr2=>by
  have g1:=hok.slot t _ (hr2.1 (t,.t (.c (.d (.sl es rows)))) (by simp))
  have g3:DR H (.sl es rows) (a.eval (.tmp t)):=g1
  have bounds:∀ cap,rows.length≤cap→(Instr.sliceBounds true rows.length cap (lo.map a.eval) (hi.map a.eval) none).run P w = .ok (l,h,cap) w:=fun cap hc =>
   run_bounds hl hh hok (fun p hp=>hr2.1 p (by simp [hp])) (fun p hp=>hr2.1 p (by simp [hp])) h1 (by omega)
  generalize hv0:a.eval (.tmp t)=v at g3
  subst he
  cases g3 with
  | nil _ ao c k1 k2 =>
   obtain rfl:h=0:=by simpa using h2
   obtain rfl:l=0:=by omega
   have hrun:=run_sliceS (ao:=ao) hs (bounds c (Nat.zero_le _))
   refine ⟨.slice (if c=0 then ao else ao.map (·.add (0*es))) (0 - 0) (c - 0),?_,?_⟩
   ·generalize a.eval=ρ at hv0 hrun ⊢
    have hrun':(Instr.sliceAt xt (ρ (.tmp t)) (lo.map ρ) (hi.map ρ) ((none:Option Operand).map ρ)).run P w = .ok (.slice (if c=0 then ao else ao.map (·.add (0*es))) (0 - 0) (c - 0)) w:=by rw [hv0];exact hrun
    simp only [execOp,Sem.run_bind,hrun', Result.andThen_ok,Sem.run_pure]
   ·show DR H _ _
    simp only [List.drop_nil,List.take_nil,Nat.sub_zero]
    refine DR.nil es _ c (fun hn=>?_) k2
    split at hn
    ·exact k1 hn
    ·cases ao with
     | none=>exact k1 rfl
     | some _=>cases hn
  | sl _ _ b o c arr ty' fz vs hp hb hlc hc hes hv hx =>
   have hrun:=run_sliceS (ao:=some ⟨b,o,none⟩) hs (bounds c hlc)
   refine ⟨.slice (if c=l then some ⟨b,o,none⟩ else (some (⟨b,o,none⟩:Addr)).map (·.add (l*es))) (h - l) (c - l),?_,?_⟩
   ·generalize a.eval=ρ at hv0 hrun ⊢
    have hrun':(Instr.sliceAt xt (ρ (.tmp t)) (lo.map ρ) (hi.map ρ) ((none:Option Operand).map ρ)).run P w = .ok (.slice (if c=l then some ⟨b,o,none⟩ else (some (⟨b,o,none⟩:Addr)).map (·.add (l*es))) (h - l) (c - l)) w:=by rw [hv0];exact hrun
    simp only [execOp,Sem.run_bind,hrun', Result.andThen_ok,Sem.run_pure]
   ·show DR H _ _
    by_cases h0:h - l=0
    ·rw [h0,List.take_zero]
     refine DR.nil es _ _ (fun hn=>?_) (by omega)
     split at hn <;> cases hn
    ·have hlen:((rows.drop l).take (h - l)).length=h - l:=by rw [List.length_take,List.length_drop];omega
     rw [if_neg (by omega)]
     simp only [Option.map_some,Addr.add_mid]
     have:=DR.sl (H:=H) es ((rows.drop l).take (h - l)) b (o+l*es) (c - l) arr ty' fz (fun i j=>vs (l+i) j) (by omega) hb (by omega) (by omega) (fun i hi2=>by
       rw [List.getElem_take,List.getElem_drop];exact hes _ _)
      (fun i hi2 j hj=>by
       have:=hv (l+i) (by omega) j hj
       rw [Nat.add_mul] at this
       rw [← this];congr 1;omega)
      (fun i hi2 j hj=>by
       have e1:((rows.drop l).take (h - l))[i]=rows[l+i]'(by omega):=by rw [List.getElem_take,List.getElem_drop]
       have hj':j<(rows[l+i]'(by omega)).length:=by rw [← e1];exact hj
       have e2:((rows.drop l).take (h - l))[i][j]=(rows[l+i]'(by omega))[j]:=by simp only [e1]
       rw [e2];exact hx (l+i) (by omega) j hj')
     rwa [hlen] at this
end
theorem tl_7:Sz Tryd.prog 3 1 false:=Sz.mk' (by kernel_rfl) Tryd.underlying3 _ rfl
section
variable {P:Program}
theorem Oper.wp_imp {o:Oper} {a:Act} {w:World} {R R':Act→World→Prop} {Q:Exit→Act→World→Prop} (h:Oper.wp P o a w R Q) (hi:∀ a w,R a w→R' a w):Oper.wp P o a w R' Q:=by
 exact Go.Oper.wp_mono hi h
end
end S
end Go.Proofs.YtlfebjeoeijlfaaDoor
section
namespace Go.Proofs
open Go.Shelf
end Go.Proofs
end
namespace Go.Proofs.YtlfebjeoeijlfaaDoor
def bl (x:Nat):Nat:=Lib.bitLen x
/-! ### windows -/
def ch (s:ByteArray) (i:Nat):Nat:=(s.data.toList.map UInt8.toNat).getD i 0
def isd (s:ByteArray) (i:Nat):Prop:=48≤ch s i∧ch s i≤57
def alld (s:ByteArray) (k:Nat):Prop:=∀ i,i<k→isd s i
instance (s:ByteArray) (i:Nat):Decidable (isd s i):=inferInstanceAs (Decidable (_∧_))
instance (s:ByteArray) (k:Nat):Decidable (alld s k):=Nat.decidableBallLT k (fun i _=>isd s i)
/-! ### texts -/
def bytes (s:ByteArray):List Nat:=s.data.toList.map UInt8.toNat
theorem ch_bytes (s:ByteArray) (i:Nat):ch s i=(bytes s).getD i 0:=rfl
theorem zay (s:ByteArray):(bytes s).length=s.size:=by simp [bytes]
theorem bytes_inj {s t:ByteArray} (h:bytes s=bytes t):s=t:=by
 apply ByteArray.ext
 apply Array.toList_inj.1
 unfold bytes at h
 have h2:=congrArg (fun l=>l.map UInt8.ofNat) h
 simpa [List.map_map,Function.comp_def] using h2
theorem bytes_append (s t:ByteArray):bytes (s++t)=bytes s++bytes t:=by
 unfold bytes;simp [ByteArray.data_append]
def dvl (l:List Nat):Nat:=l.foldl (fun n c=>n*10+(c - 48)) 0
theorem dvl_snoc (l:List Nat) (c:Nat):dvl (l++[c])=dvl l*10+(c - 48):=by simp [dvl]
theorem dvl_foldl (l:List Nat):∀ a,l.foldl (fun n c=>n*10+(c - 48)) a=a*10 ^ l.length+dvl l:=by
 induction l with
 | nil=>intro a;simp [dvl]
 | cons c l ih =>
  intro a
  have h1:=ih (a*10+(c - 48))
  have h2:=ih (0*10+(c - 48))
  simp only [dvl,List.foldl_cons,List.length_cons] at h1 h2 ⊢
  rw [h1,h2,Nat.pow_succ,Nat.add_mul,Nat.mul_assoc a,Nat.mul_comm 10 (10 ^ l.length)]
  simp
  omega
theorem zcg (c:Nat) (l:List Nat):dvl (c :: l)=(c - 48)*10 ^ l.length+dvl l:=by
 have:=dvl_foldl l (0*10+(c - 48))
 simp only [dvl,List.foldl_cons] at this ⊢
 simpa using this
def allD (l:List Nat):Prop:=∀ c ∈ l,48≤c∧c≤57
theorem alld_allD (s:ByteArray):alld s s.size ↔ allD (bytes s):=by
 constructor
 ·intro h c hc
  obtain ⟨i,hi,rfl⟩:=List.mem_iff_getElem.1 hc
  have:=h i (by rw [zay] at hi;exact hi)
  unfold isd at this
  rw [ch_bytes,List.getD_eq_getElem?_getD,List.getElem?_eq_getElem hi] at this
  simpa using this
 ·intro h i hi
  have hl:i<(bytes s).length:=by rw [zay];exact hi
  unfold isd
  rw [ch_bytes,List.getD_eq_getElem?_getD,List.getElem?_eq_getElem hl]
  exact h _ (List.getElem_mem hl)
theorem dvl_lt {l:List Nat} (h:allD l):dvl l<10 ^ l.length:=by
 induction l with
 | nil=>simp [dvl]
 | cons c l ih =>
  have h1:=ih (fun x hx=>h x (by simp [hx]))
  have h2:=h c (by simp)
  rw [zcg,List.length_cons,Nat.pow_succ]
  have:(c - 48)*10 ^ l.length≤9*10 ^ l.length:=Nat.mul_le_mul_right _ (by omega)
  omega
def isT (l:List Nat) (n:Nat):Prop:=0<l.length∧allD l∧dvl l=n∧(1<l.length→l.getD 0 0≠48)
theorem isT_ge {l:List Nat} {n:Nat} (h:isT l n) (h1:1<l.length):10 ^ (l.length - 1)≤n:=by
 obtain ⟨_,hd,hv,hz⟩:=h
 cases l with
 | nil=>simp at h1
 | cons c l =>
  have hc:=hd c (by simp)
  have h3:=hz h1
  simp at h3
  rw [← hv,zcg]
  simp only [List.length_cons,Nat.add_sub_cancel]
  have:1*10 ^ l.length≤(c - 48)*10 ^ l.length:=Nat.mul_le_mul_right _ (by omega)
  omega
theorem dvl_inj {l m:List Nat} (hl:allD l) (hm:allD m) (hlen:l.length=m.length) (h:dvl l=dvl m):l=m:=by
 induction l generalizing m with
 | nil=>cases m with
  | nil=>rfl
  | cons d m=>simp at hlen
 | cons c l ih=>cases m with
  | nil=>simp at hlen
  | cons d m =>
   have hc:=hl c (by simp)
   have hd:=hm d (by simp)
   have hl':allD l:=fun x hx=>hl x (by simp [hx])
   have hm':allD m:=fun x hx=>hm x (by simp [hx])
   have hlen':l.length=m.length:=by simpa using hlen
   rw [zcg,zcg,hlen'] at h
   have h1:=dvl_lt hl'
   have h2:=dvl_lt hm'
   rw [hlen'] at h1
   have hcd:c=d:=by
    rcases Nat.lt_trichotomy (c - 48) (d - 48) with k | k | k
    ·have:(c - 48+1)*10 ^ m.length≤(d - 48)*10 ^ m.length:=Nat.mul_le_mul_right _ k
     rw [Nat.add_mul] at this;omega
    ·omega
    ·have:(d - 48+1)*10 ^ m.length≤(c - 48)*10 ^ m.length:=Nat.mul_le_mul_right _ k
     rw [Nat.add_mul] at this;omega
   subst hcd
   rw [ih hl' hm' hlen' (by omega)]
theorem isT_len_lt {l m:List Nat} {a b:Nat} (hl:isT l a) (hm:isT m b) (h:l.length<m.length):a<b:=by
 have h1:=dvl_lt hl.2.1
 rw [hl.2.2.1] at h1
 have h2:=isT_ge hm (by have:=hl.1;omega)
 have h3:10 ^ l.length≤10 ^ (m.length - 1):=Nat.pow_le_pow_right (by omega) (by omega)
 omega
theorem isT_inj {l m:List Nat} {a:Nat} (hl:isT l a) (hm:isT m a):l=m:=by
 rcases Nat.lt_trichotomy l.length m.length with h | h | h
 ·have:=isT_len_lt hl hm h;omega
 ·exact dvl_inj hl.2.1 hm.2.1 h (hl.2.2.1.trans hm.2.2.1.symm)
 ·have:=isT_len_lt hm hl h;omega
theorem isT_short {l:List Nat} {n k:Nat} (h:isT l n) (hn:n<10 ^ k) (hk:0<k):l.length≤k:=by
 rcases Nat.lt_or_ge 1 l.length with h1 | h1
 ·have h2:=isT_ge h h1
  rcases Nat.lt_or_ge k l.length with h3 | h3
  ·have:10 ^ k≤10 ^ (l.length - 1):=Nat.pow_le_pow_right (by omega) (by omega)
   omega
  ·exact h3
 ·omega
def lowD (D:List Nat):Nat:=match D with | []=>0 | d :: D=>(d - 48)+10*lowD D
theorem lowD_snoc (D:List Nat) (c:Nat):lowD (D++[c])=lowD D+10 ^ D.length*(c - 48):=by
 induction D with
 | nil=>simp [lowD]
 | cons d D ih=>simp only [List.cons_append,lowD,ih,List.length_cons,Nat.pow_succ,Nat.mul_add];rw [Nat.mul_comm (10 ^ D.length) 10,Nat.mul_assoc];omega
theorem dvl_reverse (D:List Nat):dvl D.reverse=lowD D:=by
 induction D with
 | nil=>rfl
 | cons d D ih=>rw [List.reverse_cons,dvl_snoc,ih,lowD];omega
theorem dvl_zero {l:List Nat} (h:l.getD 0 0=48):dvl l.tail=dvl l:=by
 cases l with
 | nil=>rfl
 | cons c l =>
  simp at h
  subst h
  rw [zcg];simp
theorem isT_zero:isT [48] 0:=⟨by simp,by intro c hc;simp at hc;omega,rfl,by simp⟩
theorem isT_str {s t:ByteArray} {n:Nat} (h:isT (bytes s) n) (k:isT (bytes t) n):s=t:=bytes_inj (isT_inj h k)
def LbB (zs:List Nat):Prop:=∀ z ∈ zs,z<256
theorem LbB_nil:LbB []:=fun _ h=>by simp at h
theorem LbB_drop {zs:List Nat} (h:LbB zs) (k:Nat):LbB (zs.drop k):=fun z hz=>h z (List.mem_of_mem_drop hz)
theorem LbB_append {xs ys:List Nat} (h:LbB xs) (k:LbB ys):LbB (xs++ys):=fun z hz=>by
 rcases List.mem_append.1 hz with a | a
 ·exact h z a
 ·exact k z a
theorem LbB_snoc {xs:List Nat} {x:Nat} (h:LbB xs) (k:x<256):LbB (xs++[x]):=LbB_append h (fun z hz=>by simp at hz;omega)
theorem limB_lt {zs:List Nat} (h:LbB zs) (i:Nat):lim zs i<256:=by
 by_cases hi:i<zs.length
 ·have:lim zs i=zs[i]:=by unfold lim;simp [List.getD_eq_getElem?_getD,hi]
  rw [this];exact h _ (List.getElem_mem hi)
 ·rw [lim_of_le (by omega)];omega
/-- the slice at ao, of length zs.length and capacity c, reads as zs -/
structure RdB (w:World) (ao:Option Addr) (c:Nat) (zs:List Nat):Prop where
  cap:zs.length≤c
  mx:c≤9223372036854775807
  nl:ao=none→c=0
  lb:LbB zs
  ad:0<zs.length→ao=some ⟨bk ao,of ao,none⟩
  cell:∀ i,i<zs.length→w.cell? ⟨bk ao,of ao+i,none⟩=some (.int .u8 (lim zs i))
theorem RdB.nil (w:World):RdB w none 0 []:=⟨Nat.le_refl _,by omega,fun _=>rfl,LbB_nil,fun h=>by simp at h,fun i h=>by simp at h⟩
theorem RdB.drop {w:World} {b o c:Nat} {zs:List Nat} (h:RdB w (some ⟨b,o,none⟩) c zs) (k:Nat) (hk:k≤zs.length):RdB w (some ⟨b,o+k,none⟩) (c - k) (zs.drop k):=by
 have h1:=h.cap
 refine ⟨by rw [List.length_drop];omega,Nat.le_trans (Nat.sub_le _ _) h.mx,fun e=>by simp at e,LbB_drop h.lb _,fun _=>rfl,?_⟩
 intro i hi
 rw [List.length_drop] at hi
 have:=h.cell (k+i) (by omega)
 simp only [bk,of] at this ⊢
 rw [lim_drop,Nat.add_assoc];exact this
theorem RdB.isAt {w:World} {ao:Option Addr} {c:Nat} {zs:List Nat} (h:RdB w ao c zs) (hp:0<zs.length):∃ b o,ao=some ⟨b,o,none⟩:=⟨_,_,h.ad hp⟩
theorem run_ixB {P:Program} {t e:TypeId} (ht:P.underlying t=some (.slice e)) (hs:∀ w,(sizeOf e).run P w = .ok 1 w) {w0:World} {ao:Option Addr} {c:Nat} {zs:List Nat} (h:RdB w0 ao c zs)
   (k:IntKind) (i:Int) (w:World) (h0:0≤i) (h1:i<zs.length) :
   (Instr.indexAt t (.slice ao zs.length c) (.int k i)).run P w = .ok (.pointer (some ⟨bk ao,of ao+i.toNat,none⟩)) w:=by
  have h2:=h.ad (by omega)
  rw [h2]
  simp [Instr.indexAt,asIntOf,run_underlying ht,h0,h1,go_sem,hs,bk,of]
/-- the slice at ao is a row of the call's own (from block B on) that holds zs -/
structure OwB (w:World) (B:Nat) (ao:Option Addr) (c:Nat) (zs:List Nat):Prop where
  lb:LbB zs
  row:w.ownsRow B 5 1 (.slice ao zs.length c) zs.length (zs.map fun (x:Nat)=>Value.int .u8 (x:Int))
theorem OwB.nil (w:World) (B:Nat):OwB w B none 0 []:=⟨LbB_nil,World.ownsRow_nil _ _ _ _⟩
theorem OwB.rd {w:World} {B:Nat} {ao:Option Addr} {c:Nat} {zs:List Nat} (h:OwB w B ao c zs):RdB w ao c zs:=by
 have hr:=h.row
 rcases hr.2 with ⟨hv,hn⟩ | ⟨g,cap,cur,hv,hb,hg,hnc,hcm,hcs,htake⟩
 ·have:zs=[]:=List.length_eq_zero_iff.1 hn
  subst this
  simp at hv
  obtain ⟨rfl,rfl⟩:=hv
  exact RdB.nil w
 ·simp only [Value.slice.injEq,true_and] at hv
  obtain ⟨rfl,rfl⟩:=hv
  refine ⟨hnc,by simpa [maxLen] using hcm,fun e=>by simp at e,h.lb,fun _=>rfl,?_⟩
  intro i hi
  have:=hr.cellAt i (by omega)
  simp only [bk,of,Nat.zero_add]
  rw [this,List.getElem?_map,zb5 hi]
  rfl
theorem OwB.lt {w:World} {B:Nat} {ao:Option Addr} {c:Nat} {zs:List Nat} (h:OwB w B ao c zs):∀ k,(Value.slice ao zs.length c).ownBlock=some k→B≤k∧k<w.heap.size:=h.row.lt
theorem OwB.blk {w:World} {B:Nat} {ao:Option Addr} {c:Nat} {zs:List Nat} (h:OwB w B ao c zs) (hp:0<zs.length):B≤bk ao∧bk ao<w.heap.size∧of ao=0∧ao=some ⟨bk ao,0,none⟩:=by
 rcases h.row.2 with ⟨hv,hn⟩ | ⟨g,cap,cur,hv,hb,hg,hnc,hcm,hcs,htake⟩
 ·omega
 ·simp only [Value.slice.injEq,true_and] at hv
  obtain ⟨rfl,rfl⟩:=hv
  exact ⟨hb,(Array.getElem?_eq_some_iff.1 hg).1,rfl,rfl⟩
theorem OwB.frozen {w:World} {B:Nat} {ao:Option Addr} {c:Nat} {zs:List Nat} (h:OwB w B ao c zs) (hp:0<zs.length) (i:Nat):w.frozen? ⟨bk ao,of ao+i,none⟩=false:=by
 rcases h.row.2 with ⟨hv,hn⟩ | ⟨g,cap,cur,hv,hb,hg,hnc,hcm,hcs,htake⟩
 ·omega
 ·have hr:=h.row
  simp only [Value.slice.injEq,true_and] at hv
  obtain ⟨rfl,rfl⟩:=hv
  simp only [bk,of,Nat.zero_add]
  exact hr.frozenAt i
theorem OwB.ext {w w':World} {B:Nat} {ao:Option Addr} {c:Nat} {zs:List Nat} (h:OwB w B ao c zs) (k:Ext w w'):OwB w' B ao c zs :=
 ⟨h.lb,h.row.kept (row:=none) ⟨k.os,k.tape,k.output,k.size,fun i hi _=>k.block i hi⟩ (by cases hv:Value.ownBlock _ <;> simp)⟩
theorem size8 (w:World):(sizeOf 5).run Tryd.prog w = .ok 1 w:=by kernel_rfl
theorem info8:(Tryd.prog.info? 5).map (fun i=>(i.zero,i.size,i.bytes))=some (some (.int .u8 0),1,1):=by kernel_rfl
theorem undB:Tryd.prog.underlying 73=some (.slice 5):=Tryd.underlying73
theorem ixnB {w0:World} {ao:Option Addr} {c:Nat} {zs:List Nat} (h:RdB w0 ao c zs) (k:IntKind) (i:Int) (w:World) (h0:0≤i) (h1:i<zs.length) :
   (Instr.indexAt 73 (.slice ao zs.length c) (.int k i)).run Tryd.prog w = .ok (.pointer (some ⟨bk ao,of ao+i.toNat,none⟩)) w:=run_ixB undB size8 h k i w h0 h1
theorem pushB {wi w:World} {ops:Array Oper} {rest:List Oper} {o:Oper} {a:Act} {Q:Exit→Act→World→Prop} (hgd:o.guard=none) (s x:Operand)
  (ho:o.op = .call { callee:=.builtin .append,args:=#[s,x],argTypes:=#[73,73] })
  {B:Nat} (ao:Option Addr) (c:Nat) (zs:List Nat) (n:Nat) (hn:n=zs.length) (hs:a.eval s = .slice ao n c) (hown:OwB w B ao c zs)
  (E:Int) (hE:0≤E) (hy:E<256) (hx:a.eval x = .slice (some ⟨w.heap.size,0,none⟩) 1 1)
  (hlen:zs.length≤4294967296) (hB:B=wi.heap.size) (hext:Ext wi w)
  (h:∀ ao' c' w', OwB w' B ao' c' (zs++[E.toNat])→Ext wi w'→wpList Tryd.prog ops Q rest (a.put o.dst (.slice ao' (zs.length+1) c')) w') :
  wpList Tryd.prog ops Q (o :: rest) a (w.alloc (.cells #[.int .u8 E] 5)):=by
 subst hn
 obtain ⟨i0,hi,hz0,hz1,hz2⟩:=info_parts info8
 have hsz:=hext.size
 refine wpList_append_own _ hgd s x 73 ho B 5 i0 (.int .u8 0) 1 1 undB hi hz0 hz1 hz2 rfl (by decide) _ _ _ hs (hown.row.alloc _) ⟨w.heap.size,0,none⟩ 1 1 [.int .u8 E] hx rfl ?_ ?_ ?_ ?_ ?_ ?_
 ·intro j u hj
  match j,hj with
  | 0,hj=>simp at hj;subst hj;simp [Addr.add]
 ·intro u hu;simp at hu;subst hu;rfl
 ·unfold maxLen;omega
 ·omega
 ·simp;omega
 ·intro v' w' hown' hgrow _
  obtain ⟨y,rfl⟩:=Int.eq_ofNat_of_zero_le hE
  have hlb:LbB (zs++[y]):=LbB_snoc hown.lb (by omega)
  have he:Ext wi w':=(hext.alloc _).grown hgrow (fun k hk=>by have:=(hown.lt k hk).1;omega)
  rcases hown'.2 with ⟨hv,hn⟩ | ⟨g,cap,cur,hv,hb,hg,hnc,hcm,hcs,htake⟩
  ·omega
  ·subst hv
   refine h _ _ w' ⟨hlb,?_⟩ he
   simpa using hown'
theorem OwB.store {w:World} {B:Nat} {ao:Option Addr} {c:Nat} {zs:List Nat} (h:OwB w B ao c zs) (i:Nat) (hi:i<zs.length) (E:Int) (y:Nat) (hE:E=(y:Int)) (hy:y<256) :
  OwB (w.setCell ⟨bk ao,of ao+i,none⟩ (.int .u8 E)) B ao c (zs.set i y)∧w.grownBy (w.setCell ⟨bk ao,of ao+i,none⟩ (.int .u8 E)) (some (bk ao)):=by
 subst hE
 obtain ⟨h1,h2,h3,h4⟩:=h.blk (by omega)
 have hr:=h.row
 rw [h4] at hr
 have:=hr.stored i (.int .u8 (y:Int))
 rw [h3,Nat.zero_add]
 refine ⟨⟨?_,?_⟩,this.2⟩
 ·intro z hz
  rcases List.mem_or_eq_of_mem_set hz with hm | hm
  ·exact h.lb z hm
  ·omega
 ·rw [h4,List.length_set,List.map_set]
  exact this.1
theorem pushGB {wi w:World} {ops:Array Oper} {rest:List Oper} {o:Oper} {a:Act} {Q:Exit→Act→World→Prop} (hgd:o.guard=none) (s x:Operand)
  (ho:o.op = .call { callee:=.builtin .append,args:=#[s,x],argTypes:=#[73,73] })
  {B:Nat} (ao:Option Addr) (c:Nat) (zs:List Nat) (n:Nat) (hn:n=zs.length) (hs:a.eval s = .slice ao n c) (hown:OwB w B ao c zs)
  (E:Int) (hE:0≤E) (hy:E<256) (hx:a.eval x = .slice (some ⟨w.heap.size,0,none⟩) 1 1)
  (hlen:zs.length≤4294967296) (hB:B=wi.heap.size) (hext:Ext wi w)
  (h:∀ ao' c' w', OwB w' B ao' c' (zs++[E.toNat])→Ext wi w'→w.grownBy w' (Value.slice ao zs.length c).ownBlock→wpList Tryd.prog ops Q rest (a.put o.dst (.slice ao' (zs.length+1) c')) w') :
  wpList Tryd.prog ops Q (o :: rest) a (w.alloc (.cells #[.int .u8 E] 5)):=by
 subst hn
 obtain ⟨i0,hi,hz0,hz1,hz2⟩:=info_parts info8
 have hsz:=hext.size
 refine wpList_append_own _ hgd s x 73 ho B 5 i0 (.int .u8 0) 1 1 undB hi hz0 hz1 hz2 rfl (by decide) _ _ _ hs (hown.row.alloc _) ⟨w.heap.size,0,none⟩ 1 1 [.int .u8 E] hx rfl ?_ ?_ ?_ ?_ ?_ ?_
 ·intro j u hj
  match j,hj with
  | 0,hj=>simp at hj;subst hj;simp [Addr.add]
 ·intro u hu;simp at hu;subst hu;rfl
 ·unfold maxLen;omega
 ·omega
 ·simp;omega
 ·intro v' w' hown' hgrow _
  obtain ⟨y,rfl⟩:=Int.eq_ofNat_of_zero_le hE
  have hlb:LbB (zs++[y]):=LbB_snoc hown.lb (by omega)
  have he:Ext wi w':=(hext.alloc _).grown hgrow (fun k hk=>by have:=(hown.lt k hk).1;omega)
  rcases hown'.2 with ⟨hv,hn⟩ | ⟨g,cap,cur,hv,hb,hg,hnc,hcm,hcs,htake⟩
  ·omega
  ·subst hv
   refine h _ _ w' ⟨hlb,?_⟩ he (zbw (World.grownBy_alloc _ _ _) hgrow)
   simpa using hown'
def ByR (w:World) (xs:List Nat) (b:Nat) (po:Option Addr) (pc:Nat) (rest i:Value) (wr:World):Prop :=
  ∃ (k R:Nat) (zs:List Nat),k≤xs.length∧i = .int .i64 ((k:Int) - 1)∧rest = .int .u64 R∧R<b∧Hid (zs.length=xs.length)∧Own wr w.heap.size po pc zs∧Ext w wr∧Hid (vd xs k=vd zs k*b+R)
theorem by_step {xs zs:List Nat} {k b R:Nat} (h:vd xs (k+1)=vd zs (k+1)*b+R) (hx:k<xs.length) (hz:k<zs.length) :
  Hid (vd xs k=vd (zs.set k ((R*4294967296+lim xs k) / b)) k*b+(R*4294967296+lim xs k) % b):=by
 unfold Hid
 rw [vd_step hx,vd_step (zs:=zs.set k ((R*4294967296+lim xs k) / b)) (by rw [List.length_set];exact hz),zd7 hz,vd_set (by omega),h,Nat.add_mul,Nat.mul_assoc 4294967296]
 have h1:=Nat.div_add_mod (R*4294967296+lim xs k) b
 rw [Nat.mul_comm b] at h1
 omega
theorem by_lt {R x b:Nat} (h:R<b) (hx:x<4294967296):(R*4294967296+x) / b<4294967296:=by
 rw [Nat.div_lt_iff_lt_mul (by omega)]
 have:(R+1)*4294967296≤b*4294967296:=Nat.mul_le_mul_right _ h
 rw [Nat.mul_comm 4294967296 b]
 omega
set_option maxHeartbeats 1000000 in
theorem byLimb_any (ao:Option Addr) (n c:Nat) (xs:List Nat) (E:Int) (b:Nat) (w:World) (hn:n=xs.length) (hE:E=(b:Int)) (ha:Rd w ao c xs) (hl:xs.length≤1000000) (hb:0<b) (hb2:b<4294967296) :
  Calls Tryd.prog 67 #[.slice ao n c,.int .u32 E] w fun e w'=>∃ po pc zs,e = .returned (.tuple #[.slice po zs.length pc,.int .u32 ((val xs % b:Nat):Int)])∧Own w' w.heap.size po pc zs∧zdi zs∧val zs=val xs / b∧Ext w w':=by
 subst hn hE
 have bA:=ha.cap
 have mA:=ha.mx
 go_enter Tryd.func67,Tryd.ntmps67
 go_wp2_with (at_make;refine mkf rfl _ _ rfl _ _ _ rfl rfl ?_ ?_ (Ext.refl w) ?_;omega;omega;intro w1 hown hx0 hext)
 go_loopw [7,8] (ByR w xs b (some ⟨w.heap.size,0,none⟩) xs.length) (fun _ i _=>(intOf i+1).toNat)
 case atStart=>exact ⟨xs.length,0,List.replicate xs.length 0,Nat.le_refl _,rfl,rfl,hb,by simp [Hid],by simpa using hown,hext,by unfold Hid;rw [vd_end (by omega),vd_end (by simp)];simp⟩
 case round =>
  obtain ⟨k,R,zs,hk,rfl,rfl,hR,hzl,hown,hext,heq⟩:=hrel
  rcases k with _ | k
  ·have hv:val xs=val zs*b+R:=by have:=heq.out;rwa [vd_zero,vd_zero] at this
   have hq:val zs=val xs / b:=by rw [hv,Nat.mul_comm,Nat.mul_add_div hb,Nat.div_eq_of_lt hR,Nat.add_zero]
   have hm:val xs % b=R:=by rw [hv,Nat.mul_comm,Nat.mul_add_mod,Nat.mod_eq_of_lt hR]
   have Hq:=Lib.hid hq
   have Hm:=Lib.hid hm
   clear hv hq hm heq
   go_wp2_with fail
   refine (Trim_got _ _ _ zs _ hzl.out.symm hown.rd (by have:=hzl.out;omega)).mono ?_
   intro e w2 hg
   rw [Hq.out] at hg
   obtain ⟨ao3,c3,zs3,rfl,h1,h2,h3,h4⟩:=hg.from hext
   go_wp2_with fail
   go_ret2
   exact ⟨ao3,c3,zs3,by rw [Hm.out];rfl,h1,h2,h3,h4⟩
  ·have hx:=(ha.ext hext).cell k (by omega)
   have hix:=ixk ha xs.length rfl k (by omega) wr
   have bx:=lim_lt ha.lb k
   have hkz:k<zs.length:=by have:=hzl.out;omega
   have hiz:=ixk hown.rd xs.length hzl.out.symm k (by omega) wr
   have hxz:=hown.rd.cell k hkz
   have hf:=hown.frozen (by omega) k
   have hor:=or_join R (lim xs k) (by omega) bx
   have hq1:=by_lt (b:=b) hR bx
   have hm1:(R*4294967296+lim xs k) % b<b:=Nat.mod_lt _ hb
   have hs:=by_step heq.out (by omega) hkz
   obtain ⟨H,hH⟩:∃ H,H=R*4294967296+lim xs k:=⟨_,rfl⟩
   rw [← hH] at hor hq1 hm1 hs
   have bH:H<18446744073709551616:=by omega
   have htd:=tdiv_nat H b
   have htm:=tmod_nat H b
   obtain ⟨q,hq⟩:∃ q,q=H / b:=⟨_,rfl⟩
   obtain ⟨m,hm⟩:∃ m,m=H % b:=⟨_,rfl⟩
   rw [← hq] at htd hq1 hs
   rw [← hm] at htm hm1 hs
   have hnd:(H:Int) / (b:Int)=(q:Int):=by rw [hq];push_cast;rfl
   have hnm:(H:Int) % (b:Int)=(m:Int):=by rw [hm];push_cast;rfl
   clear hH hq hm
   go_wp2_with fail
   have hst:=hown.store k hkz (q:Int) q rfl hq1
   go_roundw
   case rel=>exact ⟨k,m,zs.set k q,by omega,by go_num,rfl,hm1,by unfold Hid;rw [List.length_set];exact hzl.out,hst.1,hext.store (show w.heap.size≤w.heap.size by omega) _,hs⟩
   case measure=>simp [intOf]
def revK (zs ys:List Nat) (k:Nat):Prop:=ys.length=zs.length∧∀ t,t<zs.length→lim ys t=if t<k∨zs.length - k≤t then lim zs (zs.length - 1 - t) else lim zs t
theorem revK_step {zs ys:List Nat} {k:Nat} (h:revK zs ys k) (hk:k<zs.length - 1 - k):revK zs ((ys.set k (lim ys (zs.length - 1 - k))).set (zs.length - 1 - k) (lim ys k)) (k+1):=by
 obtain ⟨hl,h⟩:=h
 refine ⟨by simp [hl],?_⟩
 intro t ht
 have h1:=h k (by omega)
 have h2:=h (zs.length - 1 - k) (by omega)
 rw [if_neg (by omega)] at h1 h2
 by_cases e:t=zs.length - 1 - k
 ·subst e
  rw [zd7 (by simp;omega),h1,if_pos (by omega)]
  congr 1;omega
 ·rw [lim_set_ne (by omega)]
  by_cases e2:t=k
  ·subst e2
   rw [zd7 (by omega),h2,if_pos (by omega)]
  ·rw [lim_set_ne (by omega),h t ht]
   by_cases c1:t<k∨zs.length - k≤t
   ·rw [if_pos c1,if_pos (by omega)]
   ·rw [if_neg c1,if_neg (by omega)]
theorem revK_end {zs ys:List Nat} {k:Nat} (h:revK zs ys k) (hk:zs.length≤k+k+1):ys=zs.reverse:=by
 obtain ⟨hl,h⟩:=h
 apply list_ext_lim (by simp [hl])
 intro t ht
 have ht':t<zs.length:=by omega
 have hr:lim zs.reverse t=lim zs (zs.length - 1 - t):=by
  unfold lim
  rw [List.getD_eq_getElem?_getD,List.getD_eq_getElem?_getD,List.getElem?_reverse ht']
 rw [hr,h t ht']
 split
 ·rfl
 ·congr 1;omega
set_option maxHeartbeats 1000000 in
theorem Reverse_any (ao:Option Addr) (n c:Nat) (zs:List Nat) (B:Nat) (w:World) (hn:n=zs.length) (ha:OwB w B ao c zs) :
  Calls Tryd.prog 68 #[.slice ao n c] w fun e w'=>e = .returned (.tuple #[])∧OwB w' B ao c zs.reverse∧w.grownBy w' (some (bk ao)):=by
 subst hn
 have bA:=ha.rd.cap
 have mA:=ha.rd.mx
 go_enter Tryd.func68,Tryd.ntmps68
 go_wp2_with fail
 go_loopw [2,3] (fun i j wr=>∃ (k:Nat) (ys:List Nat),k≤zs.length∧i = .int .i64 k∧j = .int .i64 ((zs.length:Int) - 1 - k)∧Hid (revK zs ys k)∧OwB wr B ao c ys∧w.grownBy wr (some (bk ao))) (fun _ j _=>(intOf j+1).toNat)
 case atStart=>exact ⟨0,zs,by omega,rfl,by go_num,⟨rfl,fun t ht=>by rw [if_neg (by omega)]⟩,ha,World.grownBy.refl _ _⟩
 case round =>
  obtain ⟨k,ys,hk,rfl,rfl,hrev,hown,hg⟩:=hrel
  have hyl:ys.length=zs.length:=hrev.out.1
  have Hyl:=Lib.hid hyl
  by_cases hkA:k<zs.length - 1 - k
  ·have hx1:=hown.rd.cell k (by omega)
   have hx2:=hown.rd.cell (zs.length - 1 - k) (by omega)
   have hi1:=fun w=>ixnB hown.rd .i64 (k:Int) w (by omega) (by omega)
   have hi2:=fun w=>ixnB hown.rd .i64 ((zs.length:Int) - 1 - (k:Int)) w (by omega) (by omega)
   rw [hyl] at hi1 hi2
   have et:((zs.length:Int) - 1 - (k:Int)).toNat=zs.length - 1 - k:=by omega
   rw [et] at hi2
   have hf1:=hown.frozen (by omega) k
   have hf2:=hown.frozen (by omega) (zs.length - 1 - k)
   clear hyl et
   go_wp2_with fail
   go_region
   all_goals
    have hst1:=hown.store k (by have:=Hyl.out;omega) _ (lim ys (zs.length - 1 - k)) rfl (limB_lt hown.lb _)
    have hst2:=hst1.1.store (zs.length - 1 - k) (by rw [List.length_set];have:=Hyl.out;omega) _ (lim ys k) rfl (limB_lt hown.lb _)
    have hrs:=revK_step hrev.out hkA
    clear hx1 hx2 hi1 hi2 hf1 hf2
    go_wp2_with fail
    go_roundw
    case rel=>exact ⟨k+1,_,by omega,by go_num,by go_num,hrs,hst2.1.ext (Ext.refl _).drew,zbw (zbw hg hst1.2) (zbw hst2.2 (grown_of_ext (Ext.refl _).drew _))⟩
    case measure=>simp [intOf];omega
  ·have he:=revK_end hrev.out (by omega)
   have He:=Lib.hid he
   clear he hyl
   go_wp2_with fail
   go_end0
   exact ⟨rfl,by rw [← He.out];exact hown,hg⟩
def GotText (w:World) (n:Nat) (e:Ending) (w':World):Prop:=∃ s,e = .returned (.string s)∧isT (bytes s) n∧Ext w w'
def strN (L:List Nat):ByteArray:=strOfNums (L.map fun (x:Nat)=>(x:Int))
theorem bytes_strN {L:List Nat} (h:LbB L):bytes (strN L)=L:=by
 unfold bytes strN
 rw [strOfNums_data,List.map_map,List.map_map]
 conv=>rhs;rw [← List.map_id L]
 apply List.map_congr_left
 intro x hx
 have:=h x hx
 simp only [Function.comp_apply,Int.toNat_natCast,id]
 rw [UInt8.toNat_ofNat']
 omega
theorem run_str {w:World} {b o c:Nat} {L:List Nat} (h:RdB w (some ⟨b,o,none⟩) c L) :
  (convert 73 9 (.slice (some ⟨b,o,none⟩) L.length c)).run Tryd.prog w = .ok (.string (strN L)) w:=by
 refine run_convert_bytes_arg w 73 5 undB Tryd.underlying5 b o L.length c (L.map fun (x:Nat)=>(x:Int)) (by simp) ?_ 9 Tryd.underlying9
 intro i hi
 have:=h.cell i hi
 simp only [bk,of] at this
 rw [this]
 have e:L[i]?=some (lim L i):=zb5 hi
 simp only [List.getD_eq_getElem?_getD,List.getElem?_map,e]
 rfl
theorem text_step {D:List Nat} {p R N:Nat} (h:lowD D+10 ^ D.length*(R+10*p)=N):lowD (D++[48+R % 10])+10 ^ (D++[48+R % 10]).length*(R / 10+p)=N:=by
 rw [lowD_snoc,List.length_append,List.length_cons,List.length_nil,Nat.zero_add,Nat.pow_succ,← h,Nat.add_sub_cancel_left,Nat.mul_assoc]
 rw [show R+10*p=10*(R / 10+p)+R % 10 from by omega,Nat.mul_add (10 ^ D.length) (10*(R / 10+p)) (R % 10)]
 omega
def TextI (w:World) (n0 N V:Nat) (d0:Nat) (ao:Option Addr) (c:Nat) (zs:List Nat) (out rest i:Value) (wr:World):Prop :=
  ∃ (j R:Nat) (po:Option Addr) (pc:Nat) (D:List Nat),j≤9∧i = .int .i64 j∧rest = .int .u32 R∧R<10 ^ (9 - j)∧out = .slice po D.length pc∧Hid (D.length=d0+j)∧d0≤10*n0∧allD D∧OwB wr w.heap.size po pc D∧Own wr w.heap.size ao c zs∧Ext w wr ∧
    Hid (lowD D+10 ^ D.length*(R+10 ^ (9 - j)*V)=N)
def TextO (w:World) (n0 N g:Nat) (a out:Value) (wr:World):Prop :=
  ∃ (ao:Option Addr) (c:Nat) (zs:List Nat) (po:Option Addr) (pc:Nat) (D:List Nat),a = .slice ao zs.length c∧out = .slice po D.length pc∧D.length≤10*n0+9∧zs.length≤1000000∧allD D∧zdi zs∧OwB wr w.heap.size po pc D∧Rd wr ao c zs∧Ext w wr ∧
    Hid (lowD D+10 ^ D.length*val zs=N)∧Hid (val zs=g)
def TextS (w:World) (N:Nat) (out:Value) (wr:World):Prop :=
  ∃ (b o c:Nat) (L:List Nat),out = .slice (some ⟨b,o,none⟩) L.length c∧allD L∧Hid (dvl L=N)∧RdB wr (some ⟨b,o,none⟩) c L∧Ext w wr
def lenOf:Value→Nat
  | .slice _ n _=>n
  | _=>0
theorem pw_10 (n:Nat):pw n≤10 ^ (10*n):=by
 unfold pw
 rw [Nat.pow_mul]
 exact Nat.pow_le_pow_left (by decide) n
set_option maxHeartbeats 2000000 in
theorem Text_any (ao:Option Addr) (n c:Nat) (xs:List Nat) (w:World) (hn:n=xs.length) (ha:Rd w ao c xs) (hl:xs.length≤10000) :
  Calls Tryd.prog 54 #[.slice ao n c] w (GotText w (val xs)):=by
 subst hn
 have hA:=ha.trm
 have cA:=zcw ha.lb
 have lA:=trm_le xs
 rw [← val_trm xs]
 rcases Nat.eq_zero_or_pos (trm xs).length with h0 | hp
 ·have e0:trm xs=[]:=List.length_eq_zero_iff.1 h0
  rw [e0]
  have hz:(((trm xs).length:Int) == 0)=true:=beq_iff_eq.2 (by omega)
  clear h0 e0
  go_enter Tryd.func54,Tryd.ntmps54
  go_wp2_with fail
  refine (trim_any ao _ c xs w rfl ha).mono ?_
  rintro e w' ⟨rfl,rfl⟩
  go_wp2_with fail
  go_ret
  exact ⟨_,rfl,isT_zero,Ext.refl _⟩
 ·have hz:(((trm xs).length:Int) == 0)=false:=beq_eq_false_iff_ne.2 (by omega)
  obtain ⟨N,hN⟩:∃ N,N=val (trm xs):=⟨_,rfl⟩
  have hNpos:0<N:=by
   have:=zby cA hp
   have:=pw_pos ((trm xs).length - 1)
   omega
  have hNb:N<10 ^ (10*xs.length):=by
   rw [hN]
   exact Nat.lt_of_lt_of_le (Nat.lt_of_lt_of_le (zco cA.1) (pw_le lA)) (pw_10 _)
  have HNb:=Lib.hid hNb
  clear hNb
  rw [← hN]
  go_enter Tryd.func54,Tryd.ntmps54
  go_wp2_with fail
  refine (trim_any ao _ c xs w rfl ha).mono ?_
  rintro e w' ⟨rfl,rfl⟩
  go_wp2_with fail
  go_loopg [0,3] N (TextO w xs.length N)
  case atStart=>exact ⟨ao,c,trm xs,none,0,[],rfl,rfl,by simp,by omega,(fun c hc=>by simp at hc),cA,OwB.nil _ _,hA,Ext.refl _,by unfold Hid;rw [hN];simp [lowD],hN.symm⟩
  case round =>
   obtain ⟨bo,d,zs,po,pc,D,rfl,rfl,hDl,hzl,hDd,cZ,hown,hrd,hext,heq,hgk⟩:=hrel
   rcases Nat.eq_zero_or_pos zs.length with hz0 | hzp
   ·have ez:zs=[]:=List.length_eq_zero_iff.1 hz0
    subst ez
    have hv:dvl D.reverse=N:=by rw [dvl_reverse,← heq.out];simp [val]
    have hD0:0<D.length:=by
     cases D with
     | nil=>simp [dvl] at hv;omega
     | cons d D=>simp
    have Hv:=Lib.hid hv
    clear hv heq
    go_wp2_with fail
    refine (Reverse_any _ _ _ D _ _ rfl hown).mono ?_
    rintro e w2 ⟨rfl,hown2,hg2⟩
    have hext2:Ext w w2:=hext.grown hg2 (fun k hk=>by cases hk;exact (hown.blk hD0).1)
    have hrd2:=hown2.rd
    have hl2:(D.reverse).length=D.length:=by simp
    obtain ⟨b,o,hat⟩:=hrd2.isAt (by omega)
    have hdd:allD D.reverse:=fun c hc=>hDd c (by simpa using hc)
    rw [← hl2]
    generalize D.reverse=L at *
    subst hat
    clear hown hg2 hown2 hext hrd hDd
    have Hl2:=Lib.hid hl2
    clear hl2
    go_wp2_with fail
    go_loopw [3] (TextS w N) (fun a _=>lenOf a)
    case atStart=>exact ⟨b,o,pc,L,rfl,hdd,Hv,hrd2,hext2⟩
    case round =>
     obtain ⟨b,o,pc,L,rfl,hLd,hLv,hLr,hLe⟩:=hrel
     have hL0:0<L.length:=by
      cases L with
      | nil=>have:=hLv.out;simp [dvl] at this;omega
      | cons d D=>simp
     have hx:=hLr.cell 0 hL0
     have hcap:=hLr.cap
     have hmx:=hLr.mx
     simp only [bk,of,Nat.add_zero] at hx
     by_cases h48:lim L 0=48
     ·have hb:(((lim L 0:Nat):Int) == 48)=true:=by simp [h48]
      have hv2:dvl L.tail=N:=by rw [dvl_zero h48];exact hLv.out
      have hL1:0<L.tail.length:=by
       cases hL:L.tail with
       | nil=>rw [hL] at hv2;simp [dvl] at hv2;omega
       | cons d D=>simp
      rw [List.length_tail] at hL1
      have hdr:=hLr.drop 1 hL0
      rw [List.drop_one] at hdr
      clear h48
      go_wp2_with fail
      go_roundw
      case rel=>exact ⟨b,o+1,pc - 1,L.tail,by simp,(fun c hc=>hLd c (List.mem_of_mem_tail hc)),hv2,hdr,hLe⟩
      case measure=>simp [lenOf];try omega
     ·have hb:(((lim L 0:Nat):Int) == 48)=false:=beq_eq_false_iff_ne.2 (by omega)
      have hcv:=run_str hLr
      have hlb:=hLr.lb
      go_wp2_with fail
      go_ret
      exact ⟨strN L,rfl,by rw [bytes_strN hlb];exact ⟨hL0,hLd,hLv.out,fun _=>h48⟩,hLe⟩
   ·have hV:=zby cZ hzp
    have hV1:=pw_pos (zs.length - 1)
    have hVl:=zco cZ.1
    have hDb:D.length<10*xs.length:=by
     have h1:=heq.out
     have h2:=HNb.out
     have h3:10 ^ D.length*1≤10 ^ D.length*val zs:=Nat.mul_le_mul_left _ (by omega)
     exact (Nat.pow_lt_pow_iff_right (by omega)).1 (show 10 ^ D.length<10 ^ (10*xs.length) by omega)
    have hVp:0<val zs:=by omega
    clear hV hV1
    have HVl:=Lib.hid hVl
    clear hVl
    go_wp2_with fail
    refine (byLimb_any _ _ _ zs _ 1000000000 _ rfl rfl hrd hzl (by omega) (by omega)).mono ?_
    rintro e w2 ⟨eo,ec,ys,rfl,hyo,hyk,hyv,hyx⟩
    have hyl:ys.length≤1000000:=Nat.le_trans (canon_len hyk (by rw [hyv];exact Nat.lt_of_le_of_lt (Nat.div_le_self _ _) HVl.out)) hzl
    have heq2:lowD D+10 ^ D.length*(val zs % 1000000000+10 ^ (9 - 0)*val ys)=N:=by
     have e:val zs % 1000000000+10 ^ (9 - 0)*val ys=val zs:=by
      rw [hyv];simp;omega
     rw [e];exact heq.out
    have Heq2:=Lib.hid heq2
    have hRb:val zs % 1000000000<10 ^ (9 - 0):=Nat.mod_lt _ (by decide)
    replace hyv:=Lib.hid hyv
    have hdec:val ys<val zs:=by rw [hyv.out];omega
    have hown2:=hown.ext hyx
    have hext2:=hext.trans hyx
    have hext0:=hext.size
    clear heq2 hown hext heq
    go_wp2_with fail
    go_loopw [3,4,18] (TextI w xs.length N (val ys) D.length eo ec ys) (fun _ _ i _=>(9 - intOf i).toNat)
    case atStart=>exact ⟨0,val zs % 1000000000,po,pc,D,by omega,rfl,rfl,hRb,rfl,rfl,by omega,hDd,hown2,hyo.mono hext0,hext2,Heq2⟩
    case round =>
     obtain ⟨j,R,po,pc,E,hj,rfl,rfl,hR,rfl,hEl,hDn,hEd,hown,hyo,hext,heq⟩:=hrel
     have hEl2:E.length≤200000:=by have:=hEl.out;omega
     by_cases hj9:j<9
     ·have hRb:R<1000000000:=Nat.lt_of_lt_of_le hR (by exact Nat.pow_le_pow_right (by omega) (by omega):10 ^ (9 - j)≤10 ^ 9)
      have e9:10 ^ (9 - j)=10*10 ^ (9 - (j+1)):=by
       rw [Nat.mul_comm,← Nat.pow_succ];congr 1;omega
      have hst:lowD (E++[48+R % 10])+10 ^ (E++[48+R % 10]).length*(R / 10+10 ^ (9 - (j+1))*val ys)=N:=by
       apply text_step
       rw [← Nat.mul_assoc,← e9];exact heq.out
      have hR':R / 10<10 ^ (9 - (j+1)):=by omega
      have Hst:=Lib.hid hst
      have HR':=Lib.hid hR'
      clear hst hR' hR e9 heq
      go_wp2_with (at_builtin;refine pushGB (wi:=w) rfl _ _ rfl _ _ E _ rfl rfl hown _ ?_ ?_ rfl ?_ rfl hext ?_;omega;omega;omega;intro ao' c' w3 hown3 hext3 hg3)
      go_roundw
      case rel =>
       have et:(48+(R:Int) % 10).toNat=48+R % 10:=by omega
       rw [et] at hown3
       exact ⟨j+1,R / 10,ao', c', E++[48+R % 10],by omega,by go_num,by go_num,HR'.out,by simp,by unfold Hid;rw [List.length_append,hEl.out];simp;omega,hDn,(fun c hc=>by rcases List.mem_append.1 hc with h | h;exact hEd c h;simp at h;omega),hown3,hyo.keptO hg3 (ownsRow_ne hyo.row hown.row (by decide)),hext3,Hst⟩
      case measure=>simp [intOf];try omega
     ·obtain rfl:j=9:=by omega
      have hR0:R=0:=by simpa using hR
      have heq3:lowD E+10 ^ E.length*val ys=N:=by have:=heq.out;rw [hR0] at this;simpa using this
      have Heq3:=Lib.hid heq3
      clear hR0 heq3 hR
      go_wp2_with fail
      go_roundg (val ys)
      case rel=>exact ⟨eo,ec,ys,po,pc,E,rfl,rfl,by have:=hEl.out;omega,hyl,hEd,hyk,hown,hyo.rd,hext,Heq3,rfl⟩
      case measure=>have:=hgk.out;omega
theorem cells32:(Value.int .u32 0).cells=#[Value.int .u32 0]:=rfl
namespace S
theorem fmod_neg_range (a:Int) {b:Int} (h:b<0):b<a.fmod b∧a.fmod b≤0:=by
 have h1:=Int.fmod_lt_of_pos (-a) (b:=-b) (by omega)
 have h2:=Int.fmod_nonneg_of_pos (-a) (b:=-b) (by omega)
 rw [Int.neg_fmod_neg] at h1 h2
 omega
theorem fmod_range (a:Int) {b:Int} (_hb:b≠0):(0<b→0≤a.fmod b∧a.fmod b<b)∧(b<0→b<a.fmod b∧a.fmod b≤0) :=
 ⟨fun h=>⟨Int.fmod_nonneg_of_pos a h,Int.fmod_lt_of_pos a h⟩,fun h=>fmod_neg_range a h⟩
theorem fmod_natAbs_lt (X:Int) {Y:Int} (hY:Y≠0):(X.fmod Y).natAbs<Y.natAbs:=by
 obtain ⟨h1,h2⟩:=fmod_range X hY
 rcases Int.lt_or_lt_of_ne hY with g | g
 ·have:=h2 g;omega
 ·have:=h1 g;omega
def bez (r0 x0 y0 r1 x1 y1:Int):Int × Int × Int :=
  if _h:r1≤0 then (r0,x0,y0) else bez r1 x1 y1 (r0.fmod r1) (x0 - r0.fdiv r1*x1) (y0 - r0.fdiv r1*y1)
  termination_by r1.natAbs
  decreasing_by exact fmod_natAbs_lt _ (by omega)
theorem tt_6:SlT Tryd.prog 66 28 2:=SlT.mk' Tryd.underlying66 (by kernel_rfl)
def allN:Nat→(Nat→Bool)→Bool
  | 0,_=>true
  | n+1,p=>allN n p && p n
theorem zcz {p:Nat→Bool}:∀ {n:Nat}, allN n p=true ↔ ∀ i,i<n→p i=true
 | 0=>by simp [allN]
 | n+1=>by
  rw [allN,Bool.and_eq_true,zcz]
  exact ⟨fun h i hi=>(Nat.lt_succ_iff_lt_or_eq.1 hi).elim (h.1 i) fun e=>e ▸ h.2,fun h=>⟨fun i hi=>h i (by omega),h n (by omega)⟩⟩
structure RelD where
  t:Term
  eq:Bool
def RelD.d (x:RelD):List D:=[.sl 3 (x.t.parts.map zdd.d),.raw (.bool x.t.k.neg),nsl x.t.k.abs,.raw (.bool x.eq)]
inductive zab where
  | mk (kind:Int) (r:RelD) (kids:List zab)
def zab.kind:zab→Int | ⟨k,_,_⟩=>k
def zab.r:zab→RelD | ⟨_,r,_⟩=>r
def zab.kids:zab→List zab | ⟨_,_,ks⟩=>ks
theorem zab.ind {P:zab→Prop} (h:∀ k r ks,(∀ g ∈ ks,P g)→P ⟨k,r,ks⟩) (f:zab):P f :=
 zab.rec (motive_1:=P) (motive_2:=fun ks=>∀ g ∈ ks,P g) h (fun g hg=>(by cases hg)) (fun a l ha has g hg=>(List.mem_cons.1 hg).elim (fun e=>e ▸ ha) (has g)) f
def zab.fold {α:Type} (g:Int→RelD→List zab→List α→α):zab→α
  | ⟨k,r,ks⟩=>g k r ks (ks.attach.map fun x=>zab.fold g x.1)
  termination_by f=>SizeOf.sizeOf f
  decreasing_by have:=List.sizeOf_lt_of_mem x.2;simp;omega
theorem zab.fold_mk {α:Type} (g:Int→RelD→List zab→List α→α) (k:Int) (r:RelD) (ks:List zab):zab.fold g ⟨k,r,ks⟩=g k r ks (ks.map (zab.fold g)):=by
 rw [zab.fold,List.attach_map_val]
theorem zab.fold_eq {α:Type} (g:Int→RelD→List zab→List α→α) (f:zab):zab.fold g f=g f.kind f.r f.kids (f.kids.map (zab.fold g)):=by cases f;exact zab.fold_mk g _ _ _
def zab.d (f:zab):List D:=f.fold fun k r _ ds=>[.raw (.int .i64 k),.sl 3 (r.t.parts.map zdd.d),.raw (.bool r.t.k.neg),nsl r.t.k.abs,.raw (.bool r.eq),.sl 6 ds]
theorem zab.d_eq (f:zab):f.d=[.raw (.int .i64 f.kind),.sl 3 (f.r.t.parts.map zdd.d),.raw (.bool f.r.t.k.neg),nsl f.r.t.k.abs,.raw (.bool f.r.eq),.sl 6 (f.kids.map zab.d)]:=zab.fold_eq _ f
theorem zab.d_len (f:zab):f.d.length=6:=by rw [zab.d_eq];rfl
def rawD (x:D):List D:=[x]
structure za0 where
  is_:Bool
  lo:ZI
  hi:ZI
def za0.d (x:za0):List D:=[.raw (.bool x.is_),.raw (.bool x.lo.neg),nsl x.lo.abs,.raw (.bool x.hi.neg),nsl x.hi.abs]
structure zan where
  v:Int
  any:Bool
  t:Term
def zan.d (x:zan):List D:=[.raw (.int .i64 x.v),.raw (.bool x.any),.sl 3 (x.t.parts.map zdd.d),.raw (.bool x.t.k.neg),nsl x.t.k.abs]
structure za5 where
  proc:Int
  from_:Int
  to_:Int
  guard:zab
  moves:List zan
def za5.d (x:za5):List D:=[.raw (.int .i64 x.proc),.raw (.int .i64 x.from_),.raw (.int .i64 x.to_),.raw (.int .i64 x.guard.kind),.sl 3 (x.guard.r.t.parts.map zdd.d),.raw (.bool x.guard.r.t.k.neg),nsl x.guard.r.t.k.abs,.raw (.bool x.guard.r.eq),.sl 6 (x.guard.kids.map zab.d),.sl 5 (x.moves.map zan.d)]
structure za2 where
  name:ByteArray
  locs:List ByteArray
  cmds:D
def za2.d (x:za2):List D:=[.raw (.string x.name),.sl 1 (x.locs.map za3),x.cmds]
structure zap where
  vars:List ByteArray
  bounds:List za0
  init:zab
  procs:List za2
  acts:List za5
def zap.d (x:zap):List D:=[.sl 1 (x.vars.map za3),.sl 5 (x.bounds.map za0.d),.raw (.int .i64 x.init.kind),.sl 3 (x.init.r.t.parts.map zdd.d),.raw (.bool x.init.r.t.k.neg),nsl x.init.r.t.k.abs,.raw (.bool x.init.r.eq),.sl 6 (x.init.kids.map zab.d),.sl 3 (x.procs.map za2.d),.sl 10 (x.acts.map za5.d)]
structure StD where
  locs:List Int
  vals:List ZI
def StD.d (x:StD):List D:=[.sl 1 (x.locs.map zdg),.sl 2 (x.vals.map ziD)]
structure zbo where
  stem:List StD
  cycle:List StD
  acts:List Int
def zbo.d (x:zbo):List D:=[.sl 2 (x.stem.map StD.d),.sl 2 (x.cycle.map StD.d),.sl 1 (x.acts.map zdg)]
abbrev zF (x:zab):List C:=[.d (.raw (.int .i64 x.kind)),.d (.sl 3 (x.r.t.parts.map zdd.d))]++zi x.r.t.k++[.d (.raw (.bool x.r.eq)),.d (.sl 6 (x.kids.map zab.d))]
abbrev zR_ (x:RelD):List C:=[.d (.sl 3 (x.t.parts.map zdd.d))]++zi x.t.k++[.d (.raw (.bool x.eq))]
abbrev vF (x:zab):V:=.t (.agg (zF x))
abbrev vR (x:RelD):V:=.t (.agg (zR_ x))
abbrev vFs (x:List zab):V:=.t (.c (.d (.sl 6 (x.map zab.d))))
abbrev vRs (x:List RelD):V:=.t (.c (.d (.sl 4 (x.map RelD.d))))
abbrev cFs (x:List zab):C:=.d (.sl 6 (x.map zab.d))
abbrev cRs (x:List RelD):C:=.d (.sl 4 (x.map RelD.d))
section
variable {P:Program}
theorem zb0.fnc {t:TypeId} {z:C} {dd:TypeDesc} (hu:P.underlying t=some dd) (ha:(match dd with | .struct _ | .array _ _=>true | _=>false)=false) (hs:(P.info? t).map (·.size)=some 1) (hz:Zero P t [z]):zb0 P t ⟨1,false,[],[z],4⟩ :=
 ⟨Sz.mk' hs hu _ ha.symm,fun k off n ag h=>(by simp at h),fun _=>hz,fun h=>absurd rfl h,fun h=>(by cases h),fun h=>(by cases h),fun h=>(by cases h),fun k h=>(by cases h)⟩
end
theorem all_take {α:Type} {q:α→Bool} {xs:List α} {j:Nat} {x:α} (h:xs[j]?=some x):(xs.take (j+1)).all q=((xs.take j).all q && q x):=by
 have e:xs.take (j+1)=xs.take j++[x]:=by rw [List.take_add_one,h];rfl
 rw [e,List.all_append];simp
theorem all_step {α:Type} {q:α→Bool} {xs:List α} {j:Nat} {x:α} (h:xs[j]?=some x) (h1:(xs.take j).all q=true) (h2:q x=true):(xs.take (j+1)).all q=true:=by rw [all_take h,h1,h2];rfl
theorem all_stop {α:Type} {q:α→Bool} {xs:List α} {j:Nat} {x:α} (h:xs[j]?=some x) (h2:q x=false):xs.all q=false:=by
 cases h3:xs.all q with
 | false=>rfl
 | true=>rw [List.all_eq_true.1 h3 x (List.mem_of_getElem? h)] at h2;cases h2
theorem all_end {α:Type} {q:α→Bool} {xs:List α} {j:Nat} (hj:¬ (j:Int)<(xs.length:Int)) (h1:(xs.take j).all q=true):xs.all q=true:=by rwa [List.take_of_length_le (by omega)] at h1
def cnt {α:Type} (k:Int) (xs:List α):List α:=if k=4∨k=5 then xs else if k=3 then xs.take 1 else []
theorem cnt_map {α β:Type} (g:α→β) (k:Int) (xs:List α):cnt k (xs.map g)=(cnt k xs).map g:=by unfold cnt;split;rfl;split;rw [List.map_take];rfl
theorem cnt_mem {α:Type} {k:Int} {xs:List α} {x:α} (h:x ∈ cnt k xs):x ∈ xs:=by
 unfold cnt at h
 split at h
 ·exact h
 ·split at h
  ·exact List.mem_of_mem_take h
  ·cases h
def sizeGo (lim:Int):List (Int→Int)→Int→Int
  | [],n=>n
  | s :: ss,n=>if n≤lim then sizeGo lim ss (n+s (lim - n)) else n
def zab.size (f:zab):Int→Int:=f.fold fun k _ _ ss lim=>sizeGo lim (cnt k ss) 1
def fewR (L:Int) (r:RelD):Bool:=decide ((r.t.parts.length:Int)≤20) && decide ((r.t.k.abs.length:Int)≤L) && r.t.parts.all fun p=>decide ((p.c.abs.length:Int)≤L)
def zab.few (L:Int) (f:zab):Bool:=f.fold fun k r _ bs=>(!(k == 2) || fewR L r) && (cnt k bs).all id
theorem zab.few_eq (L:Int) (f:zab):f.few L=((!(f.kind == 2) || fewR L f.r) && (cnt f.kind f.kids).all (zab.few L)):=by
 have:=zab.fold_eq (fun k r _ (bs:List Bool)=>(!(k == 2) || fewR L r) && (cnt k bs).all id) f
 rw [cnt_map,List.all_map] at this;exact this
def fewF (f:zab) (most L:Int):Bool:=!decide (f.size most>most) && f.few L
def TokR (L:Nat) (r:RelD):Prop:=TOk 20 L r.t
def zab.ok (L:Nat) (f:zab):Prop:=f.fold fun k r _ ps=>(k=2→TokR L r)∧∀ p ∈ cnt k ps,p
theorem zab.ok_eq (L:Nat) (f:zab):f.ok L ↔ (f.kind=2→TokR L f.r)∧∀ g ∈ cnt f.kind f.kids,g.ok L:=by
 have:=zab.fold_eq (fun k r _ (ps:List Prop)=>(k=2→TokR L r)∧∀ p ∈ cnt k ps,p) f
 rw [cnt_map] at this
 unfold zab.ok
 rw [this]
 refine and_congr_right fun _=>⟨fun h g hg=>h _ (List.mem_map.2 ⟨g,hg,rfl⟩),fun h p hp=>?_⟩
 obtain ⟨g,hg,rfl⟩:=List.mem_map.1 hp
 exact h g hg
def zab.lb (f:zab):Prop:=f.fold fun _ r ks ps=>(TLb r.t∧ks.length≤9223372036854775807)∧∀ p ∈ ps,p
theorem zab.lb_eq (f:zab):f.lb ↔ (TLb f.r.t∧f.kids.length≤9223372036854775807)∧∀ g ∈ f.kids,g.lb:=by
 have:=zab.fold_eq (fun _ r ks (ps:List Prop)=>(TLb r.t∧ks.length≤9223372036854775807)∧∀ p ∈ ps,p) f
 unfold zab.lb
 rw [this]
 refine and_congr_right fun _=>⟨fun h g hg=>h _ (List.mem_map.2 ⟨g,hg,rfl⟩),fun h p hp=>?_⟩
 obtain ⟨g,hg,rfl⟩:=List.mem_map.1 hp
 exact h g hg
theorem fewR_ok {L:Nat} {r:RelD} (h:fewR L r=true) (hl:TLb r.t):TokR L r:=by
 simp only [fewR,Bool.and_eq_true,decide_eq_true_eq,List.all_eq_true] at h
 exact ⟨by omega,fun p hp=>⟨hl.2 p hp,by have:=h.2 p hp;omega⟩,hl.1,by omega⟩
theorem zab.few_ok {L:Nat} (f:zab):f.few L=true→f.lb→f.ok L :=
 zab.ind (P:=fun f=>f.few L=true→f.lb→f.ok L) (fun k r ks ih h hl=>by
  rw [zab.few_eq,Bool.and_eq_true] at h
  rw [zab.lb_eq] at hl
  rw [zab.ok_eq]
  refine ⟨fun hk=>fewR_ok (by have:=h.1;rw [show ((zab.mk k r ks).kind == 2)=true from by rw [hk];rfl] at this;simpa using this) hl.1.1,fun g hg=>ih g (cnt_mem hg) (List.all_eq_true.1 h.2 g hg) (hl.2 g (cnt_mem hg))⟩) f
theorem kf_5:SlT Tryd.prog 36 65 3:=SlT.mk' Tryd.underlying36 (by kernel_rfl)
def zero0:ZI:=⟨false,[]⟩
def ZOk (L:Nat) (z:ZI):Prop:=Lb z.abs∧z.abs.length≤L
structure ActOk (L:Nat) (a:za5):Prop where
  guard:a.guard.lb∧a.guard.ok L
  len:a.moves.length≤20
  mv:∀ m ∈ a.moves,TOk 20 L m.t
structure SysOk (L:Nat) (s:zap):Prop where
  vars:s.vars.length≤8
  bnds:s.bounds.length≤20
  procs:s.procs.length≤6
  acts:s.acts.length≤20
  bnd:∀ b ∈ s.bounds,ZOk L b.lo∧ZOk L b.hi
  init:s.init.lb∧s.init.ok L
  act:∀ a ∈ s.acts,ActOk L a
structure StOk (M:Nat) (x:StD):Prop where
  locs:x.locs.length≤10
  vals:x.vals.length≤10
  val:∀ z ∈ x.vals,ZOk M z
theorem ki_0:Sz Tryd.prog 101 10 true:=Sz.mk' (by kernel_rfl) Tryd.underlying101 _ rfl
theorem ki_1:SlT Tryd.prog 37 101 10:=SlT.mk' Tryd.underlying37 (by kernel_rfl)
def form0:zab:=⟨0,⟨⟨[],zero0⟩,false⟩,[]⟩
def zc3:za5:=⟨0,0,0,form0,[]⟩
section
variable {P:Program}
theorem Op.strEq {d:Nat} {x y:Operand} {s1 s2:ByteArray} {r:Bool} {rs rs':List (Nat × V)} {xt yt ty:TypeId} {pos af gd} (h:OV x (vs s1) rs) (h':OV y (vs s2) rs') (hr:(s1.toList == s2.toList)=r) :
  zaw P ⟨some d,.binOp .eql xt x y yt,ty,pos,af,gd⟩ { rs:=rs++rs', ws:=[(d,some (vb r))] }:=by
 subst hr
 refine Op.raw2 rfl h h' rfl fun ρ w h1 h2=>?_
 simp [execOp,h1,h2,eqGuard,go_sem]
theorem Op.strAdd {d:Nat} {x y:Operand} {s1 s2 r:ByteArray} {rs rs':List (Nat × V)} {xt yt ty:TypeId} {pos af gd} (h:OV x (vs s1) rs) (h':OV y (vs s2) rs') (hl:s1.size+s2.size≤9223372036854775807) (hr:s1++s2=r) :
  zaw P ⟨some d,.binOp .add xt x y yt,ty,pos,af,gd⟩ { rs:=rs++rs', ws:=[(d,some (vs r))] }:=by
 subst hr
 refine Op.raw2 rfl h h' rfl fun ρ w h1 h2=>?_
 have hn:¬ (((s1.size+s2.size:Nat):Int)>IntKind.i64.max):=by
  have:IntKind.i64.max=9223372036854775807:=rfl
  omega
 have hs:Op.stringOp .add s1 s2=pure (.string (s1++s2)):=by
  unfold Op.stringOp
  simp only [hn,if_false]
 simp [execOp,h1,h2,eqGuard,binOp_string_add,hs]
end
theorem pa1_0:Sz Tryd.prog 65 3 true:=Sz.mk' (by kernel_rfl) Tryd.underlying65 _ rfl
theorem pa1_4:SlT Tryd.prog 22 9 1:=SlT.mk' Tryd.underlying22 (by kernel_rfl)
def atI {α:Type} (xs:List α) (i:Int):Option α:=if 0≤i then xs[i.toNat]? else none
theorem zb7 {α:Type} {xs:List α} {i:Int} {y:α} (h:atI xs i=some y):∃ k:Nat,i=(k:Int)∧xs[k]?=some y:=by
 unfold atI at h
 split at h
 ·exact ⟨i.toNat,(Int.toNat_of_nonneg (by assumption)).symm,h⟩
 ·cases h
theorem atI_no {α:Type} {xs:List α} {i:Int} (h:atI xs i=none) (h0:¬ i<0):i≥(xs.length:Int):=by
 unfold atI at h
 rw [if_pos (by omega)] at h
 have:=List.getElem?_eq_none_iff.1 h
 omega
theorem zbh {α:Type} {xs:List α} {k:Nat}:atI xs (k:Int)=xs[k]?:=by unfold atI;rw [if_pos (by omega),Int.toNat_natCast]
def zc1:za2:=⟨⟨#[]⟩,[],.raw za6⟩
def plW (s:zap) (p l:Int):ByteArray:=match atI s.procs p with
  | none=>⟨#[63,64,63]⟩
  | some pr=>(pr.name++⟨#[64]⟩)++(match atI pr.locs l with | none=>⟨#[63]⟩ | some t=>t)
set_option maxHeartbeats 4000000 in
theorem PAtPN (xs:List za2) (i:Int) (hi:atI xs i=none):Fn Tryd.prog 46 [] [.t (.c (.d (.sl 3 (xs.map za2.d)))),vi .i64 i] (.tup [.agg [.d (.raw (.string zc1.name)),.d (.sl 1 (zc1.locs.map za3)),.d zc1.cmds],.c (cB false)]) []:=by
 refine Fn.body Tryd.func46 rfl 20 rfl fun w H B a h=>?_
 refine rq za1 0 [] [(0,.t (.c (.d (.sl 3 (xs.map za2.d))))),(1,vi .i64 i),(4,vp 0 0),(5,vb false)] [(0,.box [.d (.raw (.string ByteArray.empty)),.d (.raw za6),.d (.raw za6)])] h ?_;clear h;intro a w h
 refine rq za1 1 [] [(0,.t (.c (.d (.sl 3 (xs.map za2.d))))),(1,vi .i64 i),(4,vp 0 0),(5,vb false),(6,vp 1 0)] [(0,.box [.d (.raw (.string ByteArray.empty)),.d (.raw za6),.d (.raw za6)]),(1,.box [.d (.raw (.string ByteArray.empty)),.d (.raw za6),.d (.raw za6)])] h ?_;clear h;intro a w h
 refine wp_seq ?_
 rcases Bool.eq_false_or_eq_true (decide (i<0)) with hc | hc
 ·have hc1:=hc;clear hc
  have hc1':=of_decide_eq_true hc1
  refine rq za1 2 [(1,.cmp (op:=.lss) (m:=i) (n:=0) (b:=true) .i64 hc1)] [(0,.t (.c (.d (.sl 3 (xs.map za2.d))))),(1,vi .i64 i),(4,vp 0 0),(5,vb false),(6,vp 1 0),(14,vb true)] [(0,.box [.d (.raw (.string ByteArray.empty)),.d (.raw za6),.d (.raw za6)]),(1,.box [.d (.raw (.string ByteArray.empty)),.d (.raw za6),.d (.raw za6)])] h ?_;clear h;intro a w h
  refine zac true h rfl (fun hc=>?_) (fun hc=>?_)
  ·clear hc
   refine rq za1 2 [] [(0,.t (.c (.d (.sl 3 (xs.map za2.d))))),(1,vi .i64 i),(4,vp 0 0),(5,vb false)] [(0,.box [.d (.raw (.string ByteArray.empty)),.d (.raw za6),.d (.raw za6)])] h ?_;clear h;intro a w h
   refine wp_ret (zah ?_)
   replace h:=zck 0 1 1 [.d (.raw (.string ByteArray.empty)),.d (.raw za6),.d (.raw za6)] [(0,.t (.c (.d (.sl 3 (xs.map za2.d))))),(1,vi .i64 i),(4,vp 0 0),(5,vb false)] [(0,.box [.d (.raw (.string ByteArray.empty)),.d (.sl 1 ([].map za3)),.d (.raw za6)])] h rfl rfl
   refine zaz [.agg [.d (.raw (.string ByteArray.empty)),.d (.sl 1 ([].map za3)),.d (.raw za6)],.c (cB false)] h Exit.ret (.inl rfl)  rfl ⟨RV.agg _ 0 0 _ _ _ _ pa1_0 rfl rfl rfl rfl,RV.tmp _ _ rfl,trivial⟩ ?_
   rfl
  ·cases hc
 ·have hc2:=hc;clear hc
  have hc2':=of_decide_eq_false hc2
  refine rq za1 2 [(1,.cmp (op:=.lss) (m:=i) (n:=0) (b:=false) .i64 hc2),(5,.len (c:=(.d (.sl 3 (xs.map za2.d)))) (n:=xs.length) (za8 _ _ _)),(6,.cmp (op:=.geq) (m:=i) (n:=(xs.length:Int)) (b:=true) .i64 (decide_eq_true (atI_no hi (of_decide_eq_false hc2))))] [(0,.t (.c (.d (.sl 3 (xs.map za2.d))))),(1,vi .i64 i),(4,vp 0 0),(5,vb false),(6,vp 1 0),(14,vb true)] [(0,.box [.d (.raw (.string ByteArray.empty)),.d (.raw za6),.d (.raw za6)]),(1,.box [.d (.raw (.string ByteArray.empty)),.d (.raw za6),.d (.raw za6)])] h ?_;clear h;intro a w h
  refine zac true h rfl (fun hc=>?_) (fun hc=>?_)
  ·clear hc
   refine rq za1 2 [] [(0,.t (.c (.d (.sl 3 (xs.map za2.d))))),(1,vi .i64 i),(4,vp 0 0),(5,vb false)] [(0,.box [.d (.raw (.string ByteArray.empty)),.d (.raw za6),.d (.raw za6)])] h ?_;clear h;intro a w h
   refine wp_ret (zah ?_)
   replace h:=zck 0 1 1 [.d (.raw (.string ByteArray.empty)),.d (.raw za6),.d (.raw za6)] [(0,.t (.c (.d (.sl 3 (xs.map za2.d))))),(1,vi .i64 i),(4,vp 0 0),(5,vb false)] [(0,.box [.d (.raw (.string ByteArray.empty)),.d (.sl 1 ([].map za3)),.d (.raw za6)])] h rfl rfl
   refine zaz [.agg [.d (.raw (.string ByteArray.empty)),.d (.sl 1 ([].map za3)),.d (.raw za6)],.c (cB false)] h Exit.ret (.inl rfl)  rfl ⟨RV.agg _ 0 0 _ _ _ _ pa1_0 rfl rfl rfl rfl,RV.tmp _ _ rfl,trivial⟩ ?_
   rfl
  ·cases hc
set_option maxHeartbeats 4000000 in
theorem PAtPS0 (xs:List za2) (k:Nat) (y:za2) (hk:xs[k]?=some y):Fn Tryd.prog 46 [] [.t (.c (.d (.sl 3 (xs.map za2.d)))),vi .i64 (k:Int)] (.tup [.agg [.d (.raw (.string y.name)),.d (.sl 1 (y.locs.map za3)),.d y.cmds],.c (cB true)]) []:=by
 have lk:=zao hk
 refine Fn.body Tryd.func46 rfl 20 rfl fun w H B a h=>?_
 refine rq za1 0 [] [(0,.t (.c (.d (.sl 3 (xs.map za2.d))))),(1,vi .i64 (k:Int)),(4,vp 0 0),(5,vb false)] [(0,.box [.d (.raw (.string ByteArray.empty)),.d (.raw za6),.d (.raw za6)])] h ?_;clear h;intro a w h
 refine rq za1 1 [] [(0,.t (.c (.d (.sl 3 (xs.map za2.d))))),(1,vi .i64 (k:Int)),(4,vp 0 0),(5,vb false),(6,vp 1 0)] [(0,.box [.d (.raw (.string ByteArray.empty)),.d (.raw za6),.d (.raw za6)]),(1,.box [.d (.raw (.string ByteArray.empty)),.d (.raw za6),.d (.raw za6)])] h ?_;clear h;intro a w h
 refine wp_seq (rq za1 2 [(1,.cmp (op:=.lss) (m:=(k:Int)) (n:=0) (b:=false) .i64 (show (decide ((k:Int)<0))=false from decide_eq_false (by omega))),(5,.len (c:=(.d (.sl 3 (xs.map za2.d)))) (n:=xs.length) (za8 _ _ _)),(6,.cmp (op:=.geq) (m:=(k:Int)) (n:=(xs.length:Int)) (b:=false) .i64 (show (decide ((k:Int)≥(xs.length:Int)))=false from decide_eq_false (by omega)))] [(0,.t (.c (.d (.sl 3 (xs.map za2.d))))),(1,vi .i64 (k:Int)),(4,vp 0 0),(5,vb false),(6,vp 1 0),(14,vb false)] [(0,.box [.d (.raw (.string ByteArray.empty)),.d (.raw za6),.d (.raw za6)]),(1,.box [.d (.raw (.string ByteArray.empty)),.d (.raw za6),.d (.raw za6)])] h ?_);clear h;intro a w h
 refine zac false h rfl (fun hc=>?_) (fun hc=>?_)
 ·cases hc
 ·clear hc
  refine wp_skip (za4 (rq za1 2 [(2,.gen _ _ _ fun _ _ _ _=>Op.idxD (d:=18) (t:=16) (k:=.i64) kf_5 (zam hk (f:=za2.d)) (OV.tmp 17 _))] [(4,vp 0 0),(5,vb true)] [(0,.box [.d (.raw (.string y.name)),.d (.sl 1 (y.locs.map za3)),.d y.cmds])] h ?_));clear h;intro a w h
  refine wp_ret ?_
  refine zaz [.agg [.d (.raw (.string y.name)),.d (.sl 1 (y.locs.map za3)),.d y.cmds],.c (cB true)] h Exit.ret (.inl rfl)  rfl ⟨RV.agg _ 0 0 _ _ _ _ pa1_0 rfl rfl rfl rfl,RV.tmp _ _ rfl,trivial⟩ ?_
  rfl
theorem PAtPS (xs:List za2) (i:Int) (y:za2) (hi:atI xs i=some y):Fn Tryd.prog 46 [] [.t (.c (.d (.sl 3 (xs.map za2.d)))),vi .i64 i] (.tup [.agg [.d (.raw (.string y.name)),.d (.sl 1 (y.locs.map za3)),.d y.cmds],.c (cB true)]) []:=by
 obtain ⟨k,rfl,hk⟩:=zb7 hi
 exact PAtPS0 xs k y hk
set_option maxHeartbeats 4000000 in
theorem PAtAN (xs:List za5) (i:Int) (hi:atI xs i=none):Fn Tryd.prog 45 [] [.t (.c (.d (.sl 10 (xs.map za5.d)))),vi .i64 i] (.tup [.agg ([cI zc3.proc,cI zc3.from_,cI zc3.to_,cI zc3.guard.kind,cPs zc3.guard.r.t.parts]++zi zc3.guard.r.t.k++[cB zc3.guard.r.eq,cFs zc3.guard.kids,.d (.sl 5 (zc3.moves.map zan.d))]),.c (cB false)]) []:=by
 refine Fn.body Tryd.func45 rfl 20 rfl fun w H B a h=>?_
 refine rq za1 0 [] [(0,.t (.c (.d (.sl 10 (xs.map za5.d))))),(1,vi .i64 i),(4,vp 0 0),(5,vb false)] [(0,.box [cI 0,cI 0,cI 0,cI 0,.d (.raw za6),cB false,.d (nsl []),cB false,.d (.raw za6),.d (.raw za6)])] h ?_;clear h;intro a w h
 refine rq za1 1 [] [(0,.t (.c (.d (.sl 10 (xs.map za5.d))))),(1,vi .i64 i),(4,vp 0 0),(5,vb false),(6,vp 1 0)] [(0,.box [cI 0,cI 0,cI 0,cI 0,.d (.raw za6),cB false,.d (nsl []),cB false,.d (.raw za6),.d (.raw za6)]),(1,.box [cI 0,cI 0,cI 0,cI 0,.d (.raw za6),cB false,.d (nsl []),cB false,.d (.raw za6),.d (.raw za6)])] h ?_;clear h;intro a w h
 refine wp_seq ?_
 rcases Bool.eq_false_or_eq_true (decide (i<0)) with hc | hc
 ·have hc1:=hc;clear hc
  have hc1':=of_decide_eq_true hc1
  refine rq za1 2 [(1,.cmp (op:=.lss) (m:=i) (n:=0) (b:=true) .i64 hc1)] [(0,.t (.c (.d (.sl 10 (xs.map za5.d))))),(1,vi .i64 i),(4,vp 0 0),(5,vb false),(6,vp 1 0),(14,vb true)] [(0,.box [cI 0,cI 0,cI 0,cI 0,.d (.raw za6),cB false,.d (nsl []),cB false,.d (.raw za6),.d (.raw za6)]),(1,.box [cI 0,cI 0,cI 0,cI 0,.d (.raw za6),cB false,.d (nsl []),cB false,.d (.raw za6),.d (.raw za6)])] h ?_;clear h;intro a w h
  refine zac true h rfl (fun hc=>?_) (fun hc=>?_)
  ·clear hc
   refine rq za1 2 [] [(0,.t (.c (.d (.sl 10 (xs.map za5.d))))),(1,vi .i64 i),(4,vp 0 0),(5,vb false)] [(0,.box [cI 0,cI 0,cI 0,cI 0,.d (.raw za6),cB false,.d (nsl []),cB false,.d (.raw za6),.d (.raw za6)])] h ?_;clear h;intro a w h
   refine wp_ret (zah ?_)
   replace h:=zck 0 4 3 [cI 0,cI 0,cI 0,cI 0,.d (.raw za6),cB false,.d (nsl []),cB false,.d (.raw za6),.d (.raw za6)] [(0,.t (.c (.d (.sl 10 (xs.map za5.d))))),(1,vi .i64 i),(4,vp 0 0),(5,vb false)] [(0,.box [cI 0,cI 0,cI 0,cI 0,cPs [],cB false,.d (nsl []),cB false,.d (.raw za6),.d (.raw za6)])] h rfl rfl
   replace h:=zck 0 8 6 [cI 0,cI 0,cI 0,cI 0,cPs [],cB false,.d (nsl []),cB false,.d (.raw za6),.d (.raw za6)] [(0,.t (.c (.d (.sl 10 (xs.map za5.d))))),(1,vi .i64 i),(4,vp 0 0),(5,vb false)] [(0,.box [cI 0,cI 0,cI 0,cI 0,cPs [],cB false,.d (nsl []),cB false,cFs [],.d (.raw za6)])] h rfl rfl
   replace h:=zck 0 9 5 [cI 0,cI 0,cI 0,cI 0,cPs [],cB false,.d (nsl []),cB false,cFs [],.d (.raw za6)] [(0,.t (.c (.d (.sl 10 (xs.map za5.d))))),(1,vi .i64 i),(4,vp 0 0),(5,vb false)] [(0,.box [cI 0,cI 0,cI 0,cI 0,cPs [],cB false,.d (nsl []),cB false,cFs [],.d (.sl 5 ([].map zan.d))])] h rfl rfl
   refine zaz [.agg [cI 0,cI 0,cI 0,cI 0,cPs [],cB false,.d (nsl []),cB false,cFs [],.d (.sl 5 ([].map zan.d))],.c (cB false)] h Exit.ret (.inl rfl)  rfl ⟨RV.agg _ 0 0 _ _ _ _ ki_0 rfl rfl rfl rfl,RV.tmp _ _ rfl,trivial⟩ ?_
   rfl
  ·cases hc
 ·have hc2:=hc;clear hc
  have hc2':=of_decide_eq_false hc2
  refine rq za1 2 [(1,.cmp (op:=.lss) (m:=i) (n:=0) (b:=false) .i64 hc2),(5,.len (c:=(.d (.sl 10 (xs.map za5.d)))) (n:=xs.length) (za8 _ _ _)),(6,.cmp (op:=.geq) (m:=i) (n:=(xs.length:Int)) (b:=true) .i64 (decide_eq_true (atI_no hi (of_decide_eq_false hc2))))] [(0,.t (.c (.d (.sl 10 (xs.map za5.d))))),(1,vi .i64 i),(4,vp 0 0),(5,vb false),(6,vp 1 0),(14,vb true)] [(0,.box [cI 0,cI 0,cI 0,cI 0,.d (.raw za6),cB false,.d (nsl []),cB false,.d (.raw za6),.d (.raw za6)]),(1,.box [cI 0,cI 0,cI 0,cI 0,.d (.raw za6),cB false,.d (nsl []),cB false,.d (.raw za6),.d (.raw za6)])] h ?_;clear h;intro a w h
  refine zac true h rfl (fun hc=>?_) (fun hc=>?_)
  ·clear hc
   refine rq za1 2 [] [(0,.t (.c (.d (.sl 10 (xs.map za5.d))))),(1,vi .i64 i),(4,vp 0 0),(5,vb false)] [(0,.box [cI 0,cI 0,cI 0,cI 0,.d (.raw za6),cB false,.d (nsl []),cB false,.d (.raw za6),.d (.raw za6)])] h ?_;clear h;intro a w h
   refine wp_ret (zah ?_)
   replace h:=zck 0 4 3 [cI 0,cI 0,cI 0,cI 0,.d (.raw za6),cB false,.d (nsl []),cB false,.d (.raw za6),.d (.raw za6)] [(0,.t (.c (.d (.sl 10 (xs.map za5.d))))),(1,vi .i64 i),(4,vp 0 0),(5,vb false)] [(0,.box [cI 0,cI 0,cI 0,cI 0,cPs [],cB false,.d (nsl []),cB false,.d (.raw za6),.d (.raw za6)])] h rfl rfl
   replace h:=zck 0 8 6 [cI 0,cI 0,cI 0,cI 0,cPs [],cB false,.d (nsl []),cB false,.d (.raw za6),.d (.raw za6)] [(0,.t (.c (.d (.sl 10 (xs.map za5.d))))),(1,vi .i64 i),(4,vp 0 0),(5,vb false)] [(0,.box [cI 0,cI 0,cI 0,cI 0,cPs [],cB false,.d (nsl []),cB false,cFs [],.d (.raw za6)])] h rfl rfl
   replace h:=zck 0 9 5 [cI 0,cI 0,cI 0,cI 0,cPs [],cB false,.d (nsl []),cB false,cFs [],.d (.raw za6)] [(0,.t (.c (.d (.sl 10 (xs.map za5.d))))),(1,vi .i64 i),(4,vp 0 0),(5,vb false)] [(0,.box [cI 0,cI 0,cI 0,cI 0,cPs [],cB false,.d (nsl []),cB false,cFs [],.d (.sl 5 ([].map zan.d))])] h rfl rfl
   refine zaz [.agg [cI 0,cI 0,cI 0,cI 0,cPs [],cB false,.d (nsl []),cB false,cFs [],.d (.sl 5 ([].map zan.d))],.c (cB false)] h Exit.ret (.inl rfl)  rfl ⟨RV.agg _ 0 0 _ _ _ _ ki_0 rfl rfl rfl rfl,RV.tmp _ _ rfl,trivial⟩ ?_
   rfl
  ·cases hc
set_option maxHeartbeats 4000000 in
theorem PAtAS0 (xs:List za5) (k:Nat) (y:za5) (hk:xs[k]?=some y):Fn Tryd.prog 45 [] [.t (.c (.d (.sl 10 (xs.map za5.d)))),vi .i64 (k:Int)] (.tup [.agg ([cI y.proc,cI y.from_,cI y.to_,cI y.guard.kind,cPs y.guard.r.t.parts]++zi y.guard.r.t.k++[cB y.guard.r.eq,cFs y.guard.kids,.d (.sl 5 (y.moves.map zan.d))]),.c (cB true)]) []:=by
 have lk:=zao hk
 refine Fn.body Tryd.func45 rfl 20 rfl fun w H B a h=>?_
 refine rq za1 0 [] [(0,.t (.c (.d (.sl 10 (xs.map za5.d))))),(1,vi .i64 (k:Int)),(4,vp 0 0),(5,vb false)] [(0,.box [cI 0,cI 0,cI 0,cI 0,.d (.raw za6),cB false,.d (nsl []),cB false,.d (.raw za6),.d (.raw za6)])] h ?_;clear h;intro a w h
 refine rq za1 1 [] [(0,.t (.c (.d (.sl 10 (xs.map za5.d))))),(1,vi .i64 (k:Int)),(4,vp 0 0),(5,vb false),(6,vp 1 0)] [(0,.box [cI 0,cI 0,cI 0,cI 0,.d (.raw za6),cB false,.d (nsl []),cB false,.d (.raw za6),.d (.raw za6)]),(1,.box [cI 0,cI 0,cI 0,cI 0,.d (.raw za6),cB false,.d (nsl []),cB false,.d (.raw za6),.d (.raw za6)])] h ?_;clear h;intro a w h
 refine wp_seq (rq za1 2 [(1,.cmp (op:=.lss) (m:=(k:Int)) (n:=0) (b:=false) .i64 (show (decide ((k:Int)<0))=false from decide_eq_false (by omega))),(5,.len (c:=(.d (.sl 10 (xs.map za5.d)))) (n:=xs.length) (za8 _ _ _)),(6,.cmp (op:=.geq) (m:=(k:Int)) (n:=(xs.length:Int)) (b:=false) .i64 (show (decide ((k:Int)≥(xs.length:Int)))=false from decide_eq_false (by omega)))] [(0,.t (.c (.d (.sl 10 (xs.map za5.d))))),(1,vi .i64 (k:Int)),(4,vp 0 0),(5,vb false),(6,vp 1 0),(14,vb false)] [(0,.box [cI 0,cI 0,cI 0,cI 0,.d (.raw za6),cB false,.d (nsl []),cB false,.d (.raw za6),.d (.raw za6)]),(1,.box [cI 0,cI 0,cI 0,cI 0,.d (.raw za6),cB false,.d (nsl []),cB false,.d (.raw za6),.d (.raw za6)])] h ?_);clear h;intro a w h
 refine zac false h rfl (fun hc=>?_) (fun hc=>?_)
 ·cases hc
 ·clear hc
  refine wp_skip (za4 (rq za1 2 [(2,.gen _ _ _ fun _ _ _ _=>Op.idxD (d:=18) (t:=16) (k:=.i64) ki_1 (zam hk (f:=za5.d)) (OV.tmp 17 _))] [(4,vp 0 0),(5,vb true)] [(0,.box ([cI y.proc,cI y.from_,cI y.to_,cI y.guard.kind,cPs y.guard.r.t.parts]++zi y.guard.r.t.k++[cB y.guard.r.eq,cFs y.guard.kids,.d (.sl 5 (y.moves.map zan.d))]))] h ?_));clear h;intro a w h
  refine wp_ret ?_
  refine zaz [.agg ([cI y.proc,cI y.from_,cI y.to_,cI y.guard.kind,cPs y.guard.r.t.parts]++zi y.guard.r.t.k++[cB y.guard.r.eq,cFs y.guard.kids,.d (.sl 5 (y.moves.map zan.d))]),.c (cB true)] h Exit.ret (.inl rfl)  rfl ⟨RV.agg _ 0 0 _ _ _ _ ki_0 rfl rfl rfl rfl,RV.tmp _ _ rfl,trivial⟩ ?_
  rfl
theorem PAtAS (xs:List za5) (i:Int) (y:za5) (hi:atI xs i=some y):Fn Tryd.prog 45 [] [.t (.c (.d (.sl 10 (xs.map za5.d)))),vi .i64 i] (.tup [.agg ([cI y.proc,cI y.from_,cI y.to_,cI y.guard.kind,cPs y.guard.r.t.parts]++zi y.guard.r.t.k++[cB y.guard.r.eq,cFs y.guard.kids,.d (.sl 5 (y.moves.map zan.d))]),.c (cB true)]) []:=by
 obtain ⟨k,rfl,hk⟩:=zb7 hi
 exact PAtAS0 xs k y hk
set_option maxHeartbeats 4000000 in
theorem PAtTN (xs:List ByteArray) (i:Int) (hi:atI xs i=none):Fn Tryd.prog 42 [] [.t (.c (.d (.sl 1 (xs.map za3)))),vi .i64 i] (.tup [.c (.d (.raw (.string (⟨#[]⟩:ByteArray)))),.c (cB false)]) []:=by
 refine Fn.body Tryd.func42 rfl 20 rfl fun w H B a h=>?_
 refine rq za1 0 [] [(0,.t (.c (.d (.sl 1 (xs.map za3))))),(1,vi .i64 i),(4,.t (.c (.d (.raw (.string ByteArray.empty))))),(5,vb false)] [] h ?_;clear h;intro a w h
 refine rq za1 0 [] [(0,.t (.c (.d (.sl 1 (xs.map za3))))),(1,vi .i64 i),(4,.t (.c (.d (.raw (.string ByteArray.empty))))),(5,vb false),(6,.t (.c (.d (.raw (.string ByteArray.empty)))))] [] h ?_;clear h;intro a w h
 refine wp_seq ?_
 rcases Bool.eq_false_or_eq_true (decide (i<0)) with hc | hc
 ·have hc1:=hc;clear hc
  have hc1':=of_decide_eq_true hc1
  refine rq za1 0 [(1,.cmp (op:=.lss) (m:=i) (n:=0) (b:=true) .i64 hc1)] [(0,.t (.c (.d (.sl 1 (xs.map za3))))),(1,vi .i64 i),(4,.t (.c (.d (.raw (.string ByteArray.empty))))),(5,vb false),(6,.t (.c (.d (.raw (.string ByteArray.empty))))),(14,vb true)] [] h ?_;clear h;intro a w h
  refine zac true h rfl (fun hc=>?_) (fun hc=>?_)
  ·clear hc
   refine rq za1 0 [] [(0,.t (.c (.d (.sl 1 (xs.map za3))))),(1,vi .i64 i),(4,.t (.c (.d (.raw (.string ByteArray.empty))))),(5,vb false)] [] h ?_;clear h;intro a w h
   refine wp_ret (zah ?_)
   refine zaz [.c (.d (.raw (.string ByteArray.empty))),.c (cB false)] h Exit.ret (.inl rfl)  rfl ⟨RV.tmp _ _ rfl,RV.tmp _ _ rfl,trivial⟩ ?_
   rfl
  ·cases hc
 ·have hc2:=hc;clear hc
  have hc2':=of_decide_eq_false hc2
  refine rq za1 0 [(1,.cmp (op:=.lss) (m:=i) (n:=0) (b:=false) .i64 hc2),(5,.len (c:=(.d (.sl 1 (xs.map za3)))) (n:=xs.length) (za8 _ _ _)),(6,.cmp (op:=.geq) (m:=i) (n:=(xs.length:Int)) (b:=true) .i64 (decide_eq_true (atI_no hi (of_decide_eq_false hc2))))] [(0,.t (.c (.d (.sl 1 (xs.map za3))))),(1,vi .i64 i),(4,.t (.c (.d (.raw (.string ByteArray.empty))))),(5,vb false),(6,.t (.c (.d (.raw (.string ByteArray.empty))))),(14,vb true)] [] h ?_;clear h;intro a w h
  refine zac true h rfl (fun hc=>?_) (fun hc=>?_)
  ·clear hc
   refine rq za1 0 [] [(0,.t (.c (.d (.sl 1 (xs.map za3))))),(1,vi .i64 i),(4,.t (.c (.d (.raw (.string ByteArray.empty))))),(5,vb false)] [] h ?_;clear h;intro a w h
   refine wp_ret (zah ?_)
   refine zaz [.c (.d (.raw (.string ByteArray.empty))),.c (cB false)] h Exit.ret (.inl rfl)  rfl ⟨RV.tmp _ _ rfl,RV.tmp _ _ rfl,trivial⟩ ?_
   rfl
  ·cases hc
set_option maxHeartbeats 4000000 in
theorem PAtTS0 (xs:List ByteArray) (k:Nat) (y:ByteArray) (hk:xs[k]?=some y):Fn Tryd.prog 42 [] [.t (.c (.d (.sl 1 (xs.map za3)))),vi .i64 (k:Int)] (.tup [.c (.d (.raw (.string y))),.c (cB true)]) []:=by
 have lk:=zao hk
 refine Fn.body Tryd.func42 rfl 20 rfl fun w H B a h=>?_
 refine rq za1 0 [] [(0,.t (.c (.d (.sl 1 (xs.map za3))))),(1,vi .i64 (k:Int)),(4,.t (.c (.d (.raw (.string ByteArray.empty))))),(5,vb false)] [] h ?_;clear h;intro a w h
 refine rq za1 0 [] [(0,.t (.c (.d (.sl 1 (xs.map za3))))),(1,vi .i64 (k:Int)),(4,.t (.c (.d (.raw (.string ByteArray.empty))))),(5,vb false),(6,.t (.c (.d (.raw (.string ByteArray.empty)))))] [] h ?_;clear h;intro a w h
 refine wp_seq (rq za1 0 [(1,.cmp (op:=.lss) (m:=(k:Int)) (n:=0) (b:=false) .i64 (show (decide ((k:Int)<0))=false from decide_eq_false (by omega))),(5,.len (c:=(.d (.sl 1 (xs.map za3)))) (n:=xs.length) (za8 _ _ _)),(6,.cmp (op:=.geq) (m:=(k:Int)) (n:=(xs.length:Int)) (b:=false) .i64 (show (decide ((k:Int)≥(xs.length:Int)))=false from decide_eq_false (by omega)))] [(0,.t (.c (.d (.sl 1 (xs.map za3))))),(1,vi .i64 (k:Int)),(4,.t (.c (.d (.raw (.string ByteArray.empty))))),(5,vb false),(6,.t (.c (.d (.raw (.string ByteArray.empty))))),(14,vb false)] [] h ?_);clear h;intro a w h
 refine zac false h rfl (fun hc=>?_) (fun hc=>?_)
 ·cases hc
 ·clear hc
  refine wp_skip (za4 (rq za1 0 [(2,.gen _ _ _ fun _ _ _ _=>Op.idxD (d:=18) (t:=16) (k:=.i64) pa1_4 (zam hk (f:=za3)) (OV.tmp 17 _))] [(4,.t (.c (.d (.raw (.string y))))),(5,vb true)] [] h ?_));clear h;intro a w h
  refine wp_ret ?_
  refine zaz [.c (.d (.raw (.string y))),.c (cB true)] h Exit.ret (.inl rfl)  rfl ⟨RV.tmp _ _ rfl,RV.tmp _ _ rfl,trivial⟩ ?_
  rfl
theorem PAtTS (xs:List ByteArray) (i:Int) (y:ByteArray) (hi:atI xs i=some y):Fn Tryd.prog 42 [] [.t (.c (.d (.sl 1 (xs.map za3)))),vi .i64 i] (.tup [.c (.d (.raw (.string y))),.c (cB true)]) []:=by
 obtain ⟨k,rfl,hk⟩:=zb7 hi
 exact PAtTS0 xs k y hk
theorem pb1_0:zaa Tryd.prog 46:=zaa.mk' (by kernel_rfl)
theorem pb1_1:zaa Tryd.prog 42:=zaa.mk' (by kernel_rfl)
structure zc2 (s:zap):Prop where
  vars:∀ v ∈ s.vars,v.size≤1048576
  name:∀ p ∈ s.procs,p.name.size≤1048576
  locs:∀ p ∈ s.procs,∀ t ∈ p.locs,t.size≤1048576
theorem plW_n {s:zap} {p l:Int} (h:atI s.procs p=none):plW s p l=(⟨#[63,64,63]⟩:ByteArray):=by unfold plW;rw [h]
theorem plW_s {s:zap} {p l:Int} {pr:za2} (h:atI s.procs p=some pr) (h2:atI pr.locs l=none):plW s p l=(pr.name++(⟨#[64]⟩:ByteArray))++(⟨#[63]⟩:ByteArray):=by unfold plW;rw [h];simp only [h2]
theorem plW_t {s:zap} {p l:Int} {pr:za2} {t:ByteArray} (h:atI s.procs p=some pr) (h2:atI pr.locs l=some t):plW s p l=(pr.name++(⟨#[64]⟩:ByteArray))++t:=by unfold plW;rw [h];simp only [h2]
theorem zbn {α:Type} {xs:List α} {i:Int} {y:α} (h:atI xs i=some y):y ∈ xs:=by obtain ⟨k,_,hk⟩:=zb7 h;exact List.mem_of_getElem? hk
set_option maxHeartbeats 4000000 in
theorem PPlaceN (s:zap) (p l:Int) (_hz:zc2 s) (hp:atI s.procs p=none):Fn Tryd.prog 41 [] [.t (.agg ([.d (.sl 1 (s.vars.map za3)),.d (.sl 5 (s.bounds.map za0.d)),cI s.init.kind,cPs s.init.r.t.parts]++zi s.init.r.t.k++[cB s.init.r.eq,cFs s.init.kids,.d (.sl 3 (s.procs.map za2.d)),.d (.sl 10 (s.acts.map za5.d))])),vi .i64 p,vi .i64 l] (vs (plW s p l)) []:=by
 refine Fn.body Tryd.func41 rfl 33 rfl fun w H B a h=>?_
 refine rq za1 0 [] [(1,vi .i64 p),(2,vi .i64 l),(3,vp 0 0),(6,.t (.c (.d (.raw (.string ByteArray.empty)))))] [(0,.box ([.d (.sl 1 (s.vars.map za3)),.d (.sl 5 (s.bounds.map za0.d)),cI s.init.kind,cPs s.init.r.t.parts]++zi s.init.r.t.k++[cB s.init.r.eq,cFs s.init.kids,.d (.sl 3 (s.procs.map za2.d)),.d (.sl 10 (s.acts.map za5.d))]))] h ?_;clear h;intro a w h
 refine rq za1 1 [(3,.call (PAtPN s.procs p hp) pb1_0)] [(2,vi .i64 l),(6,.t (.c (.d (.raw (.string ByteArray.empty))))),(7,vp 1 0),(8,vb false)] [(1,.box [.d (.raw (.string zc1.name)),.d (.sl 1 (zc1.locs.map za3)),.d zc1.cmds])] h ?_;clear h;intro a w h
 refine wp_seq (rq za1 2 [] [(2,vi .i64 l),(6,.t (.c (.d (.raw (.string ByteArray.empty))))),(7,vp 1 0),(8,vb false),(18,vb true)] [(1,.box [.d (.raw (.string zc1.name)),.d (.sl 1 (zc1.locs.map za3)),.d zc1.cmds])] h ?_);clear h;intro a w h
 refine zac true h rfl (fun hc=>?_) (fun hc=>?_)
 ·clear hc
  refine rq za1 2 [] [(2,vi .i64 l),(6,.t (.c (.d (.raw (.string (⟨#[63,64,63]⟩:ByteArray)))))),(7,vp 1 0),(8,vb false)] [(1,.box [.d (.raw (.string zc1.name)),.d (.sl 1 (zc1.locs.map za3)),.d zc1.cmds])] h ?_;clear h;intro a w h
  refine wp_ret (zah ?_)
  refine zaz [.c (.d (.raw (.string (⟨#[63,64,63]⟩:ByteArray))))] h Exit.ret (.inl rfl)  rfl ⟨RV.tmp _ _ rfl,trivial⟩ ?_
  rw [plW_n hp];rfl
 ·cases hc
set_option maxHeartbeats 4000000 in
theorem PPlaceS (s:zap) (p l:Int) (pr:za2) (hz:zc2 s) (hp:atI s.procs p=some pr) (hl:atI pr.locs l=none):Fn Tryd.prog 41 [] [.t (.agg ([.d (.sl 1 (s.vars.map za3)),.d (.sl 5 (s.bounds.map za0.d)),cI s.init.kind,cPs s.init.r.t.parts]++zi s.init.r.t.k++[cB s.init.r.eq,cFs s.init.kids,.d (.sl 3 (s.procs.map za2.d)),.d (.sl 10 (s.acts.map za5.d))])),vi .i64 p,vi .i64 l] (vs (plW s p l)) []:=by
 have lnm:=hz.name pr (zbn hp)
 refine Fn.body Tryd.func41 rfl 33 rfl fun w H B a h=>?_
 refine rq za1 0 [] [(1,vi .i64 p),(2,vi .i64 l),(3,vp 0 0),(6,.t (.c (.d (.raw (.string ByteArray.empty)))))] [(0,.box ([.d (.sl 1 (s.vars.map za3)),.d (.sl 5 (s.bounds.map za0.d)),cI s.init.kind,cPs s.init.r.t.parts]++zi s.init.r.t.k++[cB s.init.r.eq,cFs s.init.kids,.d (.sl 3 (s.procs.map za2.d)),.d (.sl 10 (s.acts.map za5.d))]))] h ?_;clear h;intro a w h
 refine rq za1 1 [(3,.call (PAtPS s.procs p pr hp) pb1_0)] [(2,vi .i64 l),(6,.t (.c (.d (.raw (.string ByteArray.empty))))),(7,vp 1 0),(8,vb true)] [(1,.box [.d (.raw (.string pr.name)),.d (.sl 1 (pr.locs.map za3)),.d pr.cmds])] h ?_;clear h;intro a w h
 refine wp_seq (rq za1 2 [] [(2,vi .i64 l),(6,.t (.c (.d (.raw (.string ByteArray.empty))))),(7,vp 1 0),(8,vb true),(18,vb false)] [(1,.box [.d (.raw (.string pr.name)),.d (.sl 1 (pr.locs.map za3)),.d pr.cmds])] h ?_);clear h;intro a w h
 refine zac false h rfl (fun hc=>?_) (fun hc=>?_)
 ·cases hc
 ·clear hc
  refine wp_skip (za4 (rq za1 2 [(3,.call (PAtTN pr.locs l hl) pb1_1)] [(6,.t (.c (.d (.raw (.string ByteArray.empty))))),(7,vp 1 0),(8,vb false),(9,.t (.c (.d (.raw (.string (⟨#[]⟩:ByteArray))))))] [(1,.box [.d (.raw (.string pr.name)),.d (.sl 1 (pr.locs.map za3)),.d pr.cmds])] h ?_));clear h;intro a w h
  refine wp_seq (rq za1 2 [] [(6,.t (.c (.d (.raw (.string ByteArray.empty))))),(7,vp 1 0),(9,.t (.c (.d (.raw (.string (⟨#[]⟩:ByteArray)))))),(27,vb true)] [(1,.box [.d (.raw (.string pr.name)),.d (.sl 1 (pr.locs.map za3)),.d pr.cmds])] h ?_);clear h;intro a w h
  refine zac true h rfl (fun hc=>?_) (fun hc=>?_)
  ·clear hc
   refine rn za1 2 [] [(6,.t (.c (.d (.raw (.string ByteArray.empty))))),(7,vp 1 0),(9,.t (.c (.d (.raw (.string (⟨#[63]⟩:ByteArray))))))] [(1,.box [.d (.raw (.string pr.name)),.d (.sl 1 (pr.locs.map za3)),.d pr.cmds])] h ?_;clear h;intro a w h
   refine za4 (rq za1 2 [(2,.gen _ _ _ fun _ _ _ _=>Op.strAdd (d:=30) (xt:=9) (yt:=9) (s1:=pr.name) (s2:=(⟨#[64]⟩:ByteArray)) (r:=(pr.name++(⟨#[64]⟩:ByteArray))) (OV.tmp 29 _) (OV.const (.string (⟨#[64]⟩:ByteArray)) rfl) (by have:(⟨#[64]⟩:ByteArray).size=1:=rfl;omega) rfl),(4,.gen _ _ _ fun _ _ _ _=>Op.strAdd (d:=32) (xt:=9) (yt:=9) (s1:=(pr.name++(⟨#[64]⟩:ByteArray))) (s2:=(⟨#[63]⟩:ByteArray)) (r:=((pr.name++(⟨#[64]⟩:ByteArray))++(⟨#[63]⟩:ByteArray))) (OV.tmp 30 _) (OV.tmp 31 _) (by (try simp only [ByteArray.size_append]);have:(⟨#[64]⟩:ByteArray).size=1:=rfl;have:(⟨#[63]⟩:ByteArray).size=1:=rfl;omega) rfl)] [(6,.t (.c (.d (.raw (.string ((pr.name++(⟨#[64]⟩:ByteArray))++(⟨#[63]⟩:ByteArray)))))))] [] h ?_);clear h;intro a w h
   refine wp_ret ?_
   refine zaz [.c (.d (.raw (.string ((pr.name++(⟨#[64]⟩:ByteArray))++(⟨#[63]⟩:ByteArray)))))] h Exit.ret (.inl rfl)  rfl ⟨RV.tmp _ _ rfl,trivial⟩ ?_
   rw [plW_s hp hl];rfl
  ·cases hc
set_option maxHeartbeats 4000000 in
theorem PPlaceT (s:zap) (p l:Int) (pr:za2) (t:ByteArray) (hz:zc2 s) (hp:atI s.procs p=some pr) (hl:atI pr.locs l=some t):Fn Tryd.prog 41 [] [.t (.agg ([.d (.sl 1 (s.vars.map za3)),.d (.sl 5 (s.bounds.map za0.d)),cI s.init.kind,cPs s.init.r.t.parts]++zi s.init.r.t.k++[cB s.init.r.eq,cFs s.init.kids,.d (.sl 3 (s.procs.map za2.d)),.d (.sl 10 (s.acts.map za5.d))])),vi .i64 p,vi .i64 l] (vs (plW s p l)) []:=by
 have lnm:=hz.name pr (zbn hp)
 have lt:=hz.locs pr (zbn hp) t (zbn hl)
 refine Fn.body Tryd.func41 rfl 33 rfl fun w H B a h=>?_
 refine rq za1 0 [] [(1,vi .i64 p),(2,vi .i64 l),(3,vp 0 0),(6,.t (.c (.d (.raw (.string ByteArray.empty)))))] [(0,.box ([.d (.sl 1 (s.vars.map za3)),.d (.sl 5 (s.bounds.map za0.d)),cI s.init.kind,cPs s.init.r.t.parts]++zi s.init.r.t.k++[cB s.init.r.eq,cFs s.init.kids,.d (.sl 3 (s.procs.map za2.d)),.d (.sl 10 (s.acts.map za5.d))]))] h ?_;clear h;intro a w h
 refine rq za1 1 [(3,.call (PAtPS s.procs p pr hp) pb1_0)] [(2,vi .i64 l),(6,.t (.c (.d (.raw (.string ByteArray.empty))))),(7,vp 1 0),(8,vb true)] [(1,.box [.d (.raw (.string pr.name)),.d (.sl 1 (pr.locs.map za3)),.d pr.cmds])] h ?_;clear h;intro a w h
 refine wp_seq (rq za1 2 [] [(2,vi .i64 l),(6,.t (.c (.d (.raw (.string ByteArray.empty))))),(7,vp 1 0),(8,vb true),(18,vb false)] [(1,.box [.d (.raw (.string pr.name)),.d (.sl 1 (pr.locs.map za3)),.d pr.cmds])] h ?_);clear h;intro a w h
 refine zac false h rfl (fun hc=>?_) (fun hc=>?_)
 ·cases hc
 ·clear hc
  refine wp_skip (za4 (rq za1 2 [(3,.call (PAtTS pr.locs l t hl) pb1_1)] [(6,.t (.c (.d (.raw (.string ByteArray.empty))))),(7,vp 1 0),(8,vb true),(9,.t (.c (.d (.raw (.string t)))))] [(1,.box [.d (.raw (.string pr.name)),.d (.sl 1 (pr.locs.map za3)),.d pr.cmds])] h ?_));clear h;intro a w h
  refine wp_seq (rq za1 2 [] [(6,.t (.c (.d (.raw (.string ByteArray.empty))))),(7,vp 1 0),(9,.t (.c (.d (.raw (.string t))))),(27,vb false)] [(1,.box [.d (.raw (.string pr.name)),.d (.sl 1 (pr.locs.map za3)),.d pr.cmds])] h ?_);clear h;intro a w h
  refine zac false h rfl (fun hc=>?_) (fun hc=>?_)
  ·cases hc
  ·clear hc
   refine wp_skip (za4 (rq za1 2 [(2,.gen _ _ _ fun _ _ _ _=>Op.strAdd (d:=30) (xt:=9) (yt:=9) (s1:=pr.name) (s2:=(⟨#[64]⟩:ByteArray)) (r:=(pr.name++(⟨#[64]⟩:ByteArray))) (OV.tmp 29 _) (OV.const (.string (⟨#[64]⟩:ByteArray)) rfl) (by have:(⟨#[64]⟩:ByteArray).size=1:=rfl;omega) rfl),(4,.gen _ _ _ fun _ _ _ _=>Op.strAdd (d:=32) (xt:=9) (yt:=9) (s1:=(pr.name++(⟨#[64]⟩:ByteArray))) (s2:=t) (r:=((pr.name++(⟨#[64]⟩:ByteArray))++t)) (OV.tmp 30 _) (OV.tmp 31 _) (by (try simp only [ByteArray.size_append]);have:(⟨#[64]⟩:ByteArray).size=1:=rfl;omega) rfl)] [(6,.t (.c (.d (.raw (.string ((pr.name++(⟨#[64]⟩:ByteArray))++t))))))] [] h ?_));clear h;intro a w h
   refine wp_ret ?_
   refine zaz [.c (.d (.raw (.string ((pr.name++(⟨#[64]⟩:ByteArray))++t))))] h Exit.ret (.inl rfl)  rfl ⟨RV.tmp _ _ rfl,trivial⟩ ?_
   rw [plW_t hp hl];rfl
theorem PPlace (s:zap) (p l:Int) (hz:zc2 s):Fn Tryd.prog 41 [] [.t (.agg ([.d (.sl 1 (s.vars.map za3)),.d (.sl 5 (s.bounds.map za0.d)),cI s.init.kind,cPs s.init.r.t.parts]++zi s.init.r.t.k++[cB s.init.r.eq,cFs s.init.kids,.d (.sl 3 (s.procs.map za2.d)),.d (.sl 10 (s.acts.map za5.d))])),vi .i64 p,vi .i64 l] (vs (plW s p l)) []:=by
 cases hp:atI s.procs p with
 | none=>exact PPlaceN s p l hz hp
 | some pr =>
  cases hl:atI pr.locs l with
  | none=>exact PPlaceS s p l pr hz hp hl
  | some t=>exact PPlaceT s p l pr t hz hp hl
end S
set_option maxHeartbeats 1000000 in
theorem From_any (s:Bool) (ao:Option Addr) (n c:Nat) (zs:List Nat) (w:World) (hn:n=zs.length) (h:Rd w ao c zs) (hl:zs.length≤400000) :
  Calls Tryd.prog 77 #[.bool s,.slice ao n c] w (GotZ w (iv s zs) zs.length):=by
 subst hn
 cases s
 ·go_enter Tryd.func77,Tryd.ntmps77
  go_wp2_with fail
  refine (TrimM _ _ _ zs _ rfl (h.ext ((Ext.refl _).alloc _)) (by first | omega | (simp;done) | (simp;omega))).mono ?_
  rintro e w1 ⟨r1a,r1c,r1z,r1B,rfl,r1b,r1o,r1k,r1v,r1l,xx⟩
  try simp at r1b
  try simp only [List.length_cons,List.length_nil] at r1l
  have hE:Ext w w1:=Ext.trans ((Ext.refl _).alloc _) xx
  have hz1:w.heap.size+1≤w1.heap.size:=(by have hq:=Ext.size xx;(try simp at hq);omega)
  have hb0:w.heap.size<w1.heap.size:=(by omega)
  have fq0_0:=Ext.free (p:=⟨w.heap.size,0,none⟩) (v:=.bool false) xx (by first | exact True | go_simp | (repeat (first | assumption | (refine (World.cell?_setCell_far _ _ _ _ (by simp <;> omega)).trans ?_) | (refine (World.cell?_alloc_lt _ _ _ (World.block_lt_of_cell? _ _ (by assumption))).trans ?_) | go_simp))) (by first | assumption | go_simp)
  have q0_0:=Ext.cell (p:=⟨w.heap.size,0,none⟩) (v:=.bool false) xx (by first | exact True | go_simp | (repeat (first | assumption | (refine (World.cell?_setCell_far _ _ _ _ (by simp <;> omega)).trans ?_) | (refine (World.cell?_alloc_lt _ _ _ (World.block_lt_of_cell? _ _ (by assumption))).trans ?_) | go_simp)))
  have fq0_1:=Ext.free (p:=⟨w.heap.size,1,none⟩) (v:=.slice none 0 0) xx (by first | exact True | go_simp | (repeat (first | assumption | (refine (World.cell?_setCell_far _ _ _ _ (by simp <;> omega)).trans ?_) | (refine (World.cell?_alloc_lt _ _ _ (World.block_lt_of_cell? _ _ (by assumption))).trans ?_) | go_simp))) (by first | assumption | go_simp)
  have q0_1:=Ext.cell (p:=⟨w.heap.size,1,none⟩) (v:=.slice none 0 0) xx (by first | exact True | go_simp | (repeat (first | assumption | (refine (World.cell?_setCell_far _ _ _ _ (by simp <;> omega)).trans ?_) | (refine (World.cell?_alloc_lt _ _ _ (World.block_lt_of_cell? _ _ (by assumption))).trans ?_) | go_simp)))
  clear xx
  go_wp2_with fail
  refine bodyPost_ret (v:=.agg #[.bool false,.slice r1a r1z.length r1c]) (by simp [results,Tryd.results77,go_sem,q0_0,q0_1]) rfl ?_
  exact ⟨false,r1a,r1c,r1z,r1B,rfl,(by omega),(Own.st (Own.st r1o (b:=w.heap.size) (by omega) _ _) (b:=w.heap.size) (by omega) _ _),(CanZ.pos r1k.out),(by unfold Hid;rw [iv_false,iv_false,r1v.out]),(by first | omega | (simp;done) | (simp;omega)),(Ext.st (Ext.st hE (b:=w.heap.size) (by omega) _ _) (b:=w.heap.size) (by omega) _ _)⟩
 ·go_enter Tryd.func77,Tryd.ntmps77
  go_wp2_with fail
  refine (TrimM _ _ _ zs _ rfl (h.ext ((Ext.refl _).alloc _)) (by first | omega | (simp;done) | (simp;omega))).mono ?_
  rintro e w1 ⟨r1a,r1c,r1z,r1B,rfl,r1b,r1o,r1k,r1v,r1l,xx⟩
  try simp at r1b
  try simp only [List.length_cons,List.length_nil] at r1l
  have hE:Ext w w1:=Ext.trans ((Ext.refl _).alloc _) xx
  have hz1:w.heap.size+1≤w1.heap.size:=(by have hq:=Ext.size xx;(try simp at hq);omega)
  have hb0:w.heap.size<w1.heap.size:=(by omega)
  have fq0_0:=Ext.free (p:=⟨w.heap.size,0,none⟩) (v:=.bool false) xx (by first | exact True | go_simp | (repeat (first | assumption | (refine (World.cell?_setCell_far _ _ _ _ (by simp <;> omega)).trans ?_) | (refine (World.cell?_alloc_lt _ _ _ (World.block_lt_of_cell? _ _ (by assumption))).trans ?_) | go_simp))) (by first | assumption | go_simp)
  have q0_0:=Ext.cell (p:=⟨w.heap.size,0,none⟩) (v:=.bool false) xx (by first | exact True | go_simp | (repeat (first | assumption | (refine (World.cell?_setCell_far _ _ _ _ (by simp <;> omega)).trans ?_) | (refine (World.cell?_alloc_lt _ _ _ (World.block_lt_of_cell? _ _ (by assumption))).trans ?_) | go_simp)))
  have fq0_1:=Ext.free (p:=⟨w.heap.size,1,none⟩) (v:=.slice none 0 0) xx (by first | exact True | go_simp | (repeat (first | assumption | (refine (World.cell?_setCell_far _ _ _ _ (by simp <;> omega)).trans ?_) | (refine (World.cell?_alloc_lt _ _ _ (World.block_lt_of_cell? _ _ (by assumption))).trans ?_) | go_simp))) (by first | assumption | go_simp)
  have q0_1:=Ext.cell (p:=⟨w.heap.size,1,none⟩) (v:=.slice none 0 0) xx (by first | exact True | go_simp | (repeat (first | assumption | (refine (World.cell?_setCell_far _ _ _ _ (by simp <;> omega)).trans ?_) | (refine (World.cell?_alloc_lt _ _ _ (World.block_lt_of_cell? _ _ (by assumption))).trans ?_) | go_simp)))
  clear xx
  rcases Nat.eq_zero_or_pos r1z.length with h0 | hp
  ·have e0:r1z=[]:=List.length_eq_zero_iff.1 h0
   subst e0
   clear h0
   go_wp2_with fail
   refine bodyPost_ret (v:=.agg #[.bool false,.slice r1a 0 r1c]) (by simp [results,Tryd.results77,go_sem,q0_0,q0_1]) rfl ?_
   exact ⟨false,r1a,r1c,[],r1B,rfl,(by omega),(Own.st (Own.st r1o (b:=w.heap.size) (by omega) _ _) (b:=w.heap.size) (by omega) _ _),(CanZ.pos r1k.out),(by unfold Hid;rw [iv_false,iv_true,← r1v.out];rfl),(by first | omega | (simp;done) | (simp;omega)),(Ext.st (Ext.st hE (b:=w.heap.size) (by omega) _ _) (b:=w.heap.size) (by omega) _ _)⟩
  ·have hp1:decide (0<r1z.length)=true:=decide_eq_true hp
   go_wp2_with fail
   refine bodyPost_ret (v:=.agg #[.bool true,.slice r1a r1z.length r1c]) (by simp [results,Tryd.results77,go_sem,q0_0,q0_1]) rfl ?_
   exact ⟨true,r1a,r1c,r1z,r1B,rfl,(by omega),(Own.st (Own.st r1o (b:=w.heap.size) (by omega) _ _) (b:=w.heap.size) (by omega) _ _),(CanZ.neg r1k.out hp _),(by unfold Hid;rw [iv_true,iv_true,r1v.out]),(by first | omega | (simp;done) | (simp;omega)),(Ext.st (Ext.st hE (b:=w.heap.size) (by omega) _ _) (b:=w.heap.size) (by omega) _ _)⟩
set_option maxHeartbeats 1000000 in
theorem clean_any (s:Bool) (ao:Option Addr) (n c:Nat) (zs:List Nat) (w:World) (hn:n=zs.length) (h:Rd w ao c zs) (hl:zs.length≤400000) :
  Calls Tryd.prog 65 #[.agg #[.bool s,.slice ao n c]] w (GotZ w (iv s zs) zs.length):=by
 subst hn
 go_enter Tryd.func65,Tryd.ntmps65
 go_wp2_with fail
 refine (From_any s _ _ _ zs _ rfl (h.ext (((Ext.refl _).alloc _).alloc _)) (by first | omega | (simp;done) | (simp;omega))).mono ?_
 rintro e w1 ⟨r1s,r1a,r1c,r1z,r1B,rfl,r1b,r1o,r1k,r1v,r1l,xx⟩
 try simp at r1b
 try simp only [List.length_cons,List.length_nil] at r1l
 have hE:Ext w w1:=Ext.trans (((Ext.refl _).alloc _).alloc _) xx
 have hz1:w.heap.size+2≤w1.heap.size:=(by have hq:=Ext.size xx;(try simp at hq);omega)
 have hb1:w.heap.size+1<w1.heap.size:=(by omega)
 have fq1_0:=Ext.free (p:=⟨w.heap.size+1,0,none⟩) (v:=.bool false) xx (by first | exact True | go_simp | (repeat (first | assumption | (refine (World.cell?_setCell_far _ _ _ _ (by simp <;> omega)).trans ?_) | (refine (World.cell?_alloc_lt _ _ _ (World.block_lt_of_cell? _ _ (by assumption))).trans ?_) | go_simp))) (by first | assumption | go_simp)
 have q1_0:=Ext.cell (p:=⟨w.heap.size+1,0,none⟩) (v:=.bool false) xx (by first | exact True | go_simp | (repeat (first | assumption | (refine (World.cell?_setCell_far _ _ _ _ (by simp <;> omega)).trans ?_) | (refine (World.cell?_alloc_lt _ _ _ (World.block_lt_of_cell? _ _ (by assumption))).trans ?_) | go_simp)))
 have fq1_1:=Ext.free (p:=⟨w.heap.size+1,1,none⟩) (v:=.slice none 0 0) xx (by first | exact True | go_simp | (repeat (first | assumption | (refine (World.cell?_setCell_far _ _ _ _ (by simp <;> omega)).trans ?_) | (refine (World.cell?_alloc_lt _ _ _ (World.block_lt_of_cell? _ _ (by assumption))).trans ?_) | go_simp))) (by first | assumption | go_simp)
 have q1_1:=Ext.cell (p:=⟨w.heap.size+1,1,none⟩) (v:=.slice none 0 0) xx (by first | exact True | go_simp | (repeat (first | assumption | (refine (World.cell?_setCell_far _ _ _ _ (by simp <;> omega)).trans ?_) | (refine (World.cell?_alloc_lt _ _ _ (World.block_lt_of_cell? _ _ (by assumption))).trans ?_) | go_simp)))
 clear xx
 go_wp2_with fail
 refine bodyPost_ret (v:=.agg #[.bool r1s,.slice r1a r1z.length r1c]) (by simp [results,Tryd.results65,go_sem,q1_0,q1_1]) rfl ?_
 exact ⟨r1s,r1a,r1c,r1z,r1B,rfl,(by omega),(Own.st (Own.st r1o (b:=w.heap.size+1) (by omega) _ _) (b:=w.heap.size+1) (by omega) _ _),r1k,r1v,(by first | omega | (simp;done) | (simp;omega)),(Ext.st (Ext.st hE (b:=w.heap.size+1) (by omega) _ _) (b:=w.heap.size+1) (by omega) _ _)⟩
theorem iv_pos_of {s:Bool} {zs:List Nat} (hc:CanZ s zs) (hs:s=false) (hp:0<zs.length):0<iv s zs:=by
 subst hs
 have:=zby hc.1 hp
 have:=pw_pos (zs.length - 1)
 unfold iv;simp;omega
theorem iv_neg_of {s:Bool} {zs:List Nat} (hc:CanZ s zs) (hs:s=true):iv s zs<0:=by
 have:=hc.neg_iff
 rw [hs] at this
 subst hs
 exact of_decide_eq_true this.symm
set_option maxHeartbeats 1000000 in
theorem ZSign_any (s:Bool) (ao:Option Addr) (n c:Nat) (zs:List Nat) (w:World) (g:Int) (hn:n=zs.length) (h:Rd w ao c zs) (hl:zs.length≤300000) (hg:sgn (iv s zs)=g) :
  Calls Tryd.prog 53 #[.agg #[.bool s,.slice ao n c]] w (GotP (.int .i64 g) w):=by
 subst hn
 replace hg:=Lib.hid hg
 go_enter Tryd.func53,Tryd.ntmps53
 go_wp2_with fail
 refine (clean_any s _ _ _ zs _ rfl (h.ext ((Ext.refl _).alloc _)) (by first | omega | (simp;done) | (simp;omega))).mono ?_
 rintro e w1 ⟨r1s,r1a,r1c,r1z,r1B,rfl,r1b,r1o,r1k,r1v,r1l,xx⟩
 try simp at r1b
 try simp only [List.length_cons,List.length_nil] at r1l
 have hE:Ext w w1:=Ext.trans ((Ext.refl _).alloc _) xx
 have hz1:w.heap.size+1≤w1.heap.size:=(by have hq:=Ext.size xx;(try simp at hq);omega)
 have hb0:w.heap.size<w1.heap.size:=(by omega)
 have fq0_0:=Ext.free (p:=⟨w.heap.size,0,none⟩) (v:=.bool s) xx (by first | exact True | go_simp | (repeat (first | assumption | (refine (World.cell?_setCell_far _ _ _ _ (by simp <;> omega)).trans ?_) | (refine (World.cell?_alloc_lt _ _ _ (World.block_lt_of_cell? _ _ (by assumption))).trans ?_) | go_simp))) (by first | assumption | go_simp)
 have q0_0:=Ext.cell (p:=⟨w.heap.size,0,none⟩) (v:=.bool s) xx (by first | exact True | go_simp | (repeat (first | assumption | (refine (World.cell?_setCell_far _ _ _ _ (by simp <;> omega)).trans ?_) | (refine (World.cell?_alloc_lt _ _ _ (World.block_lt_of_cell? _ _ (by assumption))).trans ?_) | go_simp)))
 have fq0_1:=Ext.free (p:=⟨w.heap.size,1,none⟩) (v:=.slice ao zs.length c) xx (by first | exact True | go_simp | (repeat (first | assumption | (refine (World.cell?_setCell_far _ _ _ _ (by simp <;> omega)).trans ?_) | (refine (World.cell?_alloc_lt _ _ _ (World.block_lt_of_cell? _ _ (by assumption))).trans ?_) | go_simp))) (by first | assumption | go_simp)
 have q0_1:=Ext.cell (p:=⟨w.heap.size,1,none⟩) (v:=.slice ao zs.length c) xx (by first | exact True | go_simp | (repeat (first | assumption | (refine (World.cell?_setCell_far _ _ _ _ (by simp <;> omega)).trans ?_) | (refine (World.cell?_alloc_lt _ _ _ (World.block_lt_of_cell? _ _ (by assumption))).trans ?_) | go_simp)))
 clear xx
 cases r1s
 ·rcases Nat.eq_zero_or_pos r1z.length with h0 | hp
  ·have e0:r1z=[]:=List.length_eq_zero_iff.1 h0
   subst e0
   clear h0
   go_wp2_with fail
   go_ret
   exact ⟨by rw [← hg.out,← r1v.out,sgn_zero (iv_nil _)];rfl,(Ext.st (Ext.st hE (b:=w.heap.size) (by omega) _ _) (b:=w.heap.size) (by omega) _ _)⟩
  ·have hp1:decide (0<r1z.length)=true:=decide_eq_true hp
   go_wp2_with fail
   go_ret
   exact ⟨by rw [← hg.out,← r1v.out,sgn_pos (iv_pos_of r1k.out rfl hp)];rfl,(Ext.st (Ext.st hE (b:=w.heap.size) (by omega) _ _) (b:=w.heap.size) (by omega) _ _)⟩
 ·go_wp2_with fail
  go_ret
  exact ⟨by rw [← hg.out,← r1v.out,sgn_neg (iv_neg_of r1k.out rfl)];rfl,(Ext.st (Ext.st hE (b:=w.heap.size) (by omega) _ _) (b:=w.heap.size) (by omega) _ _)⟩
set_option maxHeartbeats 1000000 in
theorem RSign_any (s:Bool) (ao:Option Addr) (n c:Nat) (zs:List Nat) (w:World) (g:Int) (hn:n=zs.length) (h:Rd w ao c zs) (hl:zs.length≤300000) (hg:sgn (iv s zs)=g) :
  Calls Tryd.prog 47 #[.agg #[.bool s,.slice ao n c]] w (GotP (.int .i64 g) w):=by
 subst hn
 replace hg:=Lib.hid hg
 go_enter Tryd.func47,Tryd.ntmps47
 go_wp2_with fail
 refine (RTrimM _ _ _ zs _ rfl (h.ext ((Ext.refl _).alloc _)) (by first | omega | (simp;done) | (simp;omega))).mono ?_
 rintro e w1 ⟨r1a,r1c,r1z,r1B,rfl,r1b,r1o,r1k,r1v,r1l,xx⟩
 try simp at r1b
 try simp only [List.length_cons,List.length_nil] at r1l
 have hE:Ext w w1:=Ext.trans ((Ext.refl _).alloc _) xx
 have hz1:w.heap.size+1≤w1.heap.size:=(by have hq:=Ext.size xx;(try simp at hq);omega)
 have hb0:w.heap.size<w1.heap.size:=(by omega)
 have q0_0:=Ext.cell (p:=⟨w.heap.size,0,none⟩) (v:=.bool s) xx (by first | exact True | go_simp | (repeat (first | assumption | (refine (World.cell?_setCell_far _ _ _ _ (by simp <;> omega)).trans ?_) | (refine (World.cell?_alloc_lt _ _ _ (World.block_lt_of_cell? _ _ (by assumption))).trans ?_) | go_simp)))
 clear xx
 rcases Nat.eq_zero_or_pos r1z.length with h0 | hp
 ·have e0:r1z=[]:=List.length_eq_zero_iff.1 h0
  subst e0
  clear h0
  go_wp2_with fail
  go_ret
  exact ⟨by rw [← hg.out,sgn_zero (by have e:=r1v.out;unfold iv;rw [← e];cases s <;> rfl)];rfl,hE⟩
 ·have hp1:((r1z.length:Int) == 0)=false:=beq_eq_false_iff_ne.2 (by omega)
  have hv:Hid (0<val zs):=by
   have:=zby r1k.out hp;have:=pw_pos (r1z.length - 1);have:=r1v.out;unfold Hid;omega
  cases s
  ·go_wp2_with fail
   go_ret
   exact ⟨by rw [← hg.out,sgn_pos (by have:=hv.out;unfold iv;simp;omega)];rfl,hE⟩
  ·go_wp2_with fail
   go_ret
   exact ⟨by rw [← hg.out,sgn_neg (by have:=hv.out;unfold iv;simp;omega)];rfl,hE⟩
theorem chk (s:ByteArray) (i:Nat) (h:i<s.size) (w:World):(Instr.index 9 (.string s) (.int .i64 (i:Int))).run Tryd.prog w = .ok (.int .u8 (ch s i)) w:=by
 have h1:s[i]?=some s[i]:=by simp [h]
 have h2:ch s i=s[i].toNat:=by
  unfold ch
  have:s.data.toList[i]?=some s[i]:=by
   rw [Array.getElem?_toList];exact Array.getElem?_eq_getElem (show i<s.data.size from h)
  rw [List.getD_eq_getElem?_getD,List.getElem?_map,this];rfl
 simp [Instr.index,asIntOf,run_underlying Tryd.underlying9,h1,h2,go_sem]
theorem str_nil {s:ByteArray} (h:s.size=0):s.toList=[]:=by
 rw [ByteArray.toList_eq];exact List.length_eq_zero_iff.1 (by simpa using h)
theorem str_cons {s:ByteArray} (h:s.size≠0):s.toList.isEmpty=false:=by
 rw [ByteArray.toList_eq]
 cases e:s.data.toList with
 | nil=>exact absurd (show s.data.size=0 by rw [← Array.length_toList,e];rfl) h
 | cons a l=>rfl
def RTextO (w:World) (L N g:Nat) (x out:Value) (wr:World):Prop :=
  ∃ (ao:Option Addr) (c:Nat) (zs:List Nat) (s:ByteArray),x = .slice ao zs.length c∧out = .string s∧zs.length≤10000∧s.size≤10*L+1∧zdi zs∧Own wr w.heap.size ao c zs∧Ext w wr∧alld s s.size ∧
    Hid (val zs*10 ^ s.size+dvl (bytes s)=N)∧Hid (g=val zs+(if s.size=0 then 1 else 0))∧(0<s.size→val zs=0→isT (bytes s) N)
def RTextQ (w:World) (n:Nat) (q i:Value) (wr:World):Prop :=
  ∃ (k:Nat) (po:Option Addr) (pc:Nat),k≤n∧i = .int .i64 k∧q = .slice po k pc∧Own wr w.heap.size po pc (List.replicate k 0)∧Ext w wr
theorem strN_size (L:List Nat):(strN L).size=L.length:=by unfold strN;rw [strOfNums_size];simp
theorem row1B (w:World) (E:Int) (x:Nat) (hE:E=(x:Int)) (hx:x<256):OwB (w.alloc (.cells #[.int .u8 E] 5)) w.heap.size (some ⟨w.heap.size,0,none⟩) 1 [x]:=by
 subst hE
 exact ⟨by intro z hz;simp at hz;omega,by simp,.inr ⟨w.heap.size,1,_,rfl,Nat.le_refl _,heap_alloc_new w _,Nat.le_refl _,by unfold maxLen;omega,rfl,rfl⟩⟩
theorem text_ahead {s:ByteArray} {V V' R N:Nat} (heq:V*10 ^ s.size+dvl (bytes s)=N) (hV:V=V'*10+R):V'*10 ^ (s.size+1)+dvl ((48+R) :: bytes s)=N:=by
 rw [zcg,zay,Nat.add_sub_cancel_left,Nat.pow_succ,← heq,hV,Nat.add_mul,Nat.mul_assoc V' 10,Nat.mul_comm 10]
 omega
set_option maxHeartbeats 2000000 in
theorem RText_any (ao:Option Addr) (n c:Nat) (xs:List Nat) (w:World) (hn:n=xs.length) (ha:Rd w ao c xs) (hl:xs.length≤10000) :
  Calls Tryd.prog 48 #[.slice ao n c] w (GotText w (val xs)):=by
 subst hn
 obtain ⟨N,hN⟩:∃ N,N=val xs:=⟨_,rfl⟩
 rw [← hN]
 go_enter Tryd.func48,Tryd.ntmps48
 go_wp2_with fail
 refine (RTrim_any ao _ c xs w rfl ha (by omega)).mono ?_
 rintro e w1 ⟨bo,d,zs,rfl,hown,hk,hv,hext⟩
 have hzl:zs.length≤10000:=Nat.le_trans (canon_len hk (by rw [hv];exact zco ha.lb)) hl
 rw [← hv] at hN
 clear hv ha hl
 have hNb:N<10 ^ (10*zs.length):=by rw [hN];exact Nat.lt_of_lt_of_le (zco hk.1) (pw_10 _)
 have HNb:=Lib.hid hNb
 have HN:=Lib.hid hN
 clear hNb hN
 go_wp2_with fail
 go_loopg [3,4] (N+1) (RTextO w zs.length N)
 case atStart=>exact ⟨bo,d,zs,⟨#[]⟩,rfl,rfl,hzl,Nat.zero_le _,hk,hown,hext,(fun i hi=>absurd hi (show ¬ i<0 by omega)),(show val zs*10 ^ 0+0=N by rw [HN.out];simp),(show N+1=val zs+(if (0:Nat)=0 then 1 else 0) by rw [HN.out];rfl),fun h=>absurd h (show ¬ 0<0 by omega)⟩
 case round =>
  obtain ⟨co,c2,ys,s,rfl,rfl,hyl,hsl,hyk,hyo,hext,hsd,heq,hg,hfin⟩:=hrel
  by_cases hex:0<s.size∧ys.length=0
  ·obtain ⟨hs0,hy0⟩:=hex
   have hem:s.toList.isEmpty=false:=str_cons (by omega)
   have ey:ys=[]:=List.length_eq_zero_iff.1 hy0
   subst ey
   have ht:=hfin hs0 rfl
   have Ht:=Lib.hid ht
   clear ht hfin
   go_wp2_with fail
   go_ret
   exact ⟨s,rfl,Ht.out,hext⟩
  ·have hcont:0<s.size→0<val ys:=fun h=>by
    have h1:0<ys.length:=by omega
    have:=zby hyk h1
    have:=pw_pos (ys.length - 1)
    omega
   have hsb:s.size≤10*zs.length:=by
    rcases Nat.eq_zero_or_pos s.size with h0 | h0
    ·omega
    ·have h1:=heq.out
     have h2:=HNb.out
     have h3:1*10 ^ s.size≤val ys*10 ^ s.size:=Nat.mul_le_mul_right _ (hcont h0)
     have:=(Nat.pow_lt_pow_iff_right (a:=10) (by omega)).1 (show 10 ^ s.size<10 ^ (10*zs.length) by omega)
     omega
   have Hc:=Lib.hid hcont
   clear hcont hfin
   have hrd:=hyo.rd
   have hcap:=hrd.cap
   have hmx:=hrd.mx
   have hem1:s.toList.isEmpty=true∨(s.toList.isEmpty=false∧(0:Int)<(ys.length:Int)∧decide (0<ys.length)=true):=by
    rcases Nat.eq_zero_or_pos s.size with h0 | h0
    ·left;rw [str_nil h0];rfl
    ·right;exact ⟨str_cons (by omega),by omega,decide_eq_true (by omega)⟩
   obtain ⟨wo,rfl⟩:∃ wo:World,wo=wr:=⟨_,rfl⟩
   rcases hem1 with hem | ⟨hem,hyp,hypd⟩
   all_goals
    go_wp2_with fail
    go_loopw [6,7] (RTextQ wo ys.length) (fun _ i _=>(ys.length - intOf i).toNat)
    case atStart=>exact ⟨0,_,_,by omega,rfl,rfl,own_empty wo,(Ext.refl wo).alloc _⟩
    case round =>
     obtain ⟨k,po,pc,hk,rfl,rfl,hqo,hqx⟩:=hrel
     by_cases hkA:k<ys.length
     ·go_wp2_with (at_builtin;refine push (wi:=wo) rfl _ _ rfl _ _ (List.replicate k 0) _ (by simp) rfl hqo _ ?_ ?_ rfl ?_ rfl hqx ?_;omega;omega;(simp;omega);intro ao' c' w2 hown2 hext2)
      go_roundw
      case rel=>exact ⟨k+1,ao', c', by omega,by go_num,by simp,by rw [List.replicate_succ'];exact hown2.snocEq (by omega),hext2⟩
      case measure=>simp [intOf];try omega
     ·obtain rfl:k=ys.length:=by omega
      go_wp2_with fail
      go_loopw [5,8] (ByR wo ys 10 po pc) (fun _ i _=>(intOf i+1).toNat)
      case atStart=>exact ⟨ys.length,0,List.replicate ys.length 0,Nat.le_refl _,rfl,rfl,by omega,by simp [Hid],hqo,hqx,by unfold Hid;rw [vd_end (by omega),vd_end (by simp)]⟩
      case round =>
       obtain ⟨k,R,qs,hk,rfl,rfl,hR,hql,hqo,hqx,hqe⟩:=hrel
       rcases k with _ | k
       ·have hv:val ys=val qs*10+R:=by have:=hqe.out;rwa [vd_zero,vd_zero] at this
        have hah:=text_ahead heq.out hv
        have Hah:=Lib.hid hah
        have Hv:=Lib.hid hv
        have hst:=fun (wx:World)=>run_str ((row1B wx (48+(R:Int)) (48+R) (by omega) (by omega)).rd)
        simp only [List.length_cons,List.length_nil,Nat.zero_add] at hst
        have hsz:(strN [48+R]).size=1:=strN_size _
        clear hah hv hqe heq
        go_wp2_with fail
        refine (RTrim_any _ _ _ qs _ hql.out.symm (hqo.rd.ext ((Ext.refl _).alloc _)) (by have:=hql.out;omega)).mono ?_
        rintro e w3 ⟨ro,rc,rs,rfl,hro,hrk,hrv,hrx⟩
        have hext3:=((hext.trans hqx).alloc (.cells #[.int .u8 (48+(R:Int))] 5)).trans hrx
        have hrl:rs.length≤10000:=Nat.le_trans (canon_len hrk (by rw [hrv];exact zco hqo.lb)) (by have:=hql.out;omega)
        have Hrv:=Lib.hid hrv
        have hbk:=hext.size
        have hbk2:=hqx.size
        clear hrv
        go_wp2_with fail
        go_roundg (val rs)
        case measure =>
         have h1:=hg.out
         have h2:=Hv.out
         have h3:=Hrv.out
         by_cases h0:s.size=0
         ·rw [if_pos h0] at h1;omega
         ·have:=Hc.out (by omega)
          rw [if_neg h0] at h1;omega
        case rel =>
         have hbs:bytes (strN [48+R]++s)=(48+R) :: bytes s:=by
          rw [bytes_append,bytes_strN (by intro z hz;simp at hz;omega)];rfl
         have hss:(strN [48+R]++s).size=s.size+1:=by
          rw [← zay,hbs,List.length_cons,zay]
         have hal:allD (bytes (strN [48+R]++s)):=by
          rw [hbs]
          intro c hc
          rcases List.mem_cons.1 hc with rfl | hc
          ·omega
          ·exact (alld_allD s).1 hsd c hc
         refine ⟨ro,rc,rs,_,rfl,rfl,hrl,by rw [hss];omega,hrk,hro.mono (by simp;omega),hext3,(alld_allD _).2 hal,?_,?_,?_⟩
         ·unfold Hid;rw [hss,hbs,Hrv.out];exact Hah.out
         ·unfold Hid;rw [hss,if_neg (by omega)];rfl
         ·intro _ hv0
          refine ⟨by rw [zay,hss];omega,hal,?_,?_⟩
          ·have:=Hah.out
           rw [← Hrv.out,hv0] at this
           rw [hbs];simpa using this
          ·intro h1
           rw [zay,hss] at h1
           have h2:=Hc.out (by omega)
           have h3:=Hv.out
           rw [← Hrv.out,hv0] at h3
           rw [hbs];simp;omega
       ·have hx:=(hrd.ext hqx).cell k (by omega)
        have hix:=ixk hrd ys.length rfl k (by omega) wr
        have bx:=lim_lt hrd.lb k
        have hkz:k<qs.length:=by have:=hql.out;omega
        have hiz:=ixk hqo.rd ys.length hql.out.symm k (by omega) wr
        have hxz:=hqo.rd.cell k hkz
        have hf:=hqo.frozen (by omega) k
        have hq1:=by_lt (b:=10) hR bx
        have hs:=by_step hqe.out (by omega) hkz
        have hmm:((R:Int)*4294967296+(lim ys k:Int)) / 10<4294967296:=by omega
        clear hqe heq
        go_wp2_with fail
        have hst:=hqo.store k hkz (((R:Int)*4294967296+(lim ys k:Int)) / 10) ((R*4294967296+lim ys k) / 10) (by omega) hq1
        go_roundw
        case rel=>exact ⟨k,(R*4294967296+lim ys k) % 10,_,by omega,by go_num,by go_num,by omega,by unfold Hid;rw [List.length_set];exact hql.out,hst.1,hqx.store (by have:=(hqo.blk (by omega)).1;exact this) _,hs⟩
        case measure=>simp [intOf]
end Go.Proofs.YtlfebjeoeijlfaaDoor
section
namespace Go.Proofs
open Go.Shelf
def Tryd.lays103_ren:Go.Shelf.Ren:=⟨fun | 103=>28 | 210=>38 | 206=>50 | n=>n,fun | 9=>9 | 4=>4 | 24=>86 | 3=>3 | n=>n,fun | n=>n⟩
theorem Tryd.lays103:Go.Proofs.Lays.n103 Tryd.prog Tryd.lays103_ren:={
 mixed:=by kernel_rfl
 f103:=Tryd.func28.trans (congrArg some (by kernel_rfl))
 f206:=Tryd.func50.trans (congrArg some (by kernel_rfl))
 f210:=Tryd.func38.trans (congrArg some (by kernel_rfl))
 t3:=Tryd.underlying3
 a3:=Tryd.isAgg3
 z3:=Tryd.sizeOf3
 v3:=Tryd.zeroValue3
 t4:=Tryd.underlying4
 a4:=Tryd.isAgg4
 z4:=Tryd.sizeOf4
 v4:=Tryd.zeroValue4
 t9:=Tryd.underlying9
 a9:=Tryd.isAgg9
 z9:=Tryd.sizeOf9
 v9:=Tryd.zeroValue9
 t24:=Tryd.underlying86
 a24:=Tryd.isAgg86
 z24:=Tryd.sizeOf86
 v24:=Tryd.zeroValue86 }
open Go.RowKit in
theorem Tryd.strings_CutPrefix (s p:ByteArray) (w:World) :
  Calls Tryd.prog 28 #[.string s,.string p] w fun e w'=>e = .returned (.tuple #[.string ⟨(Lib.trimPrefix s.data.toList p.data.toList).toArray⟩,.bool (Lib.hasPrefix s.data.toList p.data.toList)])∧w'=w:=Any.strings_CutPrefix Tryd.lays103 s p w

end Go.Proofs
end
namespace Go.Proofs.YtlfebjeoeijlfaaDoor
def textZ (z:Int) (t:ByteArray):ByteArray:=if z<0 then (⟨#[45]⟩:ByteArray)++t else t
theorem text_long {zs:List Nat} {s:ByteArray} (h:Lb zs) (ht:isT (bytes s) (val zs)) (hl:zs.length≤10000):s.size≤100001:=by
 have h1:val zs<10 ^ (10*zs.length+1):=Nat.lt_of_lt_of_le (Nat.lt_of_lt_of_le (zco h) (pw_10 _)) (Nat.pow_le_pow_right (by omega) (by omega))
 have:=isT_short ht h1 (by omega)
 rw [zay] at this
 omega
def GotTZ (w:World) (z:Int) (e:Ending) (w':World):Prop:=∃ t:ByteArray,e = .returned (.string (textZ z t))∧isT (bytes t) z.natAbs∧Ext w w'
set_option maxHeartbeats 1000000 in
theorem ZText_any (s:Bool) (ao:Option Addr) (n c:Nat) (zs:List Nat) (w:World) (hn:n=zs.length) (h:Rd w ao c zs) (hl:zs.length≤10000) :
  Calls Tryd.prog 43 #[.agg #[.bool s,.slice ao n c]] w (GotTZ w (iv s zs)):=by
 subst hn
 obtain ⟨x,hx⟩:∃ x,sgn (iv s zs)=x:=⟨_,rfl⟩
 replace hx:=Lib.hid hx
 by_cases h0:x<0
 ·have hz:Hid (iv s zs<0):=zbt.1 (by rw [hx.out];exact h0)
  go_enter Tryd.func43,Tryd.ntmps43
  go_wp2_with fail
  refine (ZSign_any s _ _ _ zs _ x rfl (h.ext ((Ext.refl _).alloc _)) (by first | omega | (simp;done) | (simp;omega)) hx.out).mono ?_
  rintro e w1 ⟨rfl,xx⟩
  have hE:Ext w w1:=Ext.trans ((Ext.refl _).alloc _) xx
  have hz1:w.heap.size+1≤w1.heap.size:=(by have hq:=Ext.size xx;(try simp at hq);omega)
  have hb0:w.heap.size<w1.heap.size:=(by omega)
  have q0_1:=Ext.cell (p:=⟨w.heap.size,1,none⟩) (v:=.slice ao zs.length c) xx (by first | exact True | (go_simp;done) | (repeat (first | assumption | (refine (World.cell?_setCell_far _ _ _ _ (by simp <;> omega)).trans ?_) | (refine (World.cell?_alloc_lt _ _ _ (World.block_lt_of_cell? _ _ (by assumption))).trans ?_) | (go_simp;done))))
  clear xx
  go_wp2_with fail
  refine (Text_any _ _ _ zs _ rfl (h.ext hE) (by first | omega | (simp;done) | (simp;omega))).mono ?_
  rintro e w2 ⟨r2s,rfl,r2t,xx⟩
  replace r2t:=Lib.hid r2t
  replace hE:=Ext.trans hE xx
  have hz2:w1.heap.size≤w2.heap.size:=(by have hq:=Ext.size xx;(try simp at hq);omega)
  clear xx
  have r2z:r2s.size≤100001:=text_long h.lb r2t.out hl
  go_wp2_with fail
  go_ret
  exact ⟨r2s,by unfold textZ;rw [if_pos hz.out];rfl,by rw [iv_abs];exact r2t.out,hE⟩
 ·have hz:Hid (¬ iv s zs<0):=fun q=>h0 (by rw [← hx.out];exact zbt.2 q)
  go_enter Tryd.func43,Tryd.ntmps43
  go_wp2_with fail
  refine (ZSign_any s _ _ _ zs _ x rfl (h.ext ((Ext.refl _).alloc _)) (by first | omega | (simp;done) | (simp;omega)) hx.out).mono ?_
  rintro e w1 ⟨rfl,xx⟩
  have hE:Ext w w1:=Ext.trans ((Ext.refl _).alloc _) xx
  have hz1:w.heap.size+1≤w1.heap.size:=(by have hq:=Ext.size xx;(try simp at hq);omega)
  have hb0:w.heap.size<w1.heap.size:=(by omega)
  have q0_1:=Ext.cell (p:=⟨w.heap.size,1,none⟩) (v:=.slice ao zs.length c) xx (by first | exact True | (go_simp;done) | (repeat (first | assumption | (refine (World.cell?_setCell_far _ _ _ _ (by simp <;> omega)).trans ?_) | (refine (World.cell?_alloc_lt _ _ _ (World.block_lt_of_cell? _ _ (by assumption))).trans ?_) | (go_simp;done))))
  clear xx
  go_wp2_with fail
  refine (Text_any _ _ _ zs _ rfl (h.ext hE) (by first | omega | (simp;done) | (simp;omega))).mono ?_
  rintro e w2 ⟨r2s,rfl,r2t,xx⟩
  replace r2t:=Lib.hid r2t
  replace hE:=Ext.trans hE xx
  have hz2:w1.heap.size≤w2.heap.size:=(by have hq:=Ext.size xx;(try simp at hq);omega)
  clear xx
  go_wp2_with fail
  go_ret
  exact ⟨r2s,by unfold textZ;rw [if_neg (by have:=hz.out;omega)];rfl,by rw [iv_abs];exact r2t.out,hE⟩
set_option maxHeartbeats 1000000 in
theorem RZText_any (s:Bool) (ao:Option Addr) (n c:Nat) (zs:List Nat) (w:World) (hn:n=zs.length) (h:Rd w ao c zs) (hl:zs.length≤10000) :
  Calls Tryd.prog 36 #[.agg #[.bool s,.slice ao n c]] w (GotTZ w (iv s zs)):=by
 subst hn
 obtain ⟨x,hx⟩:∃ x,sgn (iv s zs)=x:=⟨_,rfl⟩
 replace hx:=Lib.hid hx
 by_cases h0:x<0
 ·have hz:Hid (iv s zs<0):=zbt.1 (by rw [hx.out];exact h0)
  go_enter Tryd.func36,Tryd.ntmps36
  go_wp2_with fail
  refine (RSign_any s _ _ _ zs _ x rfl (h.ext ((Ext.refl _).alloc _)) (by first | omega | (simp;done) | (simp;omega)) hx.out).mono ?_
  rintro e w1 ⟨rfl,xx⟩
  have hE:Ext w w1:=Ext.trans ((Ext.refl _).alloc _) xx
  have hz1:w.heap.size+1≤w1.heap.size:=(by have hq:=Ext.size xx;(try simp at hq);omega)
  have hb0:w.heap.size<w1.heap.size:=(by omega)
  have q0_1:=Ext.cell (p:=⟨w.heap.size,1,none⟩) (v:=.slice ao zs.length c) xx (by first | exact True | (go_simp;done) | (repeat (first | assumption | (refine (World.cell?_setCell_far _ _ _ _ (by simp <;> omega)).trans ?_) | (refine (World.cell?_alloc_lt _ _ _ (World.block_lt_of_cell? _ _ (by assumption))).trans ?_) | (go_simp;done))))
  clear xx
  go_wp2_with fail
  refine (RText_any _ _ _ zs _ rfl (h.ext hE) (by first | omega | (simp;done) | (simp;omega))).mono ?_
  rintro e w2 ⟨r2s,rfl,r2t,xx⟩
  replace r2t:=Lib.hid r2t
  replace hE:=Ext.trans hE xx
  have hz2:w1.heap.size≤w2.heap.size:=(by have hq:=Ext.size xx;(try simp at hq);omega)
  clear xx
  have r2z:r2s.size≤100001:=text_long h.lb r2t.out hl
  go_wp2_with fail
  go_ret
  exact ⟨r2s,by unfold textZ;rw [if_pos hz.out];rfl,by rw [iv_abs];exact r2t.out,hE⟩
 ·have hz:Hid (¬ iv s zs<0):=fun q=>h0 (by rw [← hx.out];exact zbt.2 q)
  go_enter Tryd.func36,Tryd.ntmps36
  go_wp2_with fail
  refine (RSign_any s _ _ _ zs _ x rfl (h.ext ((Ext.refl _).alloc _)) (by first | omega | (simp;done) | (simp;omega)) hx.out).mono ?_
  rintro e w1 ⟨rfl,xx⟩
  have hE:Ext w w1:=Ext.trans ((Ext.refl _).alloc _) xx
  have hz1:w.heap.size+1≤w1.heap.size:=(by have hq:=Ext.size xx;(try simp at hq);omega)
  have hb0:w.heap.size<w1.heap.size:=(by omega)
  have q0_1:=Ext.cell (p:=⟨w.heap.size,1,none⟩) (v:=.slice ao zs.length c) xx (by first | exact True | (go_simp;done) | (repeat (first | assumption | (refine (World.cell?_setCell_far _ _ _ _ (by simp <;> omega)).trans ?_) | (refine (World.cell?_alloc_lt _ _ _ (World.block_lt_of_cell? _ _ (by assumption))).trans ?_) | (go_simp;done))))
  clear xx
  go_wp2_with fail
  refine (RText_any _ _ _ zs _ rfl (h.ext hE) (by first | omega | (simp;done) | (simp;omega))).mono ?_
  rintro e w2 ⟨r2s,rfl,r2t,xx⟩
  replace r2t:=Lib.hid r2t
  replace hE:=Ext.trans hE xx
  have hz2:w1.heap.size≤w2.heap.size:=(by have hq:=Ext.size xx;(try simp at hq);omega)
  clear xx
  go_wp2_with fail
  go_ret
  exact ⟨r2s,by unfold textZ;rw [if_neg (by have:=hz.out;omega)];rfl,by rw [iv_abs];exact r2t.out,hE⟩
end Go.Proofs.YtlfebjeoeijlfaaDoor
section
namespace Go.Proofs
open Go.Shelf
def Tryd.lays169_ren:Go.Shelf.Ren:=⟨fun | 169=>22 | n=>n,fun | 70=>72 | 9=>9 | 0=>0 | 72=>75 | 37=>73 | 127=>96 | 3=>3 | 5=>5 | n=>n,fun | n=>n⟩
theorem Tryd.lays169:Go.Proofs.Lays.n169 Tryd.prog Tryd.lays169_ren:={
 mixed:=by kernel_rfl
 f169:=Tryd.func22.trans (congrArg some (by kernel_rfl))
 t0:=Tryd.underlying0
 a0:=Tryd.isAgg0
 z0:=Tryd.sizeOf0
 v0:=Tryd.zeroValue0
 t3:=Tryd.underlying3
 a3:=Tryd.isAgg3
 z3:=Tryd.sizeOf3
 v3:=Tryd.zeroValue3
 t9:=Tryd.underlying9
 a9:=Tryd.isAgg9
 z9:=Tryd.sizeOf9
 v9:=Tryd.zeroValue9
 t37:=Tryd.underlying73
 a37:=Tryd.isAgg73
 z37:=Tryd.sizeOf73
 v37:=Tryd.zeroValue73
 t70:=Tryd.underlying72
 a70:=Tryd.isAgg72
 z70:=Tryd.sizeOf72
 v70:=Tryd.zeroValue72
 t72:=Tryd.underlying75
 a72:=Tryd.isAgg75
 z72:=Tryd.sizeOf75
 v72:=Tryd.zeroValue75
 t127:=Tryd.underlying96
 a127:=Tryd.isAgg96
 z127:=Tryd.sizeOf96
 v127:=Tryd.zeroValue96 }
theorem Tryd.Builder_Extra_169:Builder.Extra Tryd.prog Tryd.lays169_ren:={
 sizeBuilder:=by kernel_rfl
 liesBuilder:=by kernel_rfl
 t5:=Tryd.underlying5
 a5:=Tryd.isAgg5
 z5:=Tryd.sizeOf5
 v5:=Tryd.zeroValue5
 infoByte:=by kernel_rfl
 cellsByte:=by kernel_rfl
 sizeByte:=by kernel_rfl
 neB5:=by decide }
def Tryd.lays171_ren:Go.Shelf.Ren:=⟨fun | 171=>26 | 243=>37 | 246=>49 | 283=>57 | 284=>58 | 285=>59 | 286=>60 | 129=>71 | 317=>70 | 318=>72 | 319=>73 | 320=>74 | 337=>80 | 338=>81 | n=>n,fun | 3=>3 | 9=>9 | 2=>2 | 4=>4 | 171=>119 | 0=>0 | 53=>117 | 37=>73 | 5=>5 | 173=>122 | 212=>132 | 51=>118 | 20=>20 | 213=>133 | 46=>126 | 232=>141 | 233=>142 | n=>n,fun | 17=>1 | 18=>2 | 19=>3 | n=>n⟩
theorem Tryd.lays171:Go.Proofs.Lays.n171 Tryd.prog Tryd.lays171_ren:={
 mixed:=by kernel_rfl
 f129:=Tryd.func71.trans (congrArg some (by kernel_rfl))
 f171:=Tryd.func26.trans (congrArg some (by kernel_rfl))
 f243:=Tryd.func37.trans (congrArg some (by kernel_rfl))
 f246:=Tryd.func49.trans (congrArg some (by kernel_rfl))
 f283:=Tryd.func57.trans (congrArg some (by kernel_rfl))
 f284:=Tryd.func58.trans (congrArg some (by kernel_rfl))
 f285:=Tryd.func59.trans (congrArg some (by kernel_rfl))
 f286:=Tryd.func60.trans (congrArg some (by kernel_rfl))
 f317:=Tryd.func70.trans (congrArg some (by kernel_rfl))
 f318:=Tryd.func72.trans (congrArg some (by kernel_rfl))
 f319:=Tryd.func73.trans (congrArg some (by kernel_rfl))
 f320:=Tryd.func74.trans (congrArg some (by kernel_rfl))
 f337:=Tryd.func80.trans (congrArg some (by kernel_rfl))
 f338:=Tryd.func81.trans (congrArg some (by kernel_rfl))
 t0:=Tryd.underlying0
 a0:=Tryd.isAgg0
 z0:=Tryd.sizeOf0
 v0:=Tryd.zeroValue0
 t2:=Tryd.underlying2
 a2:=Tryd.isAgg2
 z2:=Tryd.sizeOf2
 v2:=Tryd.zeroValue2
 t3:=Tryd.underlying3
 a3:=Tryd.isAgg3
 z3:=Tryd.sizeOf3
 v3:=Tryd.zeroValue3
 t4:=Tryd.underlying4
 a4:=Tryd.isAgg4
 z4:=Tryd.sizeOf4
 v4:=Tryd.zeroValue4
 t5:=Tryd.underlying5
 a5:=Tryd.isAgg5
 z5:=Tryd.sizeOf5
 v5:=Tryd.zeroValue5
 t9:=Tryd.underlying9
 a9:=Tryd.isAgg9
 z9:=Tryd.sizeOf9
 v9:=Tryd.zeroValue9
 t20:=Tryd.underlying20
 a20:=Tryd.isAgg20
 z20:=Tryd.sizeOf20
 v20:=Tryd.zeroValue20
 t37:=Tryd.underlying73
 a37:=Tryd.isAgg73
 z37:=Tryd.sizeOf73
 v37:=Tryd.zeroValue73
 t46:=Tryd.underlying126
 a46:=Tryd.isAgg126
 z46:=Tryd.sizeOf126
 v46:=Tryd.zeroValue126
 t51:=Tryd.underlying118
 a51:=Tryd.isAgg118
 z51:=Tryd.sizeOf118
 v51:=Tryd.zeroValue118
 t53:=Tryd.underlying117
 a53:=Tryd.isAgg117
 z53:=Tryd.sizeOf117
 v53:=Tryd.zeroValue117
 t171:=Tryd.underlying119
 a171:=Tryd.isAgg119
 z171:=Tryd.sizeOf119
 v171:=Tryd.zeroValue119
 t173:=Tryd.underlying122
 a173:=Tryd.isAgg122
 z173:=Tryd.sizeOf122
 v173:=Tryd.zeroValue122
 t212:=Tryd.underlying132
 a212:=Tryd.isAgg132
 z212:=Tryd.sizeOf132
 v212:=Tryd.zeroValue132
 t213:=Tryd.underlying133
 a213:=Tryd.isAgg133
 z213:=Tryd.sizeOf133
 t232:=Tryd.underlying141
 a232:=Tryd.isAgg141
 z232:=Tryd.sizeOf141
 v232:=Tryd.zeroValue141
 t233:=Tryd.underlying142
 a233:=Tryd.isAgg142
 z233:=Tryd.sizeOf142
 v233:=Tryd.zeroValue142
 g17:=by kernel_rfl
 g18:=by kernel_rfl
 g19:=by kernel_rfl }

def Tryd.lays166_ren:Go.Shelf.Ren:=⟨fun | 166=>30 | 240=>40 | 276=>52 | n=>n,fun | 0=>0 | 3=>3 | 4=>4 | 9=>9 | 20=>20 | 37=>73 | 70=>72 | 72=>75 | 75=>91 | 80=>81 | 164=>113 | 5=>5 | n=>n,fun | n=>n⟩
theorem Tryd.lays166:Go.Proofs.Lays.n166 Tryd.prog Tryd.lays166_ren:={
 mixed:=by kernel_rfl
 f166:=Tryd.func30.trans (congrArg some (by kernel_rfl))
 f240:=Tryd.func40.trans (congrArg some (by kernel_rfl))
 f276:=Tryd.func52.trans (congrArg some (by kernel_rfl))
 t0:=Tryd.underlying0
 a0:=Tryd.isAgg0
 z0:=Tryd.sizeOf0
 v0:=Tryd.zeroValue0
 t3:=Tryd.underlying3
 a3:=Tryd.isAgg3
 z3:=Tryd.sizeOf3
 v3:=Tryd.zeroValue3
 t4:=Tryd.underlying4
 a4:=Tryd.isAgg4
 z4:=Tryd.sizeOf4
 v4:=Tryd.zeroValue4
 t9:=Tryd.underlying9
 a9:=Tryd.isAgg9
 z9:=Tryd.sizeOf9
 v9:=Tryd.zeroValue9
 t20:=Tryd.underlying20
 a20:=Tryd.isAgg20
 z20:=Tryd.sizeOf20
 v20:=Tryd.zeroValue20
 t37:=Tryd.underlying73
 a37:=Tryd.isAgg73
 z37:=Tryd.sizeOf73
 v37:=Tryd.zeroValue73
 t70:=Tryd.underlying72
 a70:=Tryd.isAgg72
 z70:=Tryd.sizeOf72
 v70:=Tryd.zeroValue72
 t72:=Tryd.underlying75
 a72:=Tryd.isAgg75
 z72:=Tryd.sizeOf75
 v72:=Tryd.zeroValue75
 t75:=Tryd.underlying91
 a75:=Tryd.isAgg91
 z75:=Tryd.sizeOf91
 v75:=Tryd.zeroValue91
 t164:=Tryd.underlying113
 a164:=Tryd.isAgg113
 z164:=Tryd.sizeOf113
 v164:=Tryd.zeroValue113 }
theorem Tryd.Builder_Extra_166:Builder.Extra Tryd.prog Tryd.lays166_ren:={
 sizeBuilder:=by kernel_rfl
 liesBuilder:=by kernel_rfl
 t5:=Tryd.underlying5
 a5:=Tryd.isAgg5
 z5:=Tryd.sizeOf5
 v5:=Tryd.zeroValue5
 infoByte:=by kernel_rfl
 cellsByte:=by kernel_rfl
 sizeByte:=by kernel_rfl
 neB5:=by decide }

end Go.Proofs
end
namespace Go.Proofs.YtlfebjeoeijlfaaDoor
namespace S
theorem openZ2 {H:Im} {B:Bl} {x:ZI} {v:Value} (h:VR H B (vz x) v) (hx:Lb x.abs):∃ ao c,v = .agg #[.bool x.neg,.slice ao x.abs.length c]∧∀ w:World,(∀ b o,H b=some o→w.heap[b]?=some o)→Rd w ao c x.abs:=by
 obtain ⟨vs,rfl,h1⟩:=h
 match vs,h1 with
 | [a,b],h1 =>
  obtain ⟨h2,h3,_⟩:=h1
  have e1:a = .bool x.neg:=VR.rawI (H:=H) (B:=B) h2
  obtain ⟨ao,c,rfl,h4⟩:=nsl_rd h3 hx
  exact ⟨ao,c,by rw [e1],h4⟩
 | [],h1=>exact h1.elim
 | [_],h1=>exact h1.2.elim
 | _ :: _ :: _ :: _,h1=>exact h1.2.2.elim
end S
end Go.Proofs.YtlfebjeoeijlfaaDoor
section
namespace Go.Proofs
open Go.Shelf
theorem Tryd.laysM171:Go.Proofs.LaysM.n171 Tryd.prog Tryd.lays171_ren:={ Tryd.lays171 with
 i0:=by kernel_rfl
 i2:=by kernel_rfl
 i3:=by kernel_rfl
 i4:=by kernel_rfl
 i5:=by kernel_rfl
 i9:=by kernel_rfl
 i20:=by kernel_rfl
 i37:=by kernel_rfl
 i46:=by kernel_rfl
 i51:=by kernel_rfl
 i53:=by kernel_rfl
 i171:=by kernel_rfl
 i173:=by kernel_rfl
 i212:=by kernel_rfl
 i232:=by kernel_rfl
 i233:=by kernel_rfl
 m17:=by kernel_rfl
 m18:=by kernel_rfl
 m19:=by kernel_rfl }
end Go.Proofs
namespace Go.Proofs.YtlfebjeoeijlfaaDoor.S
open Go.RowKit

def itW (n:Int):ByteArray:=⟨(Lib.itoa n).toArray⟩
theorem zdb {u:Nat} (h:u<10):Lib.decDigits u=[UInt8.ofNat (48+u)]:=by rw [Lib.decDigits,dif_pos h]
theorem decD_more {u:Nat} (h:¬ u<10):Lib.decDigits u=Lib.decDigits (u / 10)++[UInt8.ofNat (48+u % 10)]:=by rw [Lib.decDigits,dif_neg h]
theorem dig8 {d:Nat} (h:d<10):(UInt8.ofNat (48+d)).toNat=48+d:=by
 rw [UInt8.toNat_ofNat'];exact Nat.mod_eq_of_lt (by omega)
theorem decD_isT (u:Nat):isT ((Lib.decDigits u).map UInt8.toNat) u∧(0<u→((Lib.decDigits u).map UInt8.toNat).getD 0 0≠48):=by
 induction u using Nat.strongRecOn with
 | _ u ih =>
  by_cases h:u<10
  ·rw [zdb h]
   show isT [(UInt8.ofNat (48+u)).toNat] u∧(0<u→[(UInt8.ofNat (48+u)).toNat].getD 0 0≠48)
   rw [dig8 h]
   refine ⟨⟨by simp,fun c hc=>?_,by simp [dvl],fun h1=>by simp at h1⟩,fun h1=>?_⟩
   ·rw [List.mem_singleton.1 hc];omega
   ·show 48+u≠48;omega
  ·rw [decD_more h,List.map_append]
   obtain ⟨⟨h1,h2,h3,_⟩,h5⟩:=ih (u / 10) (by omega)
   have h5:=h5 (by omega)
   have hl:((Lib.decDigits (u / 10)).map UInt8.toNat)≠[]:=fun e=>by rw [e] at h1;simp at h1
   have hz:((Lib.decDigits (u / 10)).map UInt8.toNat++[UInt8.ofNat (48+u % 10)].map UInt8.toNat).getD 0 0≠48:=by
    cases he:(Lib.decDigits (u / 10)).map UInt8.toNat with
    | nil=>exact absurd he hl
    | cons a l=>rw [he] at h5;exact h5
   refine ⟨⟨by rw [List.length_append];omega,fun c hc=>?_,?_,fun _=>hz⟩,fun _=>hz⟩
   ·rcases List.mem_append.1 hc with hc | hc
    ·exact h2 c hc
    ·have hc:c=(UInt8.ofNat (48+u % 10)).toNat:=by simpa using hc
     rw [hc,dig8 (by omega)];omega
   ·show dvl (_++[(UInt8.ofNat (48+u % 10)).toNat])=u
    rw [dvl_snoc,h3,dig8 (by omega)];omega
theorem itW_text {z:Int} {t:ByteArray} (h:isT (bytes t) z.natAbs):textZ z t=itW z:=by
 have e:t=⟨(Lib.decDigits z.natAbs).toArray⟩:=isT_str h (by unfold bytes;simpa using (decD_isT z.natAbs).1)
 subst e
 unfold textZ itW Lib.itoa
 by_cases hz:z<0
 ·rw [if_pos hz,if_pos hz]
  apply ByteArray.ext
  simp
 ·rw [if_neg hz,if_neg hz,show z.natAbs=z.toNat by omega]
theorem zc7 (n:Int) (h0:-9223372036854775808≤n) (h1:n≤9223372036854775807):Fn Tryd.prog 26 [] [vi .i64 n] (vs (itW n)) []:=by
  intro w H B vals pre
  obtain ⟨a,rfl,h⟩:=args1 pre.arg
  have h:=VR.rawI h
  subst h
  have htab : Lib.TabIs Tryd.prog w "internal/strconv.uint64pow10" .u64 Lib.pow10Tab := by
    obtain ⟨ty,fz,ht⟩:=pre.tab
    unfold Lib.TabIs World.var?
    rw [Tryd.laysM171.m17]
    show (match w.heap[1]? with | some (.cells cs _ _)=>some cs | _=>none)=_
    rw [pre.sat _ _ ht];rfl
  refine (Any.strconv_Itoa Tryd.laysM171 n h0 h1 w htab).mono ?_
  rintro e w' ⟨rfl,k,os,rfl⟩
  have hx:=Go.Proofs.YtlfebjeoeijlfaaDoor.Ext.drewN (Go.Proofs.YtlfebjeoeijlfaaDoor.Ext.refl w) k
  refine postP rfl pre.sat ⟨rfl,hx.os,hx.tape,hx.output,?_,fun b hb=>?_⟩
  · show w.heap.size≤((w.drewN k).heap++os).size
    rw [Array.size_append];have:=hx.size;omega
  · show ((w.drewN k).heap++os)[b]?=_
    rw [Array.getElem?_append_left (by have:=hx.size;omega)]
    exact hx.block b hb
theorem SZText (x:ZI) (hx:Lb x.abs) (lx:x.abs.length≤10000):Fn Tryd.prog 43 [] [vz x] (vs (itW x.val)) []:=by
 intro w H B vals pre
 obtain ⟨a,rfl,h1⟩:=args1 pre.arg
 obtain ⟨ao,c,rfl,r1⟩:=openZ2 h1 hx
 refine (ZText_any x.neg ao _ c x.abs w rfl (r1 w pre.sat) lx).mono ?_
 rintro en w' ⟨t,rfl,ht,he⟩
 have:=itW_text ht
 rw [this]
 exact postP rfl pre.sat ⟨rfl,he⟩
theorem zdc (x:ZI) (hx:Lb x.abs) (lx:x.abs.length≤10000):Fn Tryd.prog 36 [] [vz x] (vs (itW x.val)) []:=by
 intro w H B vals pre
 obtain ⟨a,rfl,h1⟩:=args1 pre.arg
 obtain ⟨ao,c,rfl,r1⟩:=openZ2 h1 hx
 refine (RZText_any x.neg ao _ c x.abs w rfl (r1 w pre.sat) lx).mono ?_
 rintro en w' ⟨t,rfl,ht,he⟩
 have:=itW_text ht
 rw [this]
 exact postP rfl pre.sat ⟨rfl,he⟩
end Go.Proofs.YtlfebjeoeijlfaaDoor.S
end
namespace Go.Proofs.YtlfebjeoeijlfaaDoor
namespace S
theorem itW_sz {n:Int} {k:Nat} (h:n.natAbs<10 ^ k) (hk:0<k):(itW n).size≤k+1:=by
 have h1:=(decD_isT n.natAbs).1
 have h2:=isT_short h1 h hk
 rw [List.length_map] at h2
 have e:(itW n).size=(Lib.itoa n).length:=by unfold itW;simp [ByteArray.size]
 rw [e]
 unfold Lib.itoa
 split
 ·rw [List.length_cons];omega
 ·rw [show n.toNat=n.natAbs by omega];omega
def zak (s:zap) (p:Int) (n:Nat):List za5:=(s.acts.take n).filter fun a=>a.proc == p
def zb9 (s:zap) (i:Int):ByteArray:=match atI s.acts i with
  | none=>⟨#[115,116,117,116,116,101,114]⟩
  | some a=>((match atI s.procs a.proc with | none=>⟨#[63]⟩ | some p=>p.name)++⟨#[46]⟩)++itW ((zak s a.proc (i.toNat+1)).length:Int)
set_option maxHeartbeats 4000000 in
theorem RPlaceN (s:zap) (p l:Int) (_hz:zc2 s) (hp:atI s.procs p=none):Fn Tryd.prog 35 [] [.t (.agg ([.d (.sl 1 (s.vars.map za3)),.d (.sl 5 (s.bounds.map za0.d)),cI s.init.kind,cPs s.init.r.t.parts]++zi s.init.r.t.k++[cB s.init.r.eq,cFs s.init.kids,.d (.sl 3 (s.procs.map za2.d)),.d (.sl 10 (s.acts.map za5.d))])),vi .i64 p,vi .i64 l] (vs (plW s p l)) []:=by
 refine Fn.body Tryd.func35 rfl 43 rfl fun w H B a h=>?_
 refine rq za1 0 [] [(1,vi .i64 p),(2,vi .i64 l),(3,vp 0 0),(6,.t (.c (.d (.raw (.string ByteArray.empty)))))] [(0,.box ([.d (.sl 1 (s.vars.map za3)),.d (.sl 5 (s.bounds.map za0.d)),cI s.init.kind,cPs s.init.r.t.parts]++zi s.init.r.t.k++[cB s.init.r.eq,cFs s.init.kids,.d (.sl 3 (s.procs.map za2.d)),.d (.sl 10 (s.acts.map za5.d))]))] h ?_;clear h;intro a w h
 refine wp_seq ?_
 rcases Bool.eq_false_or_eq_true (decide (p<0)) with hc | hc
 ·have hc1:=hc;clear hc
  have hc1':=of_decide_eq_true hc1
  refine rq za1 1 [(1,.cmp (op:=.lss) (m:=p) (n:=0) (b:=true) .i64 hc1)] [(1,vi .i64 p),(2,vi .i64 l),(3,vp 0 0),(6,.t (.c (.d (.raw (.string ByteArray.empty))))),(16,vb true)] [(0,.box ([.d (.sl 1 (s.vars.map za3)),.d (.sl 5 (s.bounds.map za0.d)),cI s.init.kind,cPs s.init.r.t.parts]++zi s.init.r.t.k++[cB s.init.r.eq,cFs s.init.kids,.d (.sl 3 (s.procs.map za2.d)),.d (.sl 10 (s.acts.map za5.d))]))] h ?_;clear h;intro a w h
  refine zac true h rfl (fun hc=>?_) (fun hc=>?_)
  ·clear hc
   refine rq za1 1 [] [(1,vi .i64 p),(2,vi .i64 l),(3,vp 0 0),(6,.t (.c (.d (.raw (.string (⟨#[63,64,63]⟩:ByteArray))))))] [(0,.box ([.d (.sl 1 (s.vars.map za3)),.d (.sl 5 (s.bounds.map za0.d)),cI s.init.kind,cPs s.init.r.t.parts]++zi s.init.r.t.k++[cB s.init.r.eq,cFs s.init.kids,.d (.sl 3 (s.procs.map za2.d)),.d (.sl 10 (s.acts.map za5.d))]))] h ?_;clear h;intro a w h
   refine wp_ret (zah ?_)
   refine zaz [.c (.d (.raw (.string (⟨#[63,64,63]⟩:ByteArray))))] h Exit.ret (.inl rfl)  rfl ⟨RV.tmp _ _ rfl,trivial⟩ ?_
   rw [plW_n hp];rfl
  ·cases hc
 ·have hc2:=hc;clear hc
  have hc2':=of_decide_eq_false hc2
  refine rq za1 1 [(1,.cmp (op:=.lss) (m:=p) (n:=0) (b:=false) .i64 hc2),(6,.len (c:=(.d (.sl 3 (s.procs.map za2.d)))) (n:=s.procs.length) (za8 _ _ _)),(7,.cmp (op:=.geq) (m:=p) (n:=(s.procs.length:Int)) (b:=true) .i64 (decide_eq_true (atI_no hp (of_decide_eq_false hc2))))] [(1,vi .i64 p),(2,vi .i64 l),(3,vp 0 0),(6,.t (.c (.d (.raw (.string ByteArray.empty))))),(16,vb true)] [(0,.box ([.d (.sl 1 (s.vars.map za3)),.d (.sl 5 (s.bounds.map za0.d)),cI s.init.kind,cPs s.init.r.t.parts]++zi s.init.r.t.k++[cB s.init.r.eq,cFs s.init.kids,.d (.sl 3 (s.procs.map za2.d)),.d (.sl 10 (s.acts.map za5.d))]))] h ?_;clear h;intro a w h
  refine zac true h rfl (fun hc=>?_) (fun hc=>?_)
  ·clear hc
   refine rq za1 1 [] [(1,vi .i64 p),(2,vi .i64 l),(3,vp 0 0),(6,.t (.c (.d (.raw (.string (⟨#[63,64,63]⟩:ByteArray))))))] [(0,.box ([.d (.sl 1 (s.vars.map za3)),.d (.sl 5 (s.bounds.map za0.d)),cI s.init.kind,cPs s.init.r.t.parts]++zi s.init.r.t.k++[cB s.init.r.eq,cFs s.init.kids,.d (.sl 3 (s.procs.map za2.d)),.d (.sl 10 (s.acts.map za5.d))]))] h ?_;clear h;intro a w h
   refine wp_ret (zah ?_)
   refine zaz [.c (.d (.raw (.string (⟨#[63,64,63]⟩:ByteArray))))] h Exit.ret (.inl rfl)  rfl ⟨RV.tmp _ _ rfl,trivial⟩ ?_
   rw [plW_n hp];rfl
  ·cases hc
set_option maxHeartbeats 4000000 in
theorem RPlaceS (s:zap) (kp:Nat) (l:Int) (pr:za2) (hz:zc2 s) (hkp:s.procs[kp]?=some pr) (hl:atI pr.locs l=none):Fn Tryd.prog 35 [] [.t (.agg ([.d (.sl 1 (s.vars.map za3)),.d (.sl 5 (s.bounds.map za0.d)),cI s.init.kind,cPs s.init.r.t.parts]++zi s.init.r.t.k++[cB s.init.r.eq,cFs s.init.kids,.d (.sl 3 (s.procs.map za2.d)),.d (.sl 10 (s.acts.map za5.d))])),vi .i64 (kp:Int),vi .i64 l] (vs (plW s (kp:Int) l)) []:=by
 have lnm:=hz.name pr (List.mem_of_getElem? hkp)
 have lkp:=zao hkp
 refine Fn.body Tryd.func35 rfl 43 rfl fun w H B a h=>?_
 refine rq za1 0 [] [(1,vi .i64 (kp:Int)),(2,vi .i64 l),(3,vp 0 0),(6,.t (.c (.d (.raw (.string ByteArray.empty)))))] [(0,.box ([.d (.sl 1 (s.vars.map za3)),.d (.sl 5 (s.bounds.map za0.d)),cI s.init.kind,cPs s.init.r.t.parts]++zi s.init.r.t.k++[cB s.init.r.eq,cFs s.init.kids,.d (.sl 3 (s.procs.map za2.d)),.d (.sl 10 (s.acts.map za5.d))]))] h ?_;clear h;intro a w h
 refine wp_seq (rq za1 1 [(1,.cmp (op:=.lss) (m:=(kp:Int)) (n:=0) (b:=false) .i64 (show (decide ((kp:Int)<0))=false from decide_eq_false (by omega))),(6,.len (c:=(.d (.sl 3 (s.procs.map za2.d)))) (n:=s.procs.length) (za8 _ _ _)),(7,.cmp (op:=.geq) (m:=(kp:Int)) (n:=(s.procs.length:Int)) (b:=false) .i64 (show (decide ((kp:Int)≥(s.procs.length:Int)))=false from decide_eq_false (by omega)))] [(1,vi .i64 (kp:Int)),(2,vi .i64 l),(3,vp 0 0),(6,.t (.c (.d (.raw (.string ByteArray.empty))))),(16,vb false)] [(0,.box ([.d (.sl 1 (s.vars.map za3)),.d (.sl 5 (s.bounds.map za0.d)),cI s.init.kind,cPs s.init.r.t.parts]++zi s.init.r.t.k++[cB s.init.r.eq,cFs s.init.kids,.d (.sl 3 (s.procs.map za2.d)),.d (.sl 10 (s.acts.map za5.d))]))] h ?_);clear h;intro a w h
 refine zac false h rfl (fun hc=>?_) (fun hc=>?_)
 ·cases hc
 ·clear hc
  refine wp_skip (za4 (rq za1 1 [(3,.gen _ _ _ fun _ _ _ _=>Op.idxD (d:=20) (t:=18) (k:=.i64) kf_5 (zam hkp (f:=za2.d)) (OV.tmp 19 _))] [(2,vi .i64 l),(6,.t (.c (.d (.raw (.string ByteArray.empty))))),(7,vp 1 0)] [(1,.box [.d (.raw (.string pr.name)),.d (.sl 1 (pr.locs.map za3)),.d pr.cmds])] h ?_));clear h;intro a w h
  refine wp_seq ?_
  rcases Bool.eq_false_or_eq_true (decide (l<0)) with hc | hc
  ·have hc1:=hc;clear hc
   have hc1':=of_decide_eq_true hc1
   refine rq za1 2 [(1,.cmp (op:=.lss) (m:=l) (n:=0) (b:=true) .i64 hc1)] [(2,vi .i64 l),(6,.t (.c (.d (.raw (.string ByteArray.empty))))),(7,vp 1 0),(30,vb true)] [(1,.box [.d (.raw (.string pr.name)),.d (.sl 1 (pr.locs.map za3)),.d pr.cmds])] h ?_;clear h;intro a w h
   refine zac true h rfl (fun hc=>?_) (fun hc=>?_)
   ·clear hc
    refine rq za1 2 [(2,.gen _ _ _ fun _ _ _ _=>Op.strAdd (d:=33) (xt:=9) (yt:=9) (s1:=pr.name) (s2:=(⟨#[64,63]⟩:ByteArray)) (r:=(pr.name++(⟨#[64,63]⟩:ByteArray))) (OV.tmp 32 _) (OV.const (.string (⟨#[64,63]⟩:ByteArray)) rfl) (by have:(⟨#[64,63]⟩:ByteArray).size=2:=rfl;omega) rfl)] [(2,vi .i64 l),(6,.t (.c (.d (.raw (.string (pr.name++(⟨#[64,63]⟩:ByteArray))))))),(7,vp 1 0)] [(1,.box [.d (.raw (.string pr.name)),.d (.sl 1 (pr.locs.map za3)),.d pr.cmds])] h ?_;clear h;intro a w h
    refine wp_ret (zah ?_)
    refine zaz [.c (.d (.raw (.string (pr.name++(⟨#[64,63]⟩:ByteArray)))))] h Exit.ret (.inl rfl)  rfl ⟨RV.tmp _ _ rfl,trivial⟩ ?_
    rw [plW_s (show atI s.procs (kp:Int)=some pr from zbh.trans hkp) hl,ByteArray.append_assoc];rfl
   ·cases hc
  ·have hc2:=hc;clear hc
   have hc2':=of_decide_eq_false hc2
   refine rq za1 2 [(1,.cmp (op:=.lss) (m:=l) (n:=0) (b:=false) .i64 hc2),(6,.len (c:=(.d (.sl 1 (pr.locs.map za3)))) (n:=pr.locs.length) (za8 _ _ _)),(7,.cmp (op:=.geq) (m:=l) (n:=(pr.locs.length:Int)) (b:=true) .i64 (decide_eq_true (atI_no hl (of_decide_eq_false hc2))))] [(2,vi .i64 l),(6,.t (.c (.d (.raw (.string ByteArray.empty))))),(7,vp 1 0),(30,vb true)] [(1,.box [.d (.raw (.string pr.name)),.d (.sl 1 (pr.locs.map za3)),.d pr.cmds])] h ?_;clear h;intro a w h
   refine zac true h rfl (fun hc=>?_) (fun hc=>?_)
   ·clear hc
    refine rq za1 2 [(2,.gen _ _ _ fun _ _ _ _=>Op.strAdd (d:=33) (xt:=9) (yt:=9) (s1:=pr.name) (s2:=(⟨#[64,63]⟩:ByteArray)) (r:=(pr.name++(⟨#[64,63]⟩:ByteArray))) (OV.tmp 32 _) (OV.const (.string (⟨#[64,63]⟩:ByteArray)) rfl) (by have:(⟨#[64,63]⟩:ByteArray).size=2:=rfl;omega) rfl)] [(2,vi .i64 l),(6,.t (.c (.d (.raw (.string (pr.name++(⟨#[64,63]⟩:ByteArray))))))),(7,vp 1 0)] [(1,.box [.d (.raw (.string pr.name)),.d (.sl 1 (pr.locs.map za3)),.d pr.cmds])] h ?_;clear h;intro a w h
    refine wp_ret (zah ?_)
    refine zaz [.c (.d (.raw (.string (pr.name++(⟨#[64,63]⟩:ByteArray)))))] h Exit.ret (.inl rfl)  rfl ⟨RV.tmp _ _ rfl,trivial⟩ ?_
    rw [plW_s (show atI s.procs (kp:Int)=some pr from zbh.trans hkp) hl,ByteArray.append_assoc];rfl
   ·cases hc
set_option maxHeartbeats 4000000 in
theorem RPlaceT (s:zap) (kp kl:Nat) (pr:za2) (t:ByteArray) (hz:zc2 s) (hkp:s.procs[kp]?=some pr) (hkl:pr.locs[kl]?=some t):Fn Tryd.prog 35 [] [.t (.agg ([.d (.sl 1 (s.vars.map za3)),.d (.sl 5 (s.bounds.map za0.d)),cI s.init.kind,cPs s.init.r.t.parts]++zi s.init.r.t.k++[cB s.init.r.eq,cFs s.init.kids,.d (.sl 3 (s.procs.map za2.d)),.d (.sl 10 (s.acts.map za5.d))])),vi .i64 (kp:Int),vi .i64 (kl:Int)] (vs (plW s (kp:Int) (kl:Int))) []:=by
 have lnm:=hz.name pr (List.mem_of_getElem? hkp)
 have lkp:=zao hkp
 have lkl:=zao hkl
 have ltt:=hz.locs pr (List.mem_of_getElem? hkp) t (List.mem_of_getElem? hkl)
 refine Fn.body Tryd.func35 rfl 43 rfl fun w H B a h=>?_
 refine rq za1 0 [] [(1,vi .i64 (kp:Int)),(2,vi .i64 (kl:Int)),(3,vp 0 0),(6,.t (.c (.d (.raw (.string ByteArray.empty)))))] [(0,.box ([.d (.sl 1 (s.vars.map za3)),.d (.sl 5 (s.bounds.map za0.d)),cI s.init.kind,cPs s.init.r.t.parts]++zi s.init.r.t.k++[cB s.init.r.eq,cFs s.init.kids,.d (.sl 3 (s.procs.map za2.d)),.d (.sl 10 (s.acts.map za5.d))]))] h ?_;clear h;intro a w h
 refine wp_seq (rq za1 1 [(1,.cmp (op:=.lss) (m:=(kp:Int)) (n:=0) (b:=false) .i64 (show (decide ((kp:Int)<0))=false from decide_eq_false (by omega))),(6,.len (c:=(.d (.sl 3 (s.procs.map za2.d)))) (n:=s.procs.length) (za8 _ _ _)),(7,.cmp (op:=.geq) (m:=(kp:Int)) (n:=(s.procs.length:Int)) (b:=false) .i64 (show (decide ((kp:Int)≥(s.procs.length:Int)))=false from decide_eq_false (by omega)))] [(1,vi .i64 (kp:Int)),(2,vi .i64 (kl:Int)),(3,vp 0 0),(6,.t (.c (.d (.raw (.string ByteArray.empty))))),(16,vb false)] [(0,.box ([.d (.sl 1 (s.vars.map za3)),.d (.sl 5 (s.bounds.map za0.d)),cI s.init.kind,cPs s.init.r.t.parts]++zi s.init.r.t.k++[cB s.init.r.eq,cFs s.init.kids,.d (.sl 3 (s.procs.map za2.d)),.d (.sl 10 (s.acts.map za5.d))]))] h ?_);clear h;intro a w h
 refine zac false h rfl (fun hc=>?_) (fun hc=>?_)
 ·cases hc
 ·clear hc
  refine wp_skip (za4 (rq za1 1 [(3,.gen _ _ _ fun _ _ _ _=>Op.idxD (d:=20) (t:=18) (k:=.i64) kf_5 (zam hkp (f:=za2.d)) (OV.tmp 19 _))] [(2,vi .i64 (kl:Int)),(6,.t (.c (.d (.raw (.string ByteArray.empty))))),(7,vp 1 0)] [(1,.box [.d (.raw (.string pr.name)),.d (.sl 1 (pr.locs.map za3)),.d pr.cmds])] h ?_));clear h;intro a w h
  refine wp_seq (rq za1 2 [(1,.cmp (op:=.lss) (m:=(kl:Int)) (n:=0) (b:=false) .i64 (show (decide ((kl:Int)<0))=false from decide_eq_false (by omega))),(6,.len (c:=(.d (.sl 1 (pr.locs.map za3)))) (n:=pr.locs.length) (za8 _ _ _)),(7,.cmp (op:=.geq) (m:=(kl:Int)) (n:=(pr.locs.length:Int)) (b:=false) .i64 (show (decide ((kl:Int)≥(pr.locs.length:Int)))=false from decide_eq_false (by omega)))] [(2,vi .i64 (kl:Int)),(6,.t (.c (.d (.raw (.string ByteArray.empty))))),(7,vp 1 0),(30,vb false)] [(1,.box [.d (.raw (.string pr.name)),.d (.sl 1 (pr.locs.map za3)),.d pr.cmds])] h ?_);clear h;intro a w h
  refine zac false h rfl (fun hc=>?_) (fun hc=>?_)
  ·cases hc
  ·clear hc
   refine wp_skip (za4 (rq za1 2 [(2,.gen _ _ _ fun _ _ _ _=>Op.strAdd (d:=36) (xt:=9) (yt:=9) (s1:=pr.name) (s2:=(⟨#[64]⟩:ByteArray)) (r:=(pr.name++(⟨#[64]⟩:ByteArray))) (OV.tmp 35 _) (OV.const (.string (⟨#[64]⟩:ByteArray)) rfl) (by have:(⟨#[64]⟩:ByteArray).size=1:=rfl;omega) rfl),(6,.gen _ _ _ fun _ _ _ _=>Op.idxD (d:=40) (t:=38) (k:=.i64) pa1_4 (zam hkl (f:=za3)) (OV.tmp 39 _)),(8,.gen _ _ _ fun _ _ _ _=>Op.strAdd (d:=42) (xt:=9) (yt:=9) (s1:=(pr.name++(⟨#[64]⟩:ByteArray))) (s2:=t) (r:=((pr.name++(⟨#[64]⟩:ByteArray))++t)) (OV.tmp 36 _) (OV.tmp 41 _) (by (try simp only [ByteArray.size_append]);have:(⟨#[64]⟩:ByteArray).size=1:=rfl;omega) rfl)] [(6,.t (.c (.d (.raw (.string ((pr.name++(⟨#[64]⟩:ByteArray))++t))))))] [] h ?_));clear h;intro a w h
   refine wp_ret ?_
   refine zaz [.c (.d (.raw (.string ((pr.name++(⟨#[64]⟩:ByteArray))++t))))] h Exit.ret (.inl rfl)  rfl ⟨RV.tmp _ _ rfl,trivial⟩ ?_
   rw [plW_t (show atI s.procs (kp:Int)=some pr from zbh.trans hkp) (show atI pr.locs (kl:Int)=some t from zbh.trans hkl)];rfl
theorem RPlace (s:zap) (p l:Int) (hz:zc2 s):Fn Tryd.prog 35 [] [.t (.agg ([.d (.sl 1 (s.vars.map za3)),.d (.sl 5 (s.bounds.map za0.d)),cI s.init.kind,cPs s.init.r.t.parts]++zi s.init.r.t.k++[cB s.init.r.eq,cFs s.init.kids,.d (.sl 3 (s.procs.map za2.d)),.d (.sl 10 (s.acts.map za5.d))])),vi .i64 p,vi .i64 l] (vs (plW s p l)) []:=by
 cases hp:atI s.procs p with
 | none=>exact RPlaceN s p l hz hp
 | some pr =>
  obtain ⟨kp,rfl,hkp⟩:=zb7 hp
  cases hl:atI pr.locs l with
  | none=>exact RPlaceS s kp l pr hz hkp hl
  | some t =>
   obtain ⟨kl,rfl,hkl⟩:=zb7 hl
   exact RPlaceT s kp kl pr t hz hkp hkl
section
open Go.RowKit Go.Shelf
section
variable {P:Program}
theorem Op.strNe {d:Nat} {x y:Operand} {s1 s2:ByteArray} {r:Bool} {rs rs':List (Nat × V)} {xt yt ty:TypeId} {pos af gd} (h:OV x (vs s1) rs) (h':OV y (vs s2) rs') (hr:(s1.toList == s2.toList)=!r) :
  zaw P ⟨some d,.binOp .neq xt x y yt,ty,pos,af,gd⟩ { rs:=rs++rs', ws:=[(d,some (vb r))] }:=by
 have hr':(!(s1.toList == s2.toList))=r:=by rw [hr];simp
 refine Op.raw2 rfl h h' rfl fun ρ w h1 h2=>?_
 simp [execOp,h1,h2,eqGuard,go_sem]
 simpa using hr'
theorem Op.strSl {d l h:Nat} {x:Operand} {s r:ByteArray} {lo hi:Option Operand} {rs0 rs rs':List (Nat × V)} {xt ty:TypeId} {pos af gd} (hu:P.underlying xt=some .string) (hx:OV x (vs s) rs0) (hl:BO lo 0 l rs) (hh:BO hi s.size h rs') (h1:l≤h) (h2:h≤s.size) (he:s.extract l h=r) :
  zaw P ⟨some d,.slice xt x lo hi none,ty,pos,af,gd⟩ { rs:=rs0++(rs++rs'),ws:=[(d,some (vs r))] } :=
 zaw.value d _ rfl rfl rfl fun e f H B a w hok hr2=>by
  have g1:a.eval x = .string s:=VR.rawI (H:=H) (B:=B) (hx.eval hok fun p hp=>hr2.1 p (by simp [hp]))
  have hb:=run_bounds (P:=P) (w:=w) (is:=false) (cap:=s.size) hl hh hok (fun p hp=>hr2.1 p (by simp [hp])) (fun p hp=>hr2.1 p (by simp [hp])) h1 h2
  subst he
  refine ⟨.string (s.extract l h),?_,DR.raw _ rfl⟩
  have hrun:(Instr.sliceAt xt (a.eval x) (lo.map a.eval) (hi.map a.eval) none).run P w = .ok (.string (s.extract l h)) w:=by
   rw [g1]
   simp only [Instr.sliceAt,Instr.slice,Sem.run_bind,run_underlying hu,Result.andThen_ok,Option.isSome_none,Bool.false_eq_true,if_false,Sem.run_pure,hb]
  generalize a.eval=ρ at hrun ⊢
  have hrun':(Instr.sliceAt xt (ρ x) (lo.map ρ) (hi.map ρ) ((none:Option Operand).map ρ)).run P w = .ok (.string (s.extract l h)) w:=hrun
  simp only [execOp,Sem.run_bind,hrun', Result.andThen_ok,Sem.run_pure]
end
def za7 (xs:List ByteArray) (sep:ByteArray):ByteArray:=⟨(Lib.join (xs.map (·.data.toList)) sep.data.toList).toArray⟩
theorem postBelow {w w':World} {H:Im} {B:Bl} {v:Value} {en:Ending} (hf:flat v=true) (hs:∀ b o,H b=some o→w.heap[b]?=some o) (he:en = .returned v) (hx:Below w.heap.size w w'):∃ u H' B', en = .returned u∧Post [] w H B (.t (.c (.d (.raw v)))) [] u w' H' B':=by
 subst he
 exact postP hf hs ⟨rfl,hx.os,hx.tape,hx.output,hx.size,fun b hb=>hx.block b hb⟩
theorem SJoin (xs:List ByteArray) (sep:ByteArray) (hN:xs.length≤1000000) (hlen:(za7 xs sep).size≤140737488355328):Fn Tryd.prog 44 [] [.t (.c (.d (.sl 1 (xs.map za3)))),vs sep] (vs (za7 xs sep)) []:=by
 intro w H B vals pre
 obtain ⟨a,b,rfl,h1,h2⟩:=args2 pre.arg
 have h2:=VR.rawI h2
 subst h2
 have hl2:(Lib.join (xs.map (·.data.toList)) sep.data.toList).length≤140737488355328:=by have:=hlen;unfold za7 at this;simpa [ByteArray.size] using this
 have h1:DR H (.sl 1 (xs.map za3)) a:=h1
 generalize hr:xs.map za3=rows at h1
 cases h1 with
 | nil _ ao c k1 k2 =>
  have hx:xs=[]:=by cases xs with | nil=>rfl | cons _ _=>cases hr
  subst hx
  refine (Tryd.strings_Join_none ao c sep w).mono ?_
  rintro e w' ⟨rfl,rfl⟩
  exact postBelow rfl pre.sat rfl (Below.refl _ _)
 | sl _ _ b o c arr ty fz us hp hb hl hc hes hv hx =>
  subst hr
  have hlen':(xs.map za3).length=xs.length:=List.length_map _
  have hcells:∀ (j:Nat) x,xs[j]?=some x→w.cell? ⟨b,o+j,none⟩=some (.string x):=by
   intro j x hj
   have hjl:j<xs.length:=zao hj
   have e1:=hv j (by rw [hlen'];exact hjl) 0 (by decide)
   have e2:=hx j (by rw [hlen'];exact hjl) 0 (by simp [za3])
   have e3:(xs.map za3)[j]'(by rw [hlen'];exact hjl)=za3 x:=by
    rw [List.getElem_map];congr 1;exact (List.getElem?_eq_some_iff.1 hj).2
   have e4:DR H (.raw (.string x)) (us j 0):=by
    have:((xs.map za3)[j]'(by rw [hlen'];exact hjl))[0]'(by simp [za3])=D.raw (.string x):=by simp only [e3];rfl
    rw [← this];exact e2
   have e5:us j 0 = .string x:=by generalize us j 0=q at e4;cases e4;rfl
   rw [e5] at e1
   have:=pre.sat b _ hb
   simp only [World.cell?, this]
   simpa using e1
  have hbk:b<w.heap.size:=(Array.getElem?_eq_some_iff.1 (pre.sat b _ hb)).1
  rw [hlen'] at hl ⊢
  refine (Tryd.strings_Join b o c xs sep w hcells hbk (by omega) hl hl2).mono ?_
  rintro e w' ⟨he,hx⟩
  exact postBelow rfl pre.sat he hx
def cutP (s p:ByteArray):ByteArray:=⟨(Lib.trimPrefix s.data.toList p.data.toList).toArray⟩
theorem SCutPrefix (s p:ByteArray):Fn Tryd.prog 28 [] [vs s,vs p] (.tup [.c (.d (.raw (.string (cutP s p)))),.c (cB (Lib.hasPrefix s.data.toList p.data.toList))]) []:=by
 intro w H B vals pre
 obtain ⟨a,b,rfl,h1,h2⟩:=args2 pre.arg
 have h1:=VR.rawI h1
 have h2:=VR.rawI h2
 subst h1 h2
 refine (Tryd.strings_CutPrefix s p w).mono ?_
 rintro e w' ⟨rfl,rfl⟩
 exact ⟨_,_,_,rfl,postE (Go.Proofs.YtlfebjeoeijlfaaDoor.Ext.refl _) pre.sat ⟨_,rfl,DR.raw _ rfl,DR.raw _ rfl,trivial⟩⟩
theorem SIndex1 (s:ByteArray) (c:UInt8):Fn Tryd.prog 51 [] [vs s,vs ⟨#[c]⟩] (vi .i64 (Lib.indexByte s.data.toList c)) []:=by
 intro w H B vals pre
 obtain ⟨a,b,rfl,h1,h2⟩:=args2 pre.arg
 have h1:=VR.rawI h1
 have h2:=VR.rawI h2
 subst h1 h2
 refine (Tryd.stringslite_Index_one s c w).mono ?_
 rintro e w' ⟨rfl,rfl⟩
 exact postP rfl pre.sat ⟨rfl,Go.Proofs.YtlfebjeoeijlfaaDoor.Ext.refl _⟩
end
theorem pe1_0:zaa Tryd.prog 45:=zaa.mk' (by kernel_rfl)
theorem pe1_3:zaa Tryd.prog 26:=zaa.mk' (by kernel_rfl)
theorem fl_yes {α:Type} {p:α→Bool} {xs:List α} {j:Nat} {x:α} (h:xs[j]?=some x) (hp:p x=true):((xs.take (j+1)).filter p).length=((xs.take j).filter p).length+1:=by
 rw [List.take_add_one,h,List.filter_append,List.length_append];simp [hp]
theorem fl_no {α:Type} {p:α→Bool} {xs:List α} {j:Nat} {x:α} (h:xs[j]?=some x) (hp:p x=false):((xs.take (j+1)).filter p).length=((xs.take j).filter p).length:=by
 rw [List.take_add_one,h,List.filter_append,List.length_append];simp [hp]
theorem tk_at {α:Type} {xs:List α} {n j:Nat} {x:α} (h:(xs.take n)[j]?=some x):xs[j]?=some x:=by
 have h1:=(List.getElem?_eq_some_iff.1 h).1
 rw [List.length_take] at h1
 rwa [List.getElem?_take_of_lt (by omega)] at h
theorem zbz (s:zap) (p:Int) (n:Nat):(zak s p n).length≤s.acts.length:=Nat.le_trans (List.length_filter_le _ _) (by rw [List.length_take];omega)
theorem zd0 {s:zap} {p:Int} {j:Nat} {a:za5} (h:s.acts[j]?=some a) (hp:(a.proc == p)=true):(zak s p (j+1)).length=(zak s p j).length+1:=fl_yes h hp
theorem actN_no {s:zap} {p:Int} {j:Nat} {a:za5} (h:s.acts[j]?=some a) (hp:(a.proc == p)=false):(zak s p (j+1)).length=(zak s p j).length:=fl_no h hp
theorem actW_n {s:zap} {i:Int} (h:atI s.acts i=none):zb9 s i=(⟨#[115,116,117,116,116,101,114]⟩:ByteArray):=by unfold zb9;rw [h]
theorem actW_q {s:zap} {k:Nat} {c:za5} (h:s.acts[k]?=some c) (hp:atI s.procs c.proc=none):zb9 s (k:Int)=((⟨#[63]⟩:ByteArray)++(⟨#[46]⟩:ByteArray))++itW ((zak s c.proc (k+1)).length:Int):=by unfold zb9;rw [zbh,h];simp only [hp,Int.toNat_natCast]
theorem actW_s {s:zap} {k:Nat} {c:za5} {pr:za2} (h:s.acts[k]?=some c) (hp:atI s.procs c.proc=some pr):zb9 s (k:Int)=(pr.name++(⟨#[46]⟩:ByteArray))++itW ((zak s c.proc (k+1)).length:Int):=by unfold zb9;rw [zbh,h];simp only [hp,Int.toNat_natCast]
theorem itA_sz (s:zap) (p:Int) (n:Nat) (hl:s.acts.length≤1000000):(itW ((zak s p n).length:Int)).size≤8:=itW_sz (k:=7) (by have:=zbz s p n;show _<10000000;omega) (by decide)
set_option maxHeartbeats 4000000 in
theorem PActN (s:zap) (i:Int) (_hz:zc2 s) (_hl:s.acts.length≤1000000) (hi:atI s.acts i=none):Fn Tryd.prog 33 [] [.t (.agg ([.d (.sl 1 (s.vars.map za3)),.d (.sl 5 (s.bounds.map za0.d)),cI s.init.kind,cPs s.init.r.t.parts]++zi s.init.r.t.k++[cB s.init.r.eq,cFs s.init.kids,.d (.sl 3 (s.procs.map za2.d)),.d (.sl 10 (s.acts.map za5.d))])),vi .i64 i] (vs (zb9 s i)) []:=by
 refine Fn.body Tryd.func33 rfl 56 rfl fun w H B a h=>?_
 refine rq za1 0 [] [(1,vi .i64 i),(2,vp 0 0),(4,.t (.c (.d (.raw (.string ByteArray.empty)))))] [(0,.box ([.d (.sl 1 (s.vars.map za3)),.d (.sl 5 (s.bounds.map za0.d)),cI s.init.kind,cPs s.init.r.t.parts]++zi s.init.r.t.k++[cB s.init.r.eq,cFs s.init.kids,.d (.sl 3 (s.procs.map za2.d)),.d (.sl 10 (s.acts.map za5.d))]))] h ?_;clear h;intro a w h
 refine rq za1 1 [(3,.call (PAtAN s.acts i hi) pe1_0)] [(1,vi .i64 i),(2,vp 0 0),(4,.t (.c (.d (.raw (.string ByteArray.empty))))),(5,vp 1 0),(6,vb false)] [(0,.box ([.d (.sl 1 (s.vars.map za3)),.d (.sl 5 (s.bounds.map za0.d)),cI s.init.kind,cPs s.init.r.t.parts]++zi s.init.r.t.k++[cB s.init.r.eq,cFs s.init.kids,.d (.sl 3 (s.procs.map za2.d)),.d (.sl 10 (s.acts.map za5.d))])),(1,.box ([cI zc3.proc,cI zc3.from_,cI zc3.to_,cI zc3.guard.kind,cPs zc3.guard.r.t.parts]++zi zc3.guard.r.t.k++[cB zc3.guard.r.eq,cFs zc3.guard.kids,.d (.sl 5 (zc3.moves.map zan.d))]))] h ?_;clear h;intro a w h
 refine wp_seq (rq za1 2 [] [(1,vi .i64 i),(2,vp 0 0),(4,.t (.c (.d (.raw (.string ByteArray.empty))))),(5,vp 1 0),(21,vb true)] [(0,.box ([.d (.sl 1 (s.vars.map za3)),.d (.sl 5 (s.bounds.map za0.d)),cI s.init.kind,cPs s.init.r.t.parts]++zi s.init.r.t.k++[cB s.init.r.eq,cFs s.init.kids,.d (.sl 3 (s.procs.map za2.d)),.d (.sl 10 (s.acts.map za5.d))])),(1,.box ([cI zc3.proc,cI zc3.from_,cI zc3.to_,cI zc3.guard.kind,cPs zc3.guard.r.t.parts]++zi zc3.guard.r.t.k++[cB zc3.guard.r.eq,cFs zc3.guard.kids,.d (.sl 5 (zc3.moves.map zan.d))]))] h ?_);clear h;intro a w h
 refine zac true h rfl (fun hc=>?_) (fun hc=>?_)
 ·clear hc
  refine rq za1 2 [] [(1,vi .i64 i),(2,vp 0 0),(4,.t (.c (.d (.raw (.string (⟨#[115,116,117,116,116,101,114]⟩:ByteArray)))))),(5,vp 1 0)] [(0,.box ([.d (.sl 1 (s.vars.map za3)),.d (.sl 5 (s.bounds.map za0.d)),cI s.init.kind,cPs s.init.r.t.parts]++zi s.init.r.t.k++[cB s.init.r.eq,cFs s.init.kids,.d (.sl 3 (s.procs.map za2.d)),.d (.sl 10 (s.acts.map za5.d))])),(1,.box ([cI zc3.proc,cI zc3.from_,cI zc3.to_,cI zc3.guard.kind,cPs zc3.guard.r.t.parts]++zi zc3.guard.r.t.k++[cB zc3.guard.r.eq,cFs zc3.guard.kids,.d (.sl 5 (zc3.moves.map zan.d))]))] h ?_;clear h;intro a w h
  refine wp_ret (zah ?_)
  refine zaz [.c (.d (.raw (.string (⟨#[115,116,117,116,116,101,114]⟩:ByteArray))))] h Exit.ret (.inl rfl)  rfl ⟨RV.tmp _ _ rfl,trivial⟩ ?_
  rw [actW_n hi];rfl
 ·cases hc
set_option maxHeartbeats 4000000 in
theorem PActQ (s:zap) (k:Nat) (c:za5) (_hz:zc2 s) (hl:s.acts.length≤1000000) (hk:s.acts[k]?=some c) (hp:atI s.procs c.proc=none):Fn Tryd.prog 33 [] [.t (.agg ([.d (.sl 1 (s.vars.map za3)),.d (.sl 5 (s.bounds.map za0.d)),cI s.init.kind,cPs s.init.r.t.parts]++zi s.init.r.t.k++[cB s.init.r.eq,cFs s.init.kids,.d (.sl 3 (s.procs.map za2.d)),.d (.sl 10 (s.acts.map za5.d))])),vi .i64 (k:Int)] (vs (zb9 s (k:Int))) []:=by
 have lk:=zao hk
 have ltk:(s.acts.take (k+1)).length=k+1:=by rw [List.length_take];omega
 refine Fn.body Tryd.func33 rfl 56 rfl fun w H B a h=>?_
 refine rq za1 0 [] [(1,vi .i64 (k:Int)),(2,vp 0 0),(4,.t (.c (.d (.raw (.string ByteArray.empty)))))] [(0,.box ([.d (.sl 1 (s.vars.map za3)),.d (.sl 5 (s.bounds.map za0.d)),cI s.init.kind,cPs s.init.r.t.parts]++zi s.init.r.t.k++[cB s.init.r.eq,cFs s.init.kids,.d (.sl 3 (s.procs.map za2.d)),.d (.sl 10 (s.acts.map za5.d))]))] h ?_;clear h;intro a w h
 refine rq za1 1 [(3,.call (PAtAS s.acts (k:Int) c (zbh.trans hk)) pe1_0)] [(1,vi .i64 (k:Int)),(2,vp 0 0),(4,.t (.c (.d (.raw (.string ByteArray.empty))))),(5,vp 1 0),(6,vb true)] [(0,.box ([.d (.sl 1 (s.vars.map za3)),.d (.sl 5 (s.bounds.map za0.d)),cI s.init.kind,cPs s.init.r.t.parts]++zi s.init.r.t.k++[cB s.init.r.eq,cFs s.init.kids,.d (.sl 3 (s.procs.map za2.d)),.d (.sl 10 (s.acts.map za5.d))])),(1,.box ([cI c.proc,cI c.from_,cI c.to_,cI c.guard.kind,cPs c.guard.r.t.parts]++zi c.guard.r.t.k++[cB c.guard.r.eq,cFs c.guard.kids,.d (.sl 5 (c.moves.map zan.d))]))] h ?_;clear h;intro a w h
 refine wp_seq (rq za1 2 [] [(1,vi .i64 (k:Int)),(2,vp 0 0),(4,.t (.c (.d (.raw (.string ByteArray.empty))))),(5,vp 1 0),(21,vb false)] [(0,.box ([.d (.sl 1 (s.vars.map za3)),.d (.sl 5 (s.bounds.map za0.d)),cI s.init.kind,cPs s.init.r.t.parts]++zi s.init.r.t.k++[cB s.init.r.eq,cFs s.init.kids,.d (.sl 3 (s.procs.map za2.d)),.d (.sl 10 (s.acts.map za5.d))])),(1,.box ([cI c.proc,cI c.from_,cI c.to_,cI c.guard.kind,cPs c.guard.r.t.parts]++zi c.guard.r.t.k++[cB c.guard.r.eq,cFs c.guard.kids,.d (.sl 5 (c.moves.map zan.d))]))] h ?_);clear h;intro a w h
 refine zac false h rfl (fun hc=>?_) (fun hc=>?_)
 ·cases hc
 ·clear hc
  refine wp_skip (za4 (rq za1 2 [] [(1,vi .i64 (k:Int)),(2,vp 0 0),(4,.t (.c (.d (.raw (.string ByteArray.empty))))),(5,vp 1 0),(7,vi .i64 0)] [(0,.box ([.d (.sl 1 (s.vars.map za3)),.d (.sl 5 (s.bounds.map za0.d)),cI s.init.kind,cPs s.init.r.t.parts]++zi s.init.r.t.k++[cB s.init.r.eq,cFs s.init.kids,.d (.sl 3 (s.procs.map za2.d)),.d (.sl 10 (s.acts.map za5.d))])),(1,.box ([cI c.proc,cI c.from_,cI c.to_,cI c.guard.kind,cPs c.guard.r.t.parts]++zi c.guard.r.t.k++[cB c.guard.r.eq,cFs c.guard.kids,.d (.sl 5 (c.moves.map zan.d))]))] h ?_));clear h;intro a w h
  refine wp_seq (rq za1 2 [(3,.add .i64 (m:=(k:Int)) (n:=1) (zaj (by omega) (by omega))),(4,.gen _ _ _ fun _ _ _ _=>Op.sliceD (d:=26) (t:=23) (l:=0) (h:=(k+1)) (rows:=s.acts.map za5.d) (rows':=(s.acts.take (k+1)).map za5.d) ki_1 (BO.no _) (BO.yes (k:=.i64) (i:=(k+1)) _ (OV.tmp 25 _)) (by first | omega | (simp at *;omega)) (by first | omega | (simp only [List.length_map];omega) | (simp at *;omega)) (by simp [List.map_take])),(5,.len (c:=(.d (.sl 10 ((s.acts.take (k+1)).map za5.d)))) (n:=(s.acts.take (k+1)).length) (za8 _ _ _))] [(2,vp 0 0),(4,.t (.c (.d (.raw (.string ByteArray.empty))))),(5,vp 1 0),(7,vi .i64 0),(26,.t (.c (.d (.sl 10 ((s.acts.take (k+1)).map za5.d))))),(27,vi .i64 ((s.acts.take (k+1)).length:Int)),(28,vi .i64 0)] [(0,.box ([.d (.sl 1 (s.vars.map za3)),.d (.sl 5 (s.bounds.map za0.d)),cI s.init.kind,cPs s.init.r.t.parts]++zi s.init.r.t.k++[cB s.init.r.eq,cFs s.init.kids,.d (.sl 3 (s.procs.map za2.d)),.d (.sl 10 (s.acts.map za5.d))])),(1,.box ([cI c.proc,cI c.from_,cI c.to_,cI c.guard.kind,cPs c.guard.r.t.parts]++zi c.guard.r.t.k++[cB c.guard.r.eq,cFs c.guard.kids,.d (.sl 5 (c.moves.map zan.d))]))] h ?_);clear h;intro a w h
  refine wp_block ?_
  replace h:=h.conv (f':=F.of [(2,vp 0 0),(4,.t (.c (.d (.raw (.string ByteArray.empty))))),(5,vp 1 0),(7,vi .i64 ((zak s c.proc 0).length:Int)),(26,.t (.c (.d (.sl 10 ((s.acts.take (k+1)).map za5.d))))),(27,vi .i64 ((s.acts.take (k+1)).length:Int)),(28,vi .i64 ((zak s c.proc 0).length:Int))] [(0,.box ([.d (.sl 1 (s.vars.map za3)),.d (.sl 5 (s.bounds.map za0.d)),cI s.init.kind,cPs s.init.r.t.parts]++zi s.init.r.t.k++[cB s.init.r.eq,cFs s.init.kids,.d (.sl 3 (s.procs.map za2.d)),.d (.sl 10 (s.acts.map za5.d))])),(1,.box ([cI c.proc,cI c.from_,cI c.to_,cI c.guard.kind,cPs c.guard.r.t.parts]++zi c.guard.r.t.k++[cB c.guard.r.eq,cFs c.guard.kids,.d (.sl 5 (c.moves.map zan.d))]))]) (by rw [show (0:Int)=((zak s c.proc 0).length:Int) from rfl])
  refine zci (ι:=(Nat)) (fun (z_:(Nat))=>match z_ with | j=>j≤(s.acts.take (k+1)).length)
    (fun (z_:(Nat))=>match z_ with | j=>[(2,vp 0 0),(4,.t (.c (.d (.raw (.string ByteArray.empty))))),(5,vp 1 0),(7,vi .i64 ((zak s c.proc j).length:Int)),(26,.t (.c (.d (.sl 10 ((s.acts.take (k+1)).map za5.d))))),(27,vi .i64 ((s.acts.take (k+1)).length:Int)),(28,vi .i64 (j:Int))])
    (fun (z_:(Nat))=>match z_ with | j=>[(0,.box ([.d (.sl 1 (s.vars.map za3)),.d (.sl 5 (s.bounds.map za0.d)),cI s.init.kind,cPs s.init.r.t.parts]++zi s.init.r.t.k++[cB s.init.r.eq,cFs s.init.kids,.d (.sl 3 (s.procs.map za2.d)),.d (.sl 10 (s.acts.map za5.d))])),(1,.box ([cI c.proc,cI c.from_,cI c.to_,cI c.guard.kind,cPs c.guard.r.t.parts]++zi c.guard.r.t.k++[cB c.guard.r.eq,cFs c.guard.kids,.d (.sl 5 (c.moves.map zan.d))]))])
    (fun (z_:(Nat))=>match z_ with | j=>(s.acts.take (k+1)).length - j) 0 ?_ h (by kernel_rfl) (by kernel_rfl) ?_
  ·exact Nat.zero_le _
  ·clear h;rintro j a w hI h
   change St _ (F.of [(2,vp 0 0),(4,.t (.c (.d (.raw (.string ByteArray.empty))))),(5,vp 1 0),(7,vi .i64 ((zak s c.proc j).length:Int)),(26,.t (.c (.d (.sl 10 ((s.acts.take (k+1)).map za5.d))))),(27,vi .i64 ((s.acts.take (k+1)).length:Int)),(28,vi .i64 (j:Int))] [(0,.box ([.d (.sl 1 (s.vars.map za3)),.d (.sl 5 (s.bounds.map za0.d)),cI s.init.kind,cPs s.init.r.t.parts]++zi s.init.r.t.k++[cB s.init.r.eq,cFs s.init.kids,.d (.sl 3 (s.procs.map za2.d)),.d (.sl 10 (s.acts.map za5.d))])),(1,.box ([cI c.proc,cI c.from_,cI c.to_,cI c.guard.kind,cPs c.guard.r.t.parts]++zi c.guard.r.t.k++[cB c.guard.r.eq,cFs c.guard.kids,.d (.sl 5 (c.moves.map zan.d))]))]) a w at h
   have lan:=zbz s c.proc j
   refine rq za1 2 [] [(2,vp 0 0),(4,.t (.c (.d (.raw (.string ByteArray.empty))))),(5,vp 1 0),(7,vi .i64 ((zak s c.proc j).length:Int)),(26,.t (.c (.d (.sl 10 ((s.acts.take (k+1)).map za5.d))))),(27,vi .i64 ((s.acts.take (k+1)).length:Int)),(28,vi .i64 (j:Int)),(29,vb (decide ((j:Int)<((s.acts.take (k+1)).length:Int))))] [(0,.box ([.d (.sl 1 (s.vars.map za3)),.d (.sl 5 (s.bounds.map za0.d)),cI s.init.kind,cPs s.init.r.t.parts]++zi s.init.r.t.k++[cB s.init.r.eq,cFs s.init.kids,.d (.sl 3 (s.procs.map za2.d)),.d (.sl 10 (s.acts.map za5.d))])),(1,.box ([cI c.proc,cI c.from_,cI c.to_,cI c.guard.kind,cPs c.guard.r.t.parts]++zi c.guard.r.t.k++[cB c.guard.r.eq,cFs c.guard.kids,.d (.sl 5 (c.moves.map zan.d))]))] h ?_;clear h;intro a w h
   refine wp_seq ?_
   refine zac (decide ((j:Int)<((s.acts.take (k+1)).length:Int))) h rfl (fun hc=>?_) (fun hc=>?_)
   ·have hc1:=hc;clear hc
    have hc1':=of_decide_eq_true hc1
    refine wp_skip (za4 (wp_seq (wp_block ?_)))
    obtain ⟨x2,hx2⟩:∃ z_:za5,(s.acts.take (k+1))[j]?=some z_:=⟨_,List.getElem?_eq_getElem (by first | omega | (simp at *;omega))⟩
    refine rq za1 2 [(0,.gen _ _ _ fun _ _ _ _=>Op.idxD (d:=30) (t:=26) (k:=.i64) ki_1 (zam hx2 (f:=za5.d)) (OV.tmp 28 _))] [(2,vp 0 0),(4,.t (.c (.d (.raw (.string ByteArray.empty))))),(5,vp 1 0),(7,vi .i64 ((zak s c.proc j).length:Int)),(9,vp 2 0),(26,.t (.c (.d (.sl 10 ((s.acts.take (k+1)).map za5.d))))),(27,vi .i64 ((s.acts.take (k+1)).length:Int)),(28,vi .i64 (j:Int))] [(0,.box ([.d (.sl 1 (s.vars.map za3)),.d (.sl 5 (s.bounds.map za0.d)),cI s.init.kind,cPs s.init.r.t.parts]++zi s.init.r.t.k++[cB s.init.r.eq,cFs s.init.kids,.d (.sl 3 (s.procs.map za2.d)),.d (.sl 10 (s.acts.map za5.d))])),(1,.box ([cI c.proc,cI c.from_,cI c.to_,cI c.guard.kind,cPs c.guard.r.t.parts]++zi c.guard.r.t.k++[cB c.guard.r.eq,cFs c.guard.kids,.d (.sl 5 (c.moves.map zan.d))])),(2,.box ([cI x2.proc,cI x2.from_,cI x2.to_,cI x2.guard.kind,cPs x2.guard.r.t.parts]++zi x2.guard.r.t.k++[cB x2.guard.r.eq,cFs x2.guard.kids,.d (.sl 5 (x2.moves.map zan.d))]))] h ?_;clear h;intro a w h
    refine rq za1 3 [] [(2,vp 0 0),(4,.t (.c (.d (.raw (.string ByteArray.empty))))),(5,vp 1 0),(7,vi .i64 ((zak s c.proc j).length:Int)),(26,.t (.c (.d (.sl 10 ((s.acts.take (k+1)).map za5.d))))),(27,vi .i64 ((s.acts.take (k+1)).length:Int)),(28,vi .i64 (j:Int)),(36,vb (x2.proc == c.proc))] [(0,.box ([.d (.sl 1 (s.vars.map za3)),.d (.sl 5 (s.bounds.map za0.d)),cI s.init.kind,cPs s.init.r.t.parts]++zi s.init.r.t.k++[cB s.init.r.eq,cFs s.init.kids,.d (.sl 3 (s.procs.map za2.d)),.d (.sl 10 (s.acts.map za5.d))])),(1,.box ([cI c.proc,cI c.from_,cI c.to_,cI c.guard.kind,cPs c.guard.r.t.parts]++zi c.guard.r.t.k++[cB c.guard.r.eq,cFs c.guard.kids,.d (.sl 5 (c.moves.map zan.d))]))] h ?_;clear h;intro a w h
    refine zac (x2.proc == c.proc) h rfl (fun hc=>?_) (fun hc=>?_)
    ·have hc2:=hc;clear hc
     have hc2':=hc2;(try simp at hc2')
     refine rn za1 3 [(1,.add .i64 (m:=((zak s c.proc j).length:Int)) (n:=1) (zaj (by omega) (by omega)))] [(2,vp 0 0),(4,.t (.c (.d (.raw (.string ByteArray.empty))))),(5,vp 1 0),(7,vi .i64 (((zak s c.proc j).length:Int)+1)),(26,.t (.c (.d (.sl 10 ((s.acts.take (k+1)).map za5.d))))),(27,vi .i64 ((s.acts.take (k+1)).length:Int)),(28,vi .i64 (j:Int))] [(0,.box ([.d (.sl 1 (s.vars.map za3)),.d (.sl 5 (s.bounds.map za0.d)),cI s.init.kind,cPs s.init.r.t.parts]++zi s.init.r.t.k++[cB s.init.r.eq,cFs s.init.kids,.d (.sl 3 (s.procs.map za2.d)),.d (.sl 10 (s.acts.map za5.d))])),(1,.box ([cI c.proc,cI c.from_,cI c.to_,cI c.guard.kind,cPs c.guard.r.t.parts]++zi c.guard.r.t.k++[cB c.guard.r.eq,cFs c.guard.kids,.d (.sl 5 (c.moves.map zan.d))]))] h ?_;clear h;intro a w h
     refine zai (za4 (rn za1 3 [(0,.add .i64 (m:=(j:Int)) (n:=1) (zaj (by omega) (by omega)))] [(2,vp 0 0),(4,.t (.c (.d (.raw (.string ByteArray.empty))))),(5,vp 1 0),(7,vi .i64 (((zak s c.proc j).length:Int)+1)),(26,.t (.c (.d (.sl 10 ((s.acts.take (k+1)).map za5.d))))),(27,vi .i64 ((s.acts.take (k+1)).length:Int)),(28,vi .i64 ((j:Int)+1))] [(0,.box ([.d (.sl 1 (s.vars.map za3)),.d (.sl 5 (s.bounds.map za0.d)),cI s.init.kind,cPs s.init.r.t.parts]++zi s.init.r.t.k++[cB s.init.r.eq,cFs s.init.kids,.d (.sl 3 (s.procs.map za2.d)),.d (.sl 10 (s.acts.map za5.d))])),(1,.box ([cI c.proc,cI c.from_,cI c.to_,cI c.guard.kind,cPs c.guard.r.t.parts]++zi c.guard.r.t.k++[cB c.guard.r.eq,cFs c.guard.kids,.d (.sl 5 (c.moves.map zan.d))]))] h ?_));clear h;intro a w h
     refine za4 ?_
     replace h:=h.conv (f':=F.of [(2,vp 0 0),(4,.t (.c (.d (.raw (.string ByteArray.empty))))),(5,vp 1 0),(7,vi .i64 ((zak s c.proc (j+1)).length:Int)),(26,.t (.c (.d (.sl 10 ((s.acts.take (k+1)).map za5.d))))),(27,vi .i64 ((s.acts.take (k+1)).length:Int)),(28,vi .i64 ((j:Int)+1))] [(0,.box ([.d (.sl 1 (s.vars.map za3)),.d (.sl 5 (s.bounds.map za0.d)),cI s.init.kind,cPs s.init.r.t.parts]++zi s.init.r.t.k++[cB s.init.r.eq,cFs s.init.kids,.d (.sl 3 (s.procs.map za2.d)),.d (.sl 10 (s.acts.map za5.d))])),(1,.box ([cI c.proc,cI c.from_,cI c.to_,cI c.guard.kind,cPs c.guard.r.t.parts]++zi c.guard.r.t.k++[cB c.guard.r.eq,cFs c.guard.kids,.d (.sl 5 (c.moves.map zan.d))]))]) (by rw [show (((zak s c.proc j).length:Int)+1:Int)=((zak s c.proc (j+1)).length:Int) from (by rw [zd0 (tk_at hx2) hc2];rfl)])
     refine zas (x:=j) (y:=j+1) h ?_ ?_
     ·have:=zao hx2
      show j+1≤(s.acts.take (k+1)).length
      omega
     ·show (s.acts.take (k+1)).length - (j+1)<(s.acts.take (k+1)).length - j
      have:=zao hx2;omega
    ·have hc3:=hc;clear hc
     have hc3':=hc3;(try simp at hc3')
     refine wp_skip (zai (za4 (rn za1 3 [(0,.add .i64 (m:=(j:Int)) (n:=1) (zaj (by omega) (by omega)))] [(2,vp 0 0),(4,.t (.c (.d (.raw (.string ByteArray.empty))))),(5,vp 1 0),(7,vi .i64 ((zak s c.proc j).length:Int)),(26,.t (.c (.d (.sl 10 ((s.acts.take (k+1)).map za5.d))))),(27,vi .i64 ((s.acts.take (k+1)).length:Int)),(28,vi .i64 ((j:Int)+1))] [(0,.box ([.d (.sl 1 (s.vars.map za3)),.d (.sl 5 (s.bounds.map za0.d)),cI s.init.kind,cPs s.init.r.t.parts]++zi s.init.r.t.k++[cB s.init.r.eq,cFs s.init.kids,.d (.sl 3 (s.procs.map za2.d)),.d (.sl 10 (s.acts.map za5.d))])),(1,.box ([cI c.proc,cI c.from_,cI c.to_,cI c.guard.kind,cPs c.guard.r.t.parts]++zi c.guard.r.t.k++[cB c.guard.r.eq,cFs c.guard.kids,.d (.sl 5 (c.moves.map zan.d))]))] h ?_)));clear h;intro a w h
     refine za4 ?_
     replace h:=h.conv (f':=F.of [(2,vp 0 0),(4,.t (.c (.d (.raw (.string ByteArray.empty))))),(5,vp 1 0),(7,vi .i64 ((zak s c.proc (j+1)).length:Int)),(26,.t (.c (.d (.sl 10 ((s.acts.take (k+1)).map za5.d))))),(27,vi .i64 ((s.acts.take (k+1)).length:Int)),(28,vi .i64 ((j:Int)+1))] [(0,.box ([.d (.sl 1 (s.vars.map za3)),.d (.sl 5 (s.bounds.map za0.d)),cI s.init.kind,cPs s.init.r.t.parts]++zi s.init.r.t.k++[cB s.init.r.eq,cFs s.init.kids,.d (.sl 3 (s.procs.map za2.d)),.d (.sl 10 (s.acts.map za5.d))])),(1,.box ([cI c.proc,cI c.from_,cI c.to_,cI c.guard.kind,cPs c.guard.r.t.parts]++zi c.guard.r.t.k++[cB c.guard.r.eq,cFs c.guard.kids,.d (.sl 5 (c.moves.map zan.d))]))]) (by rw [show (((zak s c.proc j).length:Int):Int)=((zak s c.proc (j+1)).length:Int) from (by rw [actN_no (tk_at hx2) hc3])])
     refine zas (x:=j) (y:=j+1) h ?_ ?_
     ·have:=zao hx2
      show j+1≤(s.acts.take (k+1)).length
      omega
     ·show (s.acts.take (k+1)).length - (j+1)<(s.acts.take (k+1)).length - j
      have:=zao hx2;omega
   ·have hc4:=hc;clear hc
    have hc4':=of_decide_eq_false hc4
    refine wp_exit (zar (zar (zag (za4 ?_))))
    have hjk:j=k+1:=by have:=of_decide_eq_false hc4;omega
    have lit:=itA_sz s c.proc (k+1) hl
    have lan:=zbz s c.proc (k+1)
    replace h:=h.conv (f':=F.of [(2,vp 0 0),(4,.t (.c (.d (.raw (.string ByteArray.empty))))),(5,vp 1 0),(7,vi .i64 ((zak s c.proc (k+1)).length:Int)),(26,.t (.c (.d (.sl 10 ((s.acts.take (k+1)).map za5.d))))),(27,vi .i64 ((s.acts.take (k+1)).length:Int)),(28,vi .i64 (j:Int)),(29,vb (decide ((j:Int)<((s.acts.take (k+1)).length:Int))))] [(0,.box ([.d (.sl 1 (s.vars.map za3)),.d (.sl 5 (s.bounds.map za0.d)),cI s.init.kind,cPs s.init.r.t.parts]++zi s.init.r.t.k++[cB s.init.r.eq,cFs s.init.kids,.d (.sl 3 (s.procs.map za2.d)),.d (.sl 10 (s.acts.map za5.d))])),(1,.box ([cI c.proc,cI c.from_,cI c.to_,cI c.guard.kind,cPs c.guard.r.t.parts]++zi c.guard.r.t.k++[cB c.guard.r.eq,cFs c.guard.kids,.d (.sl 5 (c.moves.map zan.d))]))]) (by rw [show (((zak s c.proc j).length:Int):Int)=((zak s c.proc (k+1)).length:Int) from (by rw [hjk])])
    refine rq za1 3 [] [(2,vp 0 0),(4,.t (.c (.d (.raw (.string ByteArray.empty))))),(5,vp 1 0),(7,vi .i64 ((zak s c.proc (k+1)).length:Int)),(10,.t (.c (.d (.raw (.string (⟨#[63]⟩:ByteArray))))))] [(0,.box ([.d (.sl 1 (s.vars.map za3)),.d (.sl 5 (s.bounds.map za0.d)),cI s.init.kind,cPs s.init.r.t.parts]++zi s.init.r.t.k++[cB s.init.r.eq,cFs s.init.kids,.d (.sl 3 (s.procs.map za2.d)),.d (.sl 10 (s.acts.map za5.d))])),(1,.box ([cI c.proc,cI c.from_,cI c.to_,cI c.guard.kind,cPs c.guard.r.t.parts]++zi c.guard.r.t.k++[cB c.guard.r.eq,cFs c.guard.kids,.d (.sl 5 (c.moves.map zan.d))]))] h ?_;clear h;intro a w h
    refine wp_seq (rq za1 3 [(4,.call (PAtPN s.procs c.proc hp) pb1_0)] [(4,.t (.c (.d (.raw (.string ByteArray.empty))))),(7,vi .i64 ((zak s c.proc (k+1)).length:Int)),(10,.t (.c (.d (.raw (.string (⟨#[63]⟩:ByteArray)))))),(11,vp 3 0),(12,vb false)] [(3,.box [.d (.raw (.string zc1.name)),.d (.sl 1 (zc1.locs.map za3)),.d zc1.cmds])] h ?_);clear h;intro a w h
    refine rq za1 4 [] [(4,.t (.c (.d (.raw (.string ByteArray.empty))))),(7,vi .i64 ((zak s c.proc (k+1)).length:Int)),(10,.t (.c (.d (.raw (.string (⟨#[63]⟩:ByteArray)))))),(11,vp 3 0),(48,vb false)] [(3,.box [.d (.raw (.string zc1.name)),.d (.sl 1 (zc1.locs.map za3)),.d zc1.cmds])] h ?_;clear h;intro a w h
    refine zac false h rfl (fun hc=>?_) (fun hc=>?_)
    ·cases hc
    ·clear hc
     refine wp_skip (za4 (rq za1 4 [(1,.gen _ _ _ fun _ _ _ _=>Op.strAdd (d:=52) (xt:=9) (yt:=9) (s1:=(⟨#[63]⟩:ByteArray)) (s2:=(⟨#[46]⟩:ByteArray)) (r:=((⟨#[63]⟩:ByteArray)++(⟨#[46]⟩:ByteArray))) (OV.tmp 51 _) (OV.const (.string (⟨#[46]⟩:ByteArray)) rfl) (by have:(⟨#[63]⟩:ByteArray).size=1:=rfl;have:(⟨#[46]⟩:ByteArray).size=1:=rfl;omega) rfl),(3,.call (zc7 ((zak s c.proc (k+1)).length:Int) (by omega) (by omega)) pe1_3),(4,.gen _ _ _ fun _ _ _ _=>Op.strAdd (d:=55) (xt:=9) (yt:=9) (s1:=((⟨#[63]⟩:ByteArray)++(⟨#[46]⟩:ByteArray))) (s2:=(itW ((zak s c.proc (k+1)).length:Int))) (r:=(((⟨#[63]⟩:ByteArray)++(⟨#[46]⟩:ByteArray))++(itW ((zak s c.proc (k+1)).length:Int)))) (OV.tmp 52 _) (OV.tmp 54 _) (by (try simp only [ByteArray.size_append]);have:(⟨#[63]⟩:ByteArray).size=1:=rfl;have:(⟨#[46]⟩:ByteArray).size=1:=rfl;omega) rfl)] [(4,.t (.c (.d (.raw (.string (((⟨#[63]⟩:ByteArray)++(⟨#[46]⟩:ByteArray))++(itW ((zak s c.proc (k+1)).length:Int))))))))] [] h ?_));clear h;intro a w h
     refine wp_ret ?_
     refine zaz [.c (.d (.raw (.string (((⟨#[63]⟩:ByteArray)++(⟨#[46]⟩:ByteArray))++(itW ((zak s c.proc (k+1)).length:Int))))))] h Exit.ret (.inl rfl)  rfl ⟨RV.tmp _ _ rfl,trivial⟩ ?_
     rw [actW_q hk hp];rfl
set_option maxHeartbeats 4000000 in
theorem PActS (s:zap) (k:Nat) (c:za5) (pr:za2) (hz:zc2 s) (hl:s.acts.length≤1000000) (hk:s.acts[k]?=some c) (hp:atI s.procs c.proc=some pr):Fn Tryd.prog 33 [] [.t (.agg ([.d (.sl 1 (s.vars.map za3)),.d (.sl 5 (s.bounds.map za0.d)),cI s.init.kind,cPs s.init.r.t.parts]++zi s.init.r.t.k++[cB s.init.r.eq,cFs s.init.kids,.d (.sl 3 (s.procs.map za2.d)),.d (.sl 10 (s.acts.map za5.d))])),vi .i64 (k:Int)] (vs (zb9 s (k:Int))) []:=by
 have lk:=zao hk
 have ltk:(s.acts.take (k+1)).length=k+1:=by rw [List.length_take];omega
 have lnm:=hz.name pr (zbn hp)
 refine Fn.body Tryd.func33 rfl 56 rfl fun w H B a h=>?_
 refine rq za1 0 [] [(1,vi .i64 (k:Int)),(2,vp 0 0),(4,.t (.c (.d (.raw (.string ByteArray.empty)))))] [(0,.box ([.d (.sl 1 (s.vars.map za3)),.d (.sl 5 (s.bounds.map za0.d)),cI s.init.kind,cPs s.init.r.t.parts]++zi s.init.r.t.k++[cB s.init.r.eq,cFs s.init.kids,.d (.sl 3 (s.procs.map za2.d)),.d (.sl 10 (s.acts.map za5.d))]))] h ?_;clear h;intro a w h
 refine rq za1 1 [(3,.call (PAtAS s.acts (k:Int) c (zbh.trans hk)) pe1_0)] [(1,vi .i64 (k:Int)),(2,vp 0 0),(4,.t (.c (.d (.raw (.string ByteArray.empty))))),(5,vp 1 0),(6,vb true)] [(0,.box ([.d (.sl 1 (s.vars.map za3)),.d (.sl 5 (s.bounds.map za0.d)),cI s.init.kind,cPs s.init.r.t.parts]++zi s.init.r.t.k++[cB s.init.r.eq,cFs s.init.kids,.d (.sl 3 (s.procs.map za2.d)),.d (.sl 10 (s.acts.map za5.d))])),(1,.box ([cI c.proc,cI c.from_,cI c.to_,cI c.guard.kind,cPs c.guard.r.t.parts]++zi c.guard.r.t.k++[cB c.guard.r.eq,cFs c.guard.kids,.d (.sl 5 (c.moves.map zan.d))]))] h ?_;clear h;intro a w h
 refine wp_seq (rq za1 2 [] [(1,vi .i64 (k:Int)),(2,vp 0 0),(4,.t (.c (.d (.raw (.string ByteArray.empty))))),(5,vp 1 0),(21,vb false)] [(0,.box ([.d (.sl 1 (s.vars.map za3)),.d (.sl 5 (s.bounds.map za0.d)),cI s.init.kind,cPs s.init.r.t.parts]++zi s.init.r.t.k++[cB s.init.r.eq,cFs s.init.kids,.d (.sl 3 (s.procs.map za2.d)),.d (.sl 10 (s.acts.map za5.d))])),(1,.box ([cI c.proc,cI c.from_,cI c.to_,cI c.guard.kind,cPs c.guard.r.t.parts]++zi c.guard.r.t.k++[cB c.guard.r.eq,cFs c.guard.kids,.d (.sl 5 (c.moves.map zan.d))]))] h ?_);clear h;intro a w h
 refine zac false h rfl (fun hc=>?_) (fun hc=>?_)
 ·cases hc
 ·clear hc
  refine wp_skip (za4 (rq za1 2 [] [(1,vi .i64 (k:Int)),(2,vp 0 0),(4,.t (.c (.d (.raw (.string ByteArray.empty))))),(5,vp 1 0),(7,vi .i64 0)] [(0,.box ([.d (.sl 1 (s.vars.map za3)),.d (.sl 5 (s.bounds.map za0.d)),cI s.init.kind,cPs s.init.r.t.parts]++zi s.init.r.t.k++[cB s.init.r.eq,cFs s.init.kids,.d (.sl 3 (s.procs.map za2.d)),.d (.sl 10 (s.acts.map za5.d))])),(1,.box ([cI c.proc,cI c.from_,cI c.to_,cI c.guard.kind,cPs c.guard.r.t.parts]++zi c.guard.r.t.k++[cB c.guard.r.eq,cFs c.guard.kids,.d (.sl 5 (c.moves.map zan.d))]))] h ?_));clear h;intro a w h
  refine wp_seq (rq za1 2 [(3,.add .i64 (m:=(k:Int)) (n:=1) (zaj (by omega) (by omega))),(4,.gen _ _ _ fun _ _ _ _=>Op.sliceD (d:=26) (t:=23) (l:=0) (h:=(k+1)) (rows:=s.acts.map za5.d) (rows':=(s.acts.take (k+1)).map za5.d) ki_1 (BO.no _) (BO.yes (k:=.i64) (i:=(k+1)) _ (OV.tmp 25 _)) (by first | omega | (simp at *;omega)) (by first | omega | (simp only [List.length_map];omega) | (simp at *;omega)) (by simp [List.map_take])),(5,.len (c:=(.d (.sl 10 ((s.acts.take (k+1)).map za5.d)))) (n:=(s.acts.take (k+1)).length) (za8 _ _ _))] [(2,vp 0 0),(4,.t (.c (.d (.raw (.string ByteArray.empty))))),(5,vp 1 0),(7,vi .i64 0),(26,.t (.c (.d (.sl 10 ((s.acts.take (k+1)).map za5.d))))),(27,vi .i64 ((s.acts.take (k+1)).length:Int)),(28,vi .i64 0)] [(0,.box ([.d (.sl 1 (s.vars.map za3)),.d (.sl 5 (s.bounds.map za0.d)),cI s.init.kind,cPs s.init.r.t.parts]++zi s.init.r.t.k++[cB s.init.r.eq,cFs s.init.kids,.d (.sl 3 (s.procs.map za2.d)),.d (.sl 10 (s.acts.map za5.d))])),(1,.box ([cI c.proc,cI c.from_,cI c.to_,cI c.guard.kind,cPs c.guard.r.t.parts]++zi c.guard.r.t.k++[cB c.guard.r.eq,cFs c.guard.kids,.d (.sl 5 (c.moves.map zan.d))]))] h ?_);clear h;intro a w h
  refine wp_block ?_
  replace h:=h.conv (f':=F.of [(2,vp 0 0),(4,.t (.c (.d (.raw (.string ByteArray.empty))))),(5,vp 1 0),(7,vi .i64 ((zak s c.proc 0).length:Int)),(26,.t (.c (.d (.sl 10 ((s.acts.take (k+1)).map za5.d))))),(27,vi .i64 ((s.acts.take (k+1)).length:Int)),(28,vi .i64 ((zak s c.proc 0).length:Int))] [(0,.box ([.d (.sl 1 (s.vars.map za3)),.d (.sl 5 (s.bounds.map za0.d)),cI s.init.kind,cPs s.init.r.t.parts]++zi s.init.r.t.k++[cB s.init.r.eq,cFs s.init.kids,.d (.sl 3 (s.procs.map za2.d)),.d (.sl 10 (s.acts.map za5.d))])),(1,.box ([cI c.proc,cI c.from_,cI c.to_,cI c.guard.kind,cPs c.guard.r.t.parts]++zi c.guard.r.t.k++[cB c.guard.r.eq,cFs c.guard.kids,.d (.sl 5 (c.moves.map zan.d))]))]) (by rw [show (0:Int)=((zak s c.proc 0).length:Int) from rfl])
  refine zci (ι:=(Nat)) (fun (z_:(Nat))=>match z_ with | j=>j≤(s.acts.take (k+1)).length)
    (fun (z_:(Nat))=>match z_ with | j=>[(2,vp 0 0),(4,.t (.c (.d (.raw (.string ByteArray.empty))))),(5,vp 1 0),(7,vi .i64 ((zak s c.proc j).length:Int)),(26,.t (.c (.d (.sl 10 ((s.acts.take (k+1)).map za5.d))))),(27,vi .i64 ((s.acts.take (k+1)).length:Int)),(28,vi .i64 (j:Int))])
    (fun (z_:(Nat))=>match z_ with | j=>[(0,.box ([.d (.sl 1 (s.vars.map za3)),.d (.sl 5 (s.bounds.map za0.d)),cI s.init.kind,cPs s.init.r.t.parts]++zi s.init.r.t.k++[cB s.init.r.eq,cFs s.init.kids,.d (.sl 3 (s.procs.map za2.d)),.d (.sl 10 (s.acts.map za5.d))])),(1,.box ([cI c.proc,cI c.from_,cI c.to_,cI c.guard.kind,cPs c.guard.r.t.parts]++zi c.guard.r.t.k++[cB c.guard.r.eq,cFs c.guard.kids,.d (.sl 5 (c.moves.map zan.d))]))])
    (fun (z_:(Nat))=>match z_ with | j=>(s.acts.take (k+1)).length - j) 0 ?_ h (by kernel_rfl) (by kernel_rfl) ?_
  ·exact Nat.zero_le _
  ·clear h;rintro j a w hI h
   change St _ (F.of [(2,vp 0 0),(4,.t (.c (.d (.raw (.string ByteArray.empty))))),(5,vp 1 0),(7,vi .i64 ((zak s c.proc j).length:Int)),(26,.t (.c (.d (.sl 10 ((s.acts.take (k+1)).map za5.d))))),(27,vi .i64 ((s.acts.take (k+1)).length:Int)),(28,vi .i64 (j:Int))] [(0,.box ([.d (.sl 1 (s.vars.map za3)),.d (.sl 5 (s.bounds.map za0.d)),cI s.init.kind,cPs s.init.r.t.parts]++zi s.init.r.t.k++[cB s.init.r.eq,cFs s.init.kids,.d (.sl 3 (s.procs.map za2.d)),.d (.sl 10 (s.acts.map za5.d))])),(1,.box ([cI c.proc,cI c.from_,cI c.to_,cI c.guard.kind,cPs c.guard.r.t.parts]++zi c.guard.r.t.k++[cB c.guard.r.eq,cFs c.guard.kids,.d (.sl 5 (c.moves.map zan.d))]))]) a w at h
   have lan:=zbz s c.proc j
   refine rq za1 2 [] [(2,vp 0 0),(4,.t (.c (.d (.raw (.string ByteArray.empty))))),(5,vp 1 0),(7,vi .i64 ((zak s c.proc j).length:Int)),(26,.t (.c (.d (.sl 10 ((s.acts.take (k+1)).map za5.d))))),(27,vi .i64 ((s.acts.take (k+1)).length:Int)),(28,vi .i64 (j:Int)),(29,vb (decide ((j:Int)<((s.acts.take (k+1)).length:Int))))] [(0,.box ([.d (.sl 1 (s.vars.map za3)),.d (.sl 5 (s.bounds.map za0.d)),cI s.init.kind,cPs s.init.r.t.parts]++zi s.init.r.t.k++[cB s.init.r.eq,cFs s.init.kids,.d (.sl 3 (s.procs.map za2.d)),.d (.sl 10 (s.acts.map za5.d))])),(1,.box ([cI c.proc,cI c.from_,cI c.to_,cI c.guard.kind,cPs c.guard.r.t.parts]++zi c.guard.r.t.k++[cB c.guard.r.eq,cFs c.guard.kids,.d (.sl 5 (c.moves.map zan.d))]))] h ?_;clear h;intro a w h
   refine wp_seq ?_
   refine zac (decide ((j:Int)<((s.acts.take (k+1)).length:Int))) h rfl (fun hc=>?_) (fun hc=>?_)
   ·have hc1:=hc;clear hc
    have hc1':=of_decide_eq_true hc1
    refine wp_skip (za4 (wp_seq (wp_block ?_)))
    obtain ⟨x2,hx2⟩:∃ z_:za5,(s.acts.take (k+1))[j]?=some z_:=⟨_,List.getElem?_eq_getElem (by first | omega | (simp at *;omega))⟩
    refine rq za1 2 [(0,.gen _ _ _ fun _ _ _ _=>Op.idxD (d:=30) (t:=26) (k:=.i64) ki_1 (zam hx2 (f:=za5.d)) (OV.tmp 28 _))] [(2,vp 0 0),(4,.t (.c (.d (.raw (.string ByteArray.empty))))),(5,vp 1 0),(7,vi .i64 ((zak s c.proc j).length:Int)),(9,vp 2 0),(26,.t (.c (.d (.sl 10 ((s.acts.take (k+1)).map za5.d))))),(27,vi .i64 ((s.acts.take (k+1)).length:Int)),(28,vi .i64 (j:Int))] [(0,.box ([.d (.sl 1 (s.vars.map za3)),.d (.sl 5 (s.bounds.map za0.d)),cI s.init.kind,cPs s.init.r.t.parts]++zi s.init.r.t.k++[cB s.init.r.eq,cFs s.init.kids,.d (.sl 3 (s.procs.map za2.d)),.d (.sl 10 (s.acts.map za5.d))])),(1,.box ([cI c.proc,cI c.from_,cI c.to_,cI c.guard.kind,cPs c.guard.r.t.parts]++zi c.guard.r.t.k++[cB c.guard.r.eq,cFs c.guard.kids,.d (.sl 5 (c.moves.map zan.d))])),(2,.box ([cI x2.proc,cI x2.from_,cI x2.to_,cI x2.guard.kind,cPs x2.guard.r.t.parts]++zi x2.guard.r.t.k++[cB x2.guard.r.eq,cFs x2.guard.kids,.d (.sl 5 (x2.moves.map zan.d))]))] h ?_;clear h;intro a w h
    refine rq za1 3 [] [(2,vp 0 0),(4,.t (.c (.d (.raw (.string ByteArray.empty))))),(5,vp 1 0),(7,vi .i64 ((zak s c.proc j).length:Int)),(26,.t (.c (.d (.sl 10 ((s.acts.take (k+1)).map za5.d))))),(27,vi .i64 ((s.acts.take (k+1)).length:Int)),(28,vi .i64 (j:Int)),(36,vb (x2.proc == c.proc))] [(0,.box ([.d (.sl 1 (s.vars.map za3)),.d (.sl 5 (s.bounds.map za0.d)),cI s.init.kind,cPs s.init.r.t.parts]++zi s.init.r.t.k++[cB s.init.r.eq,cFs s.init.kids,.d (.sl 3 (s.procs.map za2.d)),.d (.sl 10 (s.acts.map za5.d))])),(1,.box ([cI c.proc,cI c.from_,cI c.to_,cI c.guard.kind,cPs c.guard.r.t.parts]++zi c.guard.r.t.k++[cB c.guard.r.eq,cFs c.guard.kids,.d (.sl 5 (c.moves.map zan.d))]))] h ?_;clear h;intro a w h
    refine zac (x2.proc == c.proc) h rfl (fun hc=>?_) (fun hc=>?_)
    ·have hc2:=hc;clear hc
     have hc2':=hc2;(try simp at hc2')
     refine rn za1 3 [(1,.add .i64 (m:=((zak s c.proc j).length:Int)) (n:=1) (zaj (by omega) (by omega)))] [(2,vp 0 0),(4,.t (.c (.d (.raw (.string ByteArray.empty))))),(5,vp 1 0),(7,vi .i64 (((zak s c.proc j).length:Int)+1)),(26,.t (.c (.d (.sl 10 ((s.acts.take (k+1)).map za5.d))))),(27,vi .i64 ((s.acts.take (k+1)).length:Int)),(28,vi .i64 (j:Int))] [(0,.box ([.d (.sl 1 (s.vars.map za3)),.d (.sl 5 (s.bounds.map za0.d)),cI s.init.kind,cPs s.init.r.t.parts]++zi s.init.r.t.k++[cB s.init.r.eq,cFs s.init.kids,.d (.sl 3 (s.procs.map za2.d)),.d (.sl 10 (s.acts.map za5.d))])),(1,.box ([cI c.proc,cI c.from_,cI c.to_,cI c.guard.kind,cPs c.guard.r.t.parts]++zi c.guard.r.t.k++[cB c.guard.r.eq,cFs c.guard.kids,.d (.sl 5 (c.moves.map zan.d))]))] h ?_;clear h;intro a w h
     refine zai (za4 (rn za1 3 [(0,.add .i64 (m:=(j:Int)) (n:=1) (zaj (by omega) (by omega)))] [(2,vp 0 0),(4,.t (.c (.d (.raw (.string ByteArray.empty))))),(5,vp 1 0),(7,vi .i64 (((zak s c.proc j).length:Int)+1)),(26,.t (.c (.d (.sl 10 ((s.acts.take (k+1)).map za5.d))))),(27,vi .i64 ((s.acts.take (k+1)).length:Int)),(28,vi .i64 ((j:Int)+1))] [(0,.box ([.d (.sl 1 (s.vars.map za3)),.d (.sl 5 (s.bounds.map za0.d)),cI s.init.kind,cPs s.init.r.t.parts]++zi s.init.r.t.k++[cB s.init.r.eq,cFs s.init.kids,.d (.sl 3 (s.procs.map za2.d)),.d (.sl 10 (s.acts.map za5.d))])),(1,.box ([cI c.proc,cI c.from_,cI c.to_,cI c.guard.kind,cPs c.guard.r.t.parts]++zi c.guard.r.t.k++[cB c.guard.r.eq,cFs c.guard.kids,.d (.sl 5 (c.moves.map zan.d))]))] h ?_));clear h;intro a w h
     refine za4 ?_
     replace h:=h.conv (f':=F.of [(2,vp 0 0),(4,.t (.c (.d (.raw (.string ByteArray.empty))))),(5,vp 1 0),(7,vi .i64 ((zak s c.proc (j+1)).length:Int)),(26,.t (.c (.d (.sl 10 ((s.acts.take (k+1)).map za5.d))))),(27,vi .i64 ((s.acts.take (k+1)).length:Int)),(28,vi .i64 ((j:Int)+1))] [(0,.box ([.d (.sl 1 (s.vars.map za3)),.d (.sl 5 (s.bounds.map za0.d)),cI s.init.kind,cPs s.init.r.t.parts]++zi s.init.r.t.k++[cB s.init.r.eq,cFs s.init.kids,.d (.sl 3 (s.procs.map za2.d)),.d (.sl 10 (s.acts.map za5.d))])),(1,.box ([cI c.proc,cI c.from_,cI c.to_,cI c.guard.kind,cPs c.guard.r.t.parts]++zi c.guard.r.t.k++[cB c.guard.r.eq,cFs c.guard.kids,.d (.sl 5 (c.moves.map zan.d))]))]) (by rw [show (((zak s c.proc j).length:Int)+1:Int)=((zak s c.proc (j+1)).length:Int) from (by rw [zd0 (tk_at hx2) hc2];rfl)])
     refine zas (x:=j) (y:=j+1) h ?_ ?_
     ·have:=zao hx2
      show j+1≤(s.acts.take (k+1)).length
      omega
     ·show (s.acts.take (k+1)).length - (j+1)<(s.acts.take (k+1)).length - j
      have:=zao hx2;omega
    ·have hc3:=hc;clear hc
     have hc3':=hc3;(try simp at hc3')
     refine wp_skip (zai (za4 (rn za1 3 [(0,.add .i64 (m:=(j:Int)) (n:=1) (zaj (by omega) (by omega)))] [(2,vp 0 0),(4,.t (.c (.d (.raw (.string ByteArray.empty))))),(5,vp 1 0),(7,vi .i64 ((zak s c.proc j).length:Int)),(26,.t (.c (.d (.sl 10 ((s.acts.take (k+1)).map za5.d))))),(27,vi .i64 ((s.acts.take (k+1)).length:Int)),(28,vi .i64 ((j:Int)+1))] [(0,.box ([.d (.sl 1 (s.vars.map za3)),.d (.sl 5 (s.bounds.map za0.d)),cI s.init.kind,cPs s.init.r.t.parts]++zi s.init.r.t.k++[cB s.init.r.eq,cFs s.init.kids,.d (.sl 3 (s.procs.map za2.d)),.d (.sl 10 (s.acts.map za5.d))])),(1,.box ([cI c.proc,cI c.from_,cI c.to_,cI c.guard.kind,cPs c.guard.r.t.parts]++zi c.guard.r.t.k++[cB c.guard.r.eq,cFs c.guard.kids,.d (.sl 5 (c.moves.map zan.d))]))] h ?_)));clear h;intro a w h
     refine za4 ?_
     replace h:=h.conv (f':=F.of [(2,vp 0 0),(4,.t (.c (.d (.raw (.string ByteArray.empty))))),(5,vp 1 0),(7,vi .i64 ((zak s c.proc (j+1)).length:Int)),(26,.t (.c (.d (.sl 10 ((s.acts.take (k+1)).map za5.d))))),(27,vi .i64 ((s.acts.take (k+1)).length:Int)),(28,vi .i64 ((j:Int)+1))] [(0,.box ([.d (.sl 1 (s.vars.map za3)),.d (.sl 5 (s.bounds.map za0.d)),cI s.init.kind,cPs s.init.r.t.parts]++zi s.init.r.t.k++[cB s.init.r.eq,cFs s.init.kids,.d (.sl 3 (s.procs.map za2.d)),.d (.sl 10 (s.acts.map za5.d))])),(1,.box ([cI c.proc,cI c.from_,cI c.to_,cI c.guard.kind,cPs c.guard.r.t.parts]++zi c.guard.r.t.k++[cB c.guard.r.eq,cFs c.guard.kids,.d (.sl 5 (c.moves.map zan.d))]))]) (by rw [show (((zak s c.proc j).length:Int):Int)=((zak s c.proc (j+1)).length:Int) from (by rw [actN_no (tk_at hx2) hc3])])
     refine zas (x:=j) (y:=j+1) h ?_ ?_
     ·have:=zao hx2
      show j+1≤(s.acts.take (k+1)).length
      omega
     ·show (s.acts.take (k+1)).length - (j+1)<(s.acts.take (k+1)).length - j
      have:=zao hx2;omega
   ·have hc4:=hc;clear hc
    have hc4':=of_decide_eq_false hc4
    refine wp_exit (zar (zar (zag (za4 ?_))))
    have hjk:j=k+1:=by have:=of_decide_eq_false hc4;omega
    have lit:=itA_sz s c.proc (k+1) hl
    have lan:=zbz s c.proc (k+1)
    replace h:=h.conv (f':=F.of [(2,vp 0 0),(4,.t (.c (.d (.raw (.string ByteArray.empty))))),(5,vp 1 0),(7,vi .i64 ((zak s c.proc (k+1)).length:Int)),(26,.t (.c (.d (.sl 10 ((s.acts.take (k+1)).map za5.d))))),(27,vi .i64 ((s.acts.take (k+1)).length:Int)),(28,vi .i64 (j:Int)),(29,vb (decide ((j:Int)<((s.acts.take (k+1)).length:Int))))] [(0,.box ([.d (.sl 1 (s.vars.map za3)),.d (.sl 5 (s.bounds.map za0.d)),cI s.init.kind,cPs s.init.r.t.parts]++zi s.init.r.t.k++[cB s.init.r.eq,cFs s.init.kids,.d (.sl 3 (s.procs.map za2.d)),.d (.sl 10 (s.acts.map za5.d))])),(1,.box ([cI c.proc,cI c.from_,cI c.to_,cI c.guard.kind,cPs c.guard.r.t.parts]++zi c.guard.r.t.k++[cB c.guard.r.eq,cFs c.guard.kids,.d (.sl 5 (c.moves.map zan.d))]))]) (by rw [show (((zak s c.proc j).length:Int):Int)=((zak s c.proc (k+1)).length:Int) from (by rw [hjk])])
    refine rq za1 3 [] [(2,vp 0 0),(4,.t (.c (.d (.raw (.string ByteArray.empty))))),(5,vp 1 0),(7,vi .i64 ((zak s c.proc (k+1)).length:Int)),(10,.t (.c (.d (.raw (.string (⟨#[63]⟩:ByteArray))))))] [(0,.box ([.d (.sl 1 (s.vars.map za3)),.d (.sl 5 (s.bounds.map za0.d)),cI s.init.kind,cPs s.init.r.t.parts]++zi s.init.r.t.k++[cB s.init.r.eq,cFs s.init.kids,.d (.sl 3 (s.procs.map za2.d)),.d (.sl 10 (s.acts.map za5.d))])),(1,.box ([cI c.proc,cI c.from_,cI c.to_,cI c.guard.kind,cPs c.guard.r.t.parts]++zi c.guard.r.t.k++[cB c.guard.r.eq,cFs c.guard.kids,.d (.sl 5 (c.moves.map zan.d))]))] h ?_;clear h;intro a w h
    refine wp_seq (rq za1 3 [(4,.call (PAtPS s.procs c.proc pr hp) pb1_0)] [(4,.t (.c (.d (.raw (.string ByteArray.empty))))),(7,vi .i64 ((zak s c.proc (k+1)).length:Int)),(10,.t (.c (.d (.raw (.string (⟨#[63]⟩:ByteArray)))))),(11,vp 3 0),(12,vb true)] [(3,.box [.d (.raw (.string pr.name)),.d (.sl 1 (pr.locs.map za3)),.d pr.cmds])] h ?_);clear h;intro a w h
    refine rq za1 4 [] [(4,.t (.c (.d (.raw (.string ByteArray.empty))))),(7,vi .i64 ((zak s c.proc (k+1)).length:Int)),(10,.t (.c (.d (.raw (.string (⟨#[63]⟩:ByteArray)))))),(11,vp 3 0),(48,vb true)] [(3,.box [.d (.raw (.string pr.name)),.d (.sl 1 (pr.locs.map za3)),.d pr.cmds])] h ?_;clear h;intro a w h
    refine zac true h rfl (fun hc=>?_) (fun hc=>?_)
    ·clear hc
     refine rn za1 4 [] [(4,.t (.c (.d (.raw (.string ByteArray.empty))))),(7,vi .i64 ((zak s c.proc (k+1)).length:Int)),(10,.t (.c (.d (.raw (.string pr.name)))))] [] h ?_;clear h;intro a w h
     refine za4 (rq za1 4 [(1,.gen _ _ _ fun _ _ _ _=>Op.strAdd (d:=52) (xt:=9) (yt:=9) (s1:=pr.name) (s2:=(⟨#[46]⟩:ByteArray)) (r:=(pr.name++(⟨#[46]⟩:ByteArray))) (OV.tmp 51 _) (OV.const (.string (⟨#[46]⟩:ByteArray)) rfl) (by have:(⟨#[46]⟩:ByteArray).size=1:=rfl;omega) rfl),(3,.call (zc7 ((zak s c.proc (k+1)).length:Int) (by omega) (by omega)) pe1_3),(4,.gen _ _ _ fun _ _ _ _=>Op.strAdd (d:=55) (xt:=9) (yt:=9) (s1:=(pr.name++(⟨#[46]⟩:ByteArray))) (s2:=(itW ((zak s c.proc (k+1)).length:Int))) (r:=((pr.name++(⟨#[46]⟩:ByteArray))++(itW ((zak s c.proc (k+1)).length:Int)))) (OV.tmp 52 _) (OV.tmp 54 _) (by (try simp only [ByteArray.size_append]);have:(⟨#[46]⟩:ByteArray).size=1:=rfl;omega) rfl)] [(4,.t (.c (.d (.raw (.string ((pr.name++(⟨#[46]⟩:ByteArray))++(itW ((zak s c.proc (k+1)).length:Int))))))))] [] h ?_);clear h;intro a w h
     refine wp_ret ?_
     refine zaz [.c (.d (.raw (.string ((pr.name++(⟨#[46]⟩:ByteArray))++(itW ((zak s c.proc (k+1)).length:Int))))))] h Exit.ret (.inl rfl)  rfl ⟨RV.tmp _ _ rfl,trivial⟩ ?_
     rw [actW_s hk hp];rfl
    ·cases hc
theorem PAct (s:zap) (i:Int) (hz:zc2 s) (hl:s.acts.length≤1000000):Fn Tryd.prog 33 [] [.t (.agg ([.d (.sl 1 (s.vars.map za3)),.d (.sl 5 (s.bounds.map za0.d)),cI s.init.kind,cPs s.init.r.t.parts]++zi s.init.r.t.k++[cB s.init.r.eq,cFs s.init.kids,.d (.sl 3 (s.procs.map za2.d)),.d (.sl 10 (s.acts.map za5.d))])),vi .i64 i] (vs (zb9 s i)) []:=by
 cases hi:atI s.acts i with
 | none=>exact PActN s i hz hl hi
 | some c =>
  obtain ⟨k,rfl,hk⟩:=zb7 hi
  cases hp:atI s.procs c.proc with
  | none=>exact PActQ s k c hz hl hk hp
  | some pr=>exact PActS s k c pr hz hl hk hp
theorem actN_self {s:zap} {k:Nat} {c:za5} (h:s.acts[k]?=some c):(zak s c.proc (k+1)).length=(zak s c.proc k).length+1:=zd0 h (beq_self_eq_true _)
set_option maxHeartbeats 4000000 in
theorem RActN (s:zap) (i:Int) (_hz:zc2 s) (_hl:s.acts.length≤1000000) (hi:atI s.acts i=none):Fn Tryd.prog 25 [] [.t (.agg ([.d (.sl 1 (s.vars.map za3)),.d (.sl 5 (s.bounds.map za0.d)),cI s.init.kind,cPs s.init.r.t.parts]++zi s.init.r.t.k++[cB s.init.r.eq,cFs s.init.kids,.d (.sl 3 (s.procs.map za2.d)),.d (.sl 10 (s.acts.map za5.d))])),vi .i64 i] (vs (zb9 s i)) []:=by
 refine Fn.body Tryd.func25 rfl 60 rfl fun w H B a h=>?_
 refine rq za1 0 [] [(1,vi .i64 i),(2,vp 0 0),(4,.t (.c (.d (.raw (.string ByteArray.empty)))))] [(0,.box ([.d (.sl 1 (s.vars.map za3)),.d (.sl 5 (s.bounds.map za0.d)),cI s.init.kind,cPs s.init.r.t.parts]++zi s.init.r.t.k++[cB s.init.r.eq,cFs s.init.kids,.d (.sl 3 (s.procs.map za2.d)),.d (.sl 10 (s.acts.map za5.d))]))] h ?_;clear h;intro a w h
 refine wp_seq ?_
 rcases Bool.eq_false_or_eq_true (decide (i<0)) with hc | hc
 ·have hc1:=hc;clear hc
  have hc1':=of_decide_eq_true hc1
  refine rq za1 1 [(1,.cmp (op:=.lss) (m:=i) (n:=0) (b:=true) .i64 hc1)] [(1,vi .i64 i),(2,vp 0 0),(4,.t (.c (.d (.raw (.string ByteArray.empty))))),(16,vb true)] [(0,.box ([.d (.sl 1 (s.vars.map za3)),.d (.sl 5 (s.bounds.map za0.d)),cI s.init.kind,cPs s.init.r.t.parts]++zi s.init.r.t.k++[cB s.init.r.eq,cFs s.init.kids,.d (.sl 3 (s.procs.map za2.d)),.d (.sl 10 (s.acts.map za5.d))]))] h ?_;clear h;intro a w h
  refine zac true h rfl (fun hc=>?_) (fun hc=>?_)
  ·clear hc
   refine rq za1 1 [] [(1,vi .i64 i),(2,vp 0 0),(4,.t (.c (.d (.raw (.string (⟨#[115,116,117,116,116,101,114]⟩:ByteArray))))))] [(0,.box ([.d (.sl 1 (s.vars.map za3)),.d (.sl 5 (s.bounds.map za0.d)),cI s.init.kind,cPs s.init.r.t.parts]++zi s.init.r.t.k++[cB s.init.r.eq,cFs s.init.kids,.d (.sl 3 (s.procs.map za2.d)),.d (.sl 10 (s.acts.map za5.d))]))] h ?_;clear h;intro a w h
   refine wp_ret (zah ?_)
   refine zaz [.c (.d (.raw (.string (⟨#[115,116,117,116,116,101,114]⟩:ByteArray))))] h Exit.ret (.inl rfl)  rfl ⟨RV.tmp _ _ rfl,trivial⟩ ?_
   rw [actW_n hi];rfl
  ·cases hc
 ·have hc2:=hc;clear hc
  have hc2':=of_decide_eq_false hc2
  refine rq za1 1 [(1,.cmp (op:=.lss) (m:=i) (n:=0) (b:=false) .i64 hc2),(6,.len (c:=(.d (.sl 10 (s.acts.map za5.d)))) (n:=s.acts.length) (za8 _ _ _)),(7,.cmp (op:=.geq) (m:=i) (n:=(s.acts.length:Int)) (b:=true) .i64 (decide_eq_true (atI_no hi (of_decide_eq_false hc2))))] [(1,vi .i64 i),(2,vp 0 0),(4,.t (.c (.d (.raw (.string ByteArray.empty))))),(16,vb true)] [(0,.box ([.d (.sl 1 (s.vars.map za3)),.d (.sl 5 (s.bounds.map za0.d)),cI s.init.kind,cPs s.init.r.t.parts]++zi s.init.r.t.k++[cB s.init.r.eq,cFs s.init.kids,.d (.sl 3 (s.procs.map za2.d)),.d (.sl 10 (s.acts.map za5.d))]))] h ?_;clear h;intro a w h
  refine zac true h rfl (fun hc=>?_) (fun hc=>?_)
  ·clear hc
   refine rq za1 1 [] [(1,vi .i64 i),(2,vp 0 0),(4,.t (.c (.d (.raw (.string (⟨#[115,116,117,116,116,101,114]⟩:ByteArray))))))] [(0,.box ([.d (.sl 1 (s.vars.map za3)),.d (.sl 5 (s.bounds.map za0.d)),cI s.init.kind,cPs s.init.r.t.parts]++zi s.init.r.t.k++[cB s.init.r.eq,cFs s.init.kids,.d (.sl 3 (s.procs.map za2.d)),.d (.sl 10 (s.acts.map za5.d))]))] h ?_;clear h;intro a w h
   refine wp_ret (zah ?_)
   refine zaz [.c (.d (.raw (.string (⟨#[115,116,117,116,116,101,114]⟩:ByteArray))))] h Exit.ret (.inl rfl)  rfl ⟨RV.tmp _ _ rfl,trivial⟩ ?_
   rw [actW_n hi];rfl
  ·cases hc
set_option maxHeartbeats 4000000 in
theorem RActQ (s:zap) (k:Nat) (c:za5) (_hz:zc2 s) (hl:s.acts.length≤1000000) (hk:s.acts[k]?=some c) (hp:atI s.procs c.proc=none):Fn Tryd.prog 25 [] [.t (.agg ([.d (.sl 1 (s.vars.map za3)),.d (.sl 5 (s.bounds.map za0.d)),cI s.init.kind,cPs s.init.r.t.parts]++zi s.init.r.t.k++[cB s.init.r.eq,cFs s.init.kids,.d (.sl 3 (s.procs.map za2.d)),.d (.sl 10 (s.acts.map za5.d))])),vi .i64 (k:Int)] (vs (zb9 s (k:Int))) []:=by
 have lk:=zao hk
 have ltk:(s.acts.take (k+1)).length=k+1:=by rw [List.length_take];omega
 refine Fn.body Tryd.func25 rfl 60 rfl fun w H B a h=>?_
 refine rq za1 0 [] [(1,vi .i64 (k:Int)),(2,vp 0 0),(4,.t (.c (.d (.raw (.string ByteArray.empty)))))] [(0,.box ([.d (.sl 1 (s.vars.map za3)),.d (.sl 5 (s.bounds.map za0.d)),cI s.init.kind,cPs s.init.r.t.parts]++zi s.init.r.t.k++[cB s.init.r.eq,cFs s.init.kids,.d (.sl 3 (s.procs.map za2.d)),.d (.sl 10 (s.acts.map za5.d))]))] h ?_;clear h;intro a w h
 refine wp_seq (rq za1 1 [(1,.cmp (op:=.lss) (m:=(k:Int)) (n:=0) (b:=false) .i64 (show (decide ((k:Int)<0))=false from decide_eq_false (by omega))),(6,.len (c:=(.d (.sl 10 (s.acts.map za5.d)))) (n:=s.acts.length) (za8 _ _ _)),(7,.cmp (op:=.geq) (m:=(k:Int)) (n:=(s.acts.length:Int)) (b:=false) .i64 (show (decide ((k:Int)≥(s.acts.length:Int)))=false from decide_eq_false (by omega)))] [(1,vi .i64 (k:Int)),(2,vp 0 0),(4,.t (.c (.d (.raw (.string ByteArray.empty))))),(16,vb false)] [(0,.box ([.d (.sl 1 (s.vars.map za3)),.d (.sl 5 (s.bounds.map za0.d)),cI s.init.kind,cPs s.init.r.t.parts]++zi s.init.r.t.k++[cB s.init.r.eq,cFs s.init.kids,.d (.sl 3 (s.procs.map za2.d)),.d (.sl 10 (s.acts.map za5.d))]))] h ?_);clear h;intro a w h
 refine zac false h rfl (fun hc=>?_) (fun hc=>?_)
 ·cases hc
 ·clear hc
  refine wp_skip (za4 (rq za1 1 [(3,.gen _ _ _ fun _ _ _ _=>Op.idxD (d:=20) (t:=18) (k:=.i64) ki_1 (zam hk (f:=za5.d)) (OV.tmp 19 _))] [(1,vi .i64 (k:Int)),(2,vp 0 0),(4,.t (.c (.d (.raw (.string ByteArray.empty))))),(5,vi .i64 c.proc)] [(0,.box ([.d (.sl 1 (s.vars.map za3)),.d (.sl 5 (s.bounds.map za0.d)),cI s.init.kind,cPs s.init.r.t.parts]++zi s.init.r.t.k++[cB s.init.r.eq,cFs s.init.kids,.d (.sl 3 (s.procs.map za2.d)),.d (.sl 10 (s.acts.map za5.d))]))] h ?_));clear h;intro a w h
  refine rq za1 1 [] [(1,vi .i64 (k:Int)),(2,vp 0 0),(4,.t (.c (.d (.raw (.string ByteArray.empty))))),(5,vi .i64 c.proc),(6,vi .i64 1)] [(0,.box ([.d (.sl 1 (s.vars.map za3)),.d (.sl 5 (s.bounds.map za0.d)),cI s.init.kind,cPs s.init.r.t.parts]++zi s.init.r.t.k++[cB s.init.r.eq,cFs s.init.kids,.d (.sl 3 (s.procs.map za2.d)),.d (.sl 10 (s.acts.map za5.d))]))] h ?_;clear h;intro a w h
  refine wp_seq (rq za1 1 [] [(1,vi .i64 (k:Int)),(2,vp 0 0),(4,.t (.c (.d (.raw (.string ByteArray.empty))))),(5,vi .i64 c.proc),(6,vi .i64 1),(7,vi .i64 0)] [(0,.box ([.d (.sl 1 (s.vars.map za3)),.d (.sl 5 (s.bounds.map za0.d)),cI s.init.kind,cPs s.init.r.t.parts]++zi s.init.r.t.k++[cB s.init.r.eq,cFs s.init.kids,.d (.sl 3 (s.procs.map za2.d)),.d (.sl 10 (s.acts.map za5.d))]))] h ?_);clear h;intro a w h
  refine wp_block ?_
  replace h:=h.conv (f':=F.of [(1,vi .i64 (k:Int)),(2,vp 0 0),(4,.t (.c (.d (.raw (.string ByteArray.empty))))),(5,vi .i64 c.proc),(6,vi .i64 (((zak s c.proc 0).length:Int)+1)),(7,vi .i64 0)] [(0,.box ([.d (.sl 1 (s.vars.map za3)),.d (.sl 5 (s.bounds.map za0.d)),cI s.init.kind,cPs s.init.r.t.parts]++zi s.init.r.t.k++[cB s.init.r.eq,cFs s.init.kids,.d (.sl 3 (s.procs.map za2.d)),.d (.sl 10 (s.acts.map za5.d))]))]) (by kernel_rfl)
  refine zci (ι:=(Nat)) (fun (z_:(Nat))=>match z_ with | j=>j≤k)
    (fun (z_:(Nat))=>match z_ with | j=>[(1,vi .i64 (k:Int)),(2,vp 0 0),(4,.t (.c (.d (.raw (.string ByteArray.empty))))),(5,vi .i64 c.proc),(6,vi .i64 (((zak s c.proc j).length:Int)+1)),(7,vi .i64 (j:Int))])
    (fun (z_:(Nat))=>match z_ with | j=>[(0,.box ([.d (.sl 1 (s.vars.map za3)),.d (.sl 5 (s.bounds.map za0.d)),cI s.init.kind,cPs s.init.r.t.parts]++zi s.init.r.t.k++[cB s.init.r.eq,cFs s.init.kids,.d (.sl 3 (s.procs.map za2.d)),.d (.sl 10 (s.acts.map za5.d))]))])
    (fun (z_:(Nat))=>match z_ with | j=>k - j) 0 ?_ h (by kernel_rfl) (by kernel_rfl) ?_
  ·exact Nat.zero_le _
  ·clear h;rintro j a w hI h
   change St _ (F.of [(1,vi .i64 (k:Int)),(2,vp 0 0),(4,.t (.c (.d (.raw (.string ByteArray.empty))))),(5,vi .i64 c.proc),(6,vi .i64 (((zak s c.proc j).length:Int)+1)),(7,vi .i64 (j:Int))] [(0,.box ([.d (.sl 1 (s.vars.map za3)),.d (.sl 5 (s.bounds.map za0.d)),cI s.init.kind,cPs s.init.r.t.parts]++zi s.init.r.t.k++[cB s.init.r.eq,cFs s.init.kids,.d (.sl 3 (s.procs.map za2.d)),.d (.sl 10 (s.acts.map za5.d))]))]) a w at h
   have lan:=zbz s c.proc j
   refine wp_seq (rq za1 1 [] [(1,vi .i64 (k:Int)),(2,vp 0 0),(4,.t (.c (.d (.raw (.string ByteArray.empty))))),(5,vi .i64 c.proc),(6,vi .i64 (((zak s c.proc j).length:Int)+1)),(7,vi .i64 (j:Int)),(25,vb (decide ((j:Int)<(k:Int))))] [(0,.box ([.d (.sl 1 (s.vars.map za3)),.d (.sl 5 (s.bounds.map za0.d)),cI s.init.kind,cPs s.init.r.t.parts]++zi s.init.r.t.k++[cB s.init.r.eq,cFs s.init.kids,.d (.sl 3 (s.procs.map za2.d)),.d (.sl 10 (s.acts.map za5.d))]))] h ?_);clear h;intro a w h
   refine zac (decide ((j:Int)<(k:Int))) h rfl (fun hc=>?_) (fun hc=>?_)
   ·have hc1:=hc;clear hc
    have hc1':=of_decide_eq_true hc1
    refine wp_skip (za4 (wp_seq (wp_block ?_)))
    obtain ⟨x1,hx1⟩:∃ z_:za5,s.acts[j]?=some z_:=⟨_,List.getElem?_eq_getElem (by first | omega | (simp at *;omega))⟩
    refine rq za1 1 [(3,.gen _ _ _ fun _ _ _ _=>Op.idxD (d:=31) (t:=29) (k:=.i64) ki_1 (zam hx1 (f:=za5.d)) (OV.tmp 30 _))] [(1,vi .i64 (k:Int)),(2,vp 0 0),(4,.t (.c (.d (.raw (.string ByteArray.empty))))),(5,vi .i64 c.proc),(6,vi .i64 (((zak s c.proc j).length:Int)+1)),(7,vi .i64 (j:Int)),(35,vb (x1.proc == c.proc))] [(0,.box ([.d (.sl 1 (s.vars.map za3)),.d (.sl 5 (s.bounds.map za0.d)),cI s.init.kind,cPs s.init.r.t.parts]++zi s.init.r.t.k++[cB s.init.r.eq,cFs s.init.kids,.d (.sl 3 (s.procs.map za2.d)),.d (.sl 10 (s.acts.map za5.d))]))] h ?_;clear h;intro a w h
    refine zac (x1.proc == c.proc) h rfl (fun hc=>?_) (fun hc=>?_)
    ·have hc2:=hc;clear hc
     have hc2':=hc2;(try simp at hc2')
     refine rn za1 1 [(1,.add .i64 (m:=(((zak s c.proc j).length:Int)+1)) (n:=1) (zaj (by omega) (by omega)))] [(1,vi .i64 (k:Int)),(2,vp 0 0),(4,.t (.c (.d (.raw (.string ByteArray.empty))))),(5,vi .i64 c.proc),(6,vi .i64 ((((zak s c.proc j).length:Int)+1)+1)),(7,vi .i64 (j:Int))] [(0,.box ([.d (.sl 1 (s.vars.map za3)),.d (.sl 5 (s.bounds.map za0.d)),cI s.init.kind,cPs s.init.r.t.parts]++zi s.init.r.t.k++[cB s.init.r.eq,cFs s.init.kids,.d (.sl 3 (s.procs.map za2.d)),.d (.sl 10 (s.acts.map za5.d))]))] h ?_;clear h;intro a w h
     refine zai (za4 (rn za1 1 [(1,.add .i64 (m:=(j:Int)) (n:=1) (zaj (by omega) (by omega)))] [(1,vi .i64 (k:Int)),(2,vp 0 0),(4,.t (.c (.d (.raw (.string ByteArray.empty))))),(5,vi .i64 c.proc),(6,vi .i64 ((((zak s c.proc j).length:Int)+1)+1)),(7,vi .i64 ((j:Int)+1))] [(0,.box ([.d (.sl 1 (s.vars.map za3)),.d (.sl 5 (s.bounds.map za0.d)),cI s.init.kind,cPs s.init.r.t.parts]++zi s.init.r.t.k++[cB s.init.r.eq,cFs s.init.kids,.d (.sl 3 (s.procs.map za2.d)),.d (.sl 10 (s.acts.map za5.d))]))] h ?_));clear h;intro a w h
     refine za4 ?_
     replace h:=h.conv (f':=F.of [(1,vi .i64 (k:Int)),(2,vp 0 0),(4,.t (.c (.d (.raw (.string ByteArray.empty))))),(5,vi .i64 c.proc),(6,vi .i64 (((zak s c.proc (j+1)).length:Int)+1)),(7,vi .i64 ((j:Int)+1))] [(0,.box ([.d (.sl 1 (s.vars.map za3)),.d (.sl 5 (s.bounds.map za0.d)),cI s.init.kind,cPs s.init.r.t.parts]++zi s.init.r.t.k++[cB s.init.r.eq,cFs s.init.kids,.d (.sl 3 (s.procs.map za2.d)),.d (.sl 10 (s.acts.map za5.d))]))]) (by rw [show ((((zak s c.proc j).length:Int)+1)+1:Int)=(((zak s c.proc (j+1)).length:Int)+1) from (by rw [zd0 hx1 hc2];rfl)])
     refine zas (x:=j) (y:=j+1) h ?_ ?_
     ·have:=of_decide_eq_true hc1
      show j+1≤k
      omega
     ·show k - (j+1)<k - j
      have:=of_decide_eq_true hc1;omega
    ·have hc3:=hc;clear hc
     have hc3':=hc3;(try simp at hc3')
     refine wp_skip (zai (za4 (rn za1 1 [(1,.add .i64 (m:=(j:Int)) (n:=1) (zaj (by omega) (by omega)))] [(1,vi .i64 (k:Int)),(2,vp 0 0),(4,.t (.c (.d (.raw (.string ByteArray.empty))))),(5,vi .i64 c.proc),(6,vi .i64 (((zak s c.proc j).length:Int)+1)),(7,vi .i64 ((j:Int)+1))] [(0,.box ([.d (.sl 1 (s.vars.map za3)),.d (.sl 5 (s.bounds.map za0.d)),cI s.init.kind,cPs s.init.r.t.parts]++zi s.init.r.t.k++[cB s.init.r.eq,cFs s.init.kids,.d (.sl 3 (s.procs.map za2.d)),.d (.sl 10 (s.acts.map za5.d))]))] h ?_)));clear h;intro a w h
     refine za4 ?_
     replace h:=h.conv (f':=F.of [(1,vi .i64 (k:Int)),(2,vp 0 0),(4,.t (.c (.d (.raw (.string ByteArray.empty))))),(5,vi .i64 c.proc),(6,vi .i64 (((zak s c.proc (j+1)).length:Int)+1)),(7,vi .i64 ((j:Int)+1))] [(0,.box ([.d (.sl 1 (s.vars.map za3)),.d (.sl 5 (s.bounds.map za0.d)),cI s.init.kind,cPs s.init.r.t.parts]++zi s.init.r.t.k++[cB s.init.r.eq,cFs s.init.kids,.d (.sl 3 (s.procs.map za2.d)),.d (.sl 10 (s.acts.map za5.d))]))]) (by rw [show ((((zak s c.proc j).length:Int)+1):Int)=(((zak s c.proc (j+1)).length:Int)+1) from (by rw [actN_no hx1 hc3])])
     refine zas (x:=j) (y:=j+1) h ?_ ?_
     ·have:=of_decide_eq_true hc1
      show j+1≤k
      omega
     ·show k - (j+1)<k - j
      have:=of_decide_eq_true hc1;omega
   ·have hc4:=hc;clear hc
    have hc4':=of_decide_eq_false hc4
    refine wp_exit (zar (zar (zag (za4 (wp_seq ?_)))))
    have hjk:j=k:=by have:=of_decide_eq_false hc4;omega
    have lit:=itA_sz s c.proc (k+1) hl
    have lan:=zbz s c.proc (k+1)
    replace h:=h.conv (f':=F.of [(1,vi .i64 (k:Int)),(2,vp 0 0),(4,.t (.c (.d (.raw (.string ByteArray.empty))))),(5,vi .i64 c.proc),(6,vi .i64 ((zak s c.proc (k+1)).length:Int)),(7,vi .i64 (j:Int)),(25,vb (decide ((j:Int)<(k:Int))))] [(0,.box ([.d (.sl 1 (s.vars.map za3)),.d (.sl 5 (s.bounds.map za0.d)),cI s.init.kind,cPs s.init.r.t.parts]++zi s.init.r.t.k++[cB s.init.r.eq,cFs s.init.kids,.d (.sl 3 (s.procs.map za2.d)),.d (.sl 10 (s.acts.map za5.d))]))]) (by rw [show ((((zak s c.proc j).length:Int)+1):Int)=((zak s c.proc (k+1)).length:Int) from (by rw [hjk,actN_self hk];rfl)])
    rcases Bool.eq_false_or_eq_true (decide (c.proc<0)) with hc | hc
    ·have hc5:=hc;clear hc
     have hc5':=of_decide_eq_true hc5
     refine rq za1 1 [(1,.cmp (op:=.lss) (m:=c.proc) (n:=0) (b:=true) .i64 hc5)] [(2,vp 0 0),(4,.t (.c (.d (.raw (.string ByteArray.empty))))),(5,vi .i64 c.proc),(6,vi .i64 ((zak s c.proc (k+1)).length:Int)),(46,vb true)] [(0,.box ([.d (.sl 1 (s.vars.map za3)),.d (.sl 5 (s.bounds.map za0.d)),cI s.init.kind,cPs s.init.r.t.parts]++zi s.init.r.t.k++[cB s.init.r.eq,cFs s.init.kids,.d (.sl 3 (s.procs.map za2.d)),.d (.sl 10 (s.acts.map za5.d))]))] h ?_;clear h;intro a w h
     refine zac true h rfl (fun hc=>?_) (fun hc=>?_)
     ·clear hc
      refine rq za1 1 [(1,.call (zc7 ((zak s c.proc (k+1)).length:Int) (by omega) (by omega)) pe1_3),(2,.gen _ _ _ fun _ _ _ _=>Op.strAdd (d:=49) (xt:=9) (yt:=9) (s1:=(⟨#[63,46]⟩:ByteArray)) (s2:=(itW ((zak s c.proc (k+1)).length:Int))) (r:=((⟨#[63,46]⟩:ByteArray)++(itW ((zak s c.proc (k+1)).length:Int)))) (OV.const (.string (⟨#[63,46]⟩:ByteArray)) rfl) (OV.tmp 48 _) (by have:(⟨#[63,46]⟩:ByteArray).size=2:=rfl;omega) rfl)] [(2,vp 0 0),(4,.t (.c (.d (.raw (.string ((⟨#[63,46]⟩:ByteArray)++(itW ((zak s c.proc (k+1)).length:Int)))))))),(5,vi .i64 c.proc),(6,vi .i64 ((zak s c.proc (k+1)).length:Int))] [(0,.box ([.d (.sl 1 (s.vars.map za3)),.d (.sl 5 (s.bounds.map za0.d)),cI s.init.kind,cPs s.init.r.t.parts]++zi s.init.r.t.k++[cB s.init.r.eq,cFs s.init.kids,.d (.sl 3 (s.procs.map za2.d)),.d (.sl 10 (s.acts.map za5.d))]))] h ?_;clear h;intro a w h
      refine wp_ret (zah ?_)
      refine zaz [.c (.d (.raw (.string ((⟨#[63,46]⟩:ByteArray)++(itW ((zak s c.proc (k+1)).length:Int))))))] h Exit.ret (.inl rfl)  rfl ⟨RV.tmp _ _ rfl,trivial⟩ ?_
      rw [actW_q hk hp];rfl
     ·cases hc
    ·have hc6:=hc;clear hc
     have hc6':=of_decide_eq_false hc6
     refine rq za1 1 [(1,.cmp (op:=.lss) (m:=c.proc) (n:=0) (b:=false) .i64 hc6),(6,.len (c:=(.d (.sl 3 (s.procs.map za2.d)))) (n:=s.procs.length) (za8 _ _ _)),(7,.cmp (op:=.geq) (m:=c.proc) (n:=(s.procs.length:Int)) (b:=true) .i64 (decide_eq_true (atI_no hp (of_decide_eq_false hc6))))] [(2,vp 0 0),(4,.t (.c (.d (.raw (.string ByteArray.empty))))),(5,vi .i64 c.proc),(6,vi .i64 ((zak s c.proc (k+1)).length:Int)),(46,vb true)] [(0,.box ([.d (.sl 1 (s.vars.map za3)),.d (.sl 5 (s.bounds.map za0.d)),cI s.init.kind,cPs s.init.r.t.parts]++zi s.init.r.t.k++[cB s.init.r.eq,cFs s.init.kids,.d (.sl 3 (s.procs.map za2.d)),.d (.sl 10 (s.acts.map za5.d))]))] h ?_;clear h;intro a w h
     refine zac true h rfl (fun hc=>?_) (fun hc=>?_)
     ·clear hc
      refine rq za1 1 [(1,.call (zc7 ((zak s c.proc (k+1)).length:Int) (by omega) (by omega)) pe1_3),(2,.gen _ _ _ fun _ _ _ _=>Op.strAdd (d:=49) (xt:=9) (yt:=9) (s1:=(⟨#[63,46]⟩:ByteArray)) (s2:=(itW ((zak s c.proc (k+1)).length:Int))) (r:=((⟨#[63,46]⟩:ByteArray)++(itW ((zak s c.proc (k+1)).length:Int)))) (OV.const (.string (⟨#[63,46]⟩:ByteArray)) rfl) (OV.tmp 48 _) (by have:(⟨#[63,46]⟩:ByteArray).size=2:=rfl;omega) rfl)] [(2,vp 0 0),(4,.t (.c (.d (.raw (.string ((⟨#[63,46]⟩:ByteArray)++(itW ((zak s c.proc (k+1)).length:Int)))))))),(5,vi .i64 c.proc),(6,vi .i64 ((zak s c.proc (k+1)).length:Int))] [(0,.box ([.d (.sl 1 (s.vars.map za3)),.d (.sl 5 (s.bounds.map za0.d)),cI s.init.kind,cPs s.init.r.t.parts]++zi s.init.r.t.k++[cB s.init.r.eq,cFs s.init.kids,.d (.sl 3 (s.procs.map za2.d)),.d (.sl 10 (s.acts.map za5.d))]))] h ?_;clear h;intro a w h
      refine wp_ret (zah ?_)
      refine zaz [.c (.d (.raw (.string ((⟨#[63,46]⟩:ByteArray)++(itW ((zak s c.proc (k+1)).length:Int))))))] h Exit.ret (.inl rfl)  rfl ⟨RV.tmp _ _ rfl,trivial⟩ ?_
      rw [actW_q hk hp];rfl
     ·cases hc
set_option maxHeartbeats 4000000 in
theorem RActS (s:zap) (k:Nat) (c:za5) (pr:za2) (hz:zc2 s) (hl:s.acts.length≤1000000) (hk:s.acts[k]?=some c) (hp:atI s.procs c.proc=some pr):Fn Tryd.prog 25 [] [.t (.agg ([.d (.sl 1 (s.vars.map za3)),.d (.sl 5 (s.bounds.map za0.d)),cI s.init.kind,cPs s.init.r.t.parts]++zi s.init.r.t.k++[cB s.init.r.eq,cFs s.init.kids,.d (.sl 3 (s.procs.map za2.d)),.d (.sl 10 (s.acts.map za5.d))])),vi .i64 (k:Int)] (vs (zb9 s (k:Int))) []:=by
 have lk:=zao hk
 have ltk:(s.acts.take (k+1)).length=k+1:=by rw [List.length_take];omega
 have lnm:=hz.name pr (zbn hp)
 have hpq:0≤c.proc:=by obtain ⟨q,e,_⟩:=zb7 hp;omega
 refine Fn.body Tryd.func25 rfl 60 rfl fun w H B a h=>?_
 refine rq za1 0 [] [(1,vi .i64 (k:Int)),(2,vp 0 0),(4,.t (.c (.d (.raw (.string ByteArray.empty)))))] [(0,.box ([.d (.sl 1 (s.vars.map za3)),.d (.sl 5 (s.bounds.map za0.d)),cI s.init.kind,cPs s.init.r.t.parts]++zi s.init.r.t.k++[cB s.init.r.eq,cFs s.init.kids,.d (.sl 3 (s.procs.map za2.d)),.d (.sl 10 (s.acts.map za5.d))]))] h ?_;clear h;intro a w h
 refine wp_seq (rq za1 1 [(1,.cmp (op:=.lss) (m:=(k:Int)) (n:=0) (b:=false) .i64 (show (decide ((k:Int)<0))=false from decide_eq_false (by omega))),(6,.len (c:=(.d (.sl 10 (s.acts.map za5.d)))) (n:=s.acts.length) (za8 _ _ _)),(7,.cmp (op:=.geq) (m:=(k:Int)) (n:=(s.acts.length:Int)) (b:=false) .i64 (show (decide ((k:Int)≥(s.acts.length:Int)))=false from decide_eq_false (by omega)))] [(1,vi .i64 (k:Int)),(2,vp 0 0),(4,.t (.c (.d (.raw (.string ByteArray.empty))))),(16,vb false)] [(0,.box ([.d (.sl 1 (s.vars.map za3)),.d (.sl 5 (s.bounds.map za0.d)),cI s.init.kind,cPs s.init.r.t.parts]++zi s.init.r.t.k++[cB s.init.r.eq,cFs s.init.kids,.d (.sl 3 (s.procs.map za2.d)),.d (.sl 10 (s.acts.map za5.d))]))] h ?_);clear h;intro a w h
 refine zac false h rfl (fun hc=>?_) (fun hc=>?_)
 ·cases hc
 ·clear hc
  refine wp_skip (za4 (rq za1 1 [(3,.gen _ _ _ fun _ _ _ _=>Op.idxD (d:=20) (t:=18) (k:=.i64) ki_1 (zam hk (f:=za5.d)) (OV.tmp 19 _))] [(1,vi .i64 (k:Int)),(2,vp 0 0),(4,.t (.c (.d (.raw (.string ByteArray.empty))))),(5,vi .i64 c.proc)] [(0,.box ([.d (.sl 1 (s.vars.map za3)),.d (.sl 5 (s.bounds.map za0.d)),cI s.init.kind,cPs s.init.r.t.parts]++zi s.init.r.t.k++[cB s.init.r.eq,cFs s.init.kids,.d (.sl 3 (s.procs.map za2.d)),.d (.sl 10 (s.acts.map za5.d))]))] h ?_));clear h;intro a w h
  refine rq za1 1 [] [(1,vi .i64 (k:Int)),(2,vp 0 0),(4,.t (.c (.d (.raw (.string ByteArray.empty))))),(5,vi .i64 c.proc),(6,vi .i64 1)] [(0,.box ([.d (.sl 1 (s.vars.map za3)),.d (.sl 5 (s.bounds.map za0.d)),cI s.init.kind,cPs s.init.r.t.parts]++zi s.init.r.t.k++[cB s.init.r.eq,cFs s.init.kids,.d (.sl 3 (s.procs.map za2.d)),.d (.sl 10 (s.acts.map za5.d))]))] h ?_;clear h;intro a w h
  refine wp_seq (rq za1 1 [] [(1,vi .i64 (k:Int)),(2,vp 0 0),(4,.t (.c (.d (.raw (.string ByteArray.empty))))),(5,vi .i64 c.proc),(6,vi .i64 1),(7,vi .i64 0)] [(0,.box ([.d (.sl 1 (s.vars.map za3)),.d (.sl 5 (s.bounds.map za0.d)),cI s.init.kind,cPs s.init.r.t.parts]++zi s.init.r.t.k++[cB s.init.r.eq,cFs s.init.kids,.d (.sl 3 (s.procs.map za2.d)),.d (.sl 10 (s.acts.map za5.d))]))] h ?_);clear h;intro a w h
  refine wp_block ?_
  replace h:=h.conv (f':=F.of [(1,vi .i64 (k:Int)),(2,vp 0 0),(4,.t (.c (.d (.raw (.string ByteArray.empty))))),(5,vi .i64 c.proc),(6,vi .i64 (((zak s c.proc 0).length:Int)+1)),(7,vi .i64 0)] [(0,.box ([.d (.sl 1 (s.vars.map za3)),.d (.sl 5 (s.bounds.map za0.d)),cI s.init.kind,cPs s.init.r.t.parts]++zi s.init.r.t.k++[cB s.init.r.eq,cFs s.init.kids,.d (.sl 3 (s.procs.map za2.d)),.d (.sl 10 (s.acts.map za5.d))]))]) (by kernel_rfl)
  refine zci (ι:=(Nat)) (fun (z_:(Nat))=>match z_ with | j=>j≤k)
    (fun (z_:(Nat))=>match z_ with | j=>[(1,vi .i64 (k:Int)),(2,vp 0 0),(4,.t (.c (.d (.raw (.string ByteArray.empty))))),(5,vi .i64 c.proc),(6,vi .i64 (((zak s c.proc j).length:Int)+1)),(7,vi .i64 (j:Int))])
    (fun (z_:(Nat))=>match z_ with | j=>[(0,.box ([.d (.sl 1 (s.vars.map za3)),.d (.sl 5 (s.bounds.map za0.d)),cI s.init.kind,cPs s.init.r.t.parts]++zi s.init.r.t.k++[cB s.init.r.eq,cFs s.init.kids,.d (.sl 3 (s.procs.map za2.d)),.d (.sl 10 (s.acts.map za5.d))]))])
    (fun (z_:(Nat))=>match z_ with | j=>k - j) 0 ?_ h (by kernel_rfl) (by kernel_rfl) ?_
  ·exact Nat.zero_le _
  ·clear h;rintro j a w hI h
   change St _ (F.of [(1,vi .i64 (k:Int)),(2,vp 0 0),(4,.t (.c (.d (.raw (.string ByteArray.empty))))),(5,vi .i64 c.proc),(6,vi .i64 (((zak s c.proc j).length:Int)+1)),(7,vi .i64 (j:Int))] [(0,.box ([.d (.sl 1 (s.vars.map za3)),.d (.sl 5 (s.bounds.map za0.d)),cI s.init.kind,cPs s.init.r.t.parts]++zi s.init.r.t.k++[cB s.init.r.eq,cFs s.init.kids,.d (.sl 3 (s.procs.map za2.d)),.d (.sl 10 (s.acts.map za5.d))]))]) a w at h
   have lan:=zbz s c.proc j
   refine wp_seq (rq za1 1 [] [(1,vi .i64 (k:Int)),(2,vp 0 0),(4,.t (.c (.d (.raw (.string ByteArray.empty))))),(5,vi .i64 c.proc),(6,vi .i64 (((zak s c.proc j).length:Int)+1)),(7,vi .i64 (j:Int)),(25,vb (decide ((j:Int)<(k:Int))))] [(0,.box ([.d (.sl 1 (s.vars.map za3)),.d (.sl 5 (s.bounds.map za0.d)),cI s.init.kind,cPs s.init.r.t.parts]++zi s.init.r.t.k++[cB s.init.r.eq,cFs s.init.kids,.d (.sl 3 (s.procs.map za2.d)),.d (.sl 10 (s.acts.map za5.d))]))] h ?_);clear h;intro a w h
   refine zac (decide ((j:Int)<(k:Int))) h rfl (fun hc=>?_) (fun hc=>?_)
   ·have hc1:=hc;clear hc
    have hc1':=of_decide_eq_true hc1
    refine wp_skip (za4 (wp_seq (wp_block ?_)))
    obtain ⟨x1,hx1⟩:∃ z_:za5,s.acts[j]?=some z_:=⟨_,List.getElem?_eq_getElem (by first | omega | (simp at *;omega))⟩
    refine rq za1 1 [(3,.gen _ _ _ fun _ _ _ _=>Op.idxD (d:=31) (t:=29) (k:=.i64) ki_1 (zam hx1 (f:=za5.d)) (OV.tmp 30 _))] [(1,vi .i64 (k:Int)),(2,vp 0 0),(4,.t (.c (.d (.raw (.string ByteArray.empty))))),(5,vi .i64 c.proc),(6,vi .i64 (((zak s c.proc j).length:Int)+1)),(7,vi .i64 (j:Int)),(35,vb (x1.proc == c.proc))] [(0,.box ([.d (.sl 1 (s.vars.map za3)),.d (.sl 5 (s.bounds.map za0.d)),cI s.init.kind,cPs s.init.r.t.parts]++zi s.init.r.t.k++[cB s.init.r.eq,cFs s.init.kids,.d (.sl 3 (s.procs.map za2.d)),.d (.sl 10 (s.acts.map za5.d))]))] h ?_;clear h;intro a w h
    refine zac (x1.proc == c.proc) h rfl (fun hc=>?_) (fun hc=>?_)
    ·have hc2:=hc;clear hc
     have hc2':=hc2;(try simp at hc2')
     refine rn za1 1 [(1,.add .i64 (m:=(((zak s c.proc j).length:Int)+1)) (n:=1) (zaj (by omega) (by omega)))] [(1,vi .i64 (k:Int)),(2,vp 0 0),(4,.t (.c (.d (.raw (.string ByteArray.empty))))),(5,vi .i64 c.proc),(6,vi .i64 ((((zak s c.proc j).length:Int)+1)+1)),(7,vi .i64 (j:Int))] [(0,.box ([.d (.sl 1 (s.vars.map za3)),.d (.sl 5 (s.bounds.map za0.d)),cI s.init.kind,cPs s.init.r.t.parts]++zi s.init.r.t.k++[cB s.init.r.eq,cFs s.init.kids,.d (.sl 3 (s.procs.map za2.d)),.d (.sl 10 (s.acts.map za5.d))]))] h ?_;clear h;intro a w h
     refine zai (za4 (rn za1 1 [(1,.add .i64 (m:=(j:Int)) (n:=1) (zaj (by omega) (by omega)))] [(1,vi .i64 (k:Int)),(2,vp 0 0),(4,.t (.c (.d (.raw (.string ByteArray.empty))))),(5,vi .i64 c.proc),(6,vi .i64 ((((zak s c.proc j).length:Int)+1)+1)),(7,vi .i64 ((j:Int)+1))] [(0,.box ([.d (.sl 1 (s.vars.map za3)),.d (.sl 5 (s.bounds.map za0.d)),cI s.init.kind,cPs s.init.r.t.parts]++zi s.init.r.t.k++[cB s.init.r.eq,cFs s.init.kids,.d (.sl 3 (s.procs.map za2.d)),.d (.sl 10 (s.acts.map za5.d))]))] h ?_));clear h;intro a w h
     refine za4 ?_
     replace h:=h.conv (f':=F.of [(1,vi .i64 (k:Int)),(2,vp 0 0),(4,.t (.c (.d (.raw (.string ByteArray.empty))))),(5,vi .i64 c.proc),(6,vi .i64 (((zak s c.proc (j+1)).length:Int)+1)),(7,vi .i64 ((j:Int)+1))] [(0,.box ([.d (.sl 1 (s.vars.map za3)),.d (.sl 5 (s.bounds.map za0.d)),cI s.init.kind,cPs s.init.r.t.parts]++zi s.init.r.t.k++[cB s.init.r.eq,cFs s.init.kids,.d (.sl 3 (s.procs.map za2.d)),.d (.sl 10 (s.acts.map za5.d))]))]) (by rw [show ((((zak s c.proc j).length:Int)+1)+1:Int)=(((zak s c.proc (j+1)).length:Int)+1) from (by rw [zd0 hx1 hc2];rfl)])
     refine zas (x:=j) (y:=j+1) h ?_ ?_
     ·have:=of_decide_eq_true hc1
      show j+1≤k
      omega
     ·show k - (j+1)<k - j
      have:=of_decide_eq_true hc1;omega
    ·have hc3:=hc;clear hc
     have hc3':=hc3;(try simp at hc3')
     refine wp_skip (zai (za4 (rn za1 1 [(1,.add .i64 (m:=(j:Int)) (n:=1) (zaj (by omega) (by omega)))] [(1,vi .i64 (k:Int)),(2,vp 0 0),(4,.t (.c (.d (.raw (.string ByteArray.empty))))),(5,vi .i64 c.proc),(6,vi .i64 (((zak s c.proc j).length:Int)+1)),(7,vi .i64 ((j:Int)+1))] [(0,.box ([.d (.sl 1 (s.vars.map za3)),.d (.sl 5 (s.bounds.map za0.d)),cI s.init.kind,cPs s.init.r.t.parts]++zi s.init.r.t.k++[cB s.init.r.eq,cFs s.init.kids,.d (.sl 3 (s.procs.map za2.d)),.d (.sl 10 (s.acts.map za5.d))]))] h ?_)));clear h;intro a w h
     refine za4 ?_
     replace h:=h.conv (f':=F.of [(1,vi .i64 (k:Int)),(2,vp 0 0),(4,.t (.c (.d (.raw (.string ByteArray.empty))))),(5,vi .i64 c.proc),(6,vi .i64 (((zak s c.proc (j+1)).length:Int)+1)),(7,vi .i64 ((j:Int)+1))] [(0,.box ([.d (.sl 1 (s.vars.map za3)),.d (.sl 5 (s.bounds.map za0.d)),cI s.init.kind,cPs s.init.r.t.parts]++zi s.init.r.t.k++[cB s.init.r.eq,cFs s.init.kids,.d (.sl 3 (s.procs.map za2.d)),.d (.sl 10 (s.acts.map za5.d))]))]) (by rw [show ((((zak s c.proc j).length:Int)+1):Int)=(((zak s c.proc (j+1)).length:Int)+1) from (by rw [actN_no hx1 hc3])])
     refine zas (x:=j) (y:=j+1) h ?_ ?_
     ·have:=of_decide_eq_true hc1
      show j+1≤k
      omega
     ·show k - (j+1)<k - j
      have:=of_decide_eq_true hc1;omega
   ·have hc4:=hc;clear hc
    have hc4':=of_decide_eq_false hc4
    refine wp_exit (zar (zar (zag (za4 (wp_seq ?_)))))
    have hjk:j=k:=by have:=of_decide_eq_false hc4;omega
    have lit:=itA_sz s c.proc (k+1) hl
    have lan:=zbz s c.proc (k+1)
    replace h:=h.conv (f':=F.of [(1,vi .i64 (k:Int)),(2,vp 0 0),(4,.t (.c (.d (.raw (.string ByteArray.empty))))),(5,vi .i64 c.proc),(6,vi .i64 ((zak s c.proc (k+1)).length:Int)),(7,vi .i64 (j:Int)),(25,vb (decide ((j:Int)<(k:Int))))] [(0,.box ([.d (.sl 1 (s.vars.map za3)),.d (.sl 5 (s.bounds.map za0.d)),cI s.init.kind,cPs s.init.r.t.parts]++zi s.init.r.t.k++[cB s.init.r.eq,cFs s.init.kids,.d (.sl 3 (s.procs.map za2.d)),.d (.sl 10 (s.acts.map za5.d))]))]) (by rw [show ((((zak s c.proc j).length:Int)+1):Int)=((zak s c.proc (k+1)).length:Int) from (by rw [hjk,actN_self hk];rfl)])
    refine rq za1 1 [(1,.cmp (op:=.lss) (m:=c.proc) (n:=0) (b:=false) .i64 (show (decide (c.proc<0))=false from decide_eq_false (by obtain ⟨kq,e1,e2⟩:=zb7 hp;have:=zao e2;omega))),(6,.len (c:=(.d (.sl 3 (s.procs.map za2.d)))) (n:=s.procs.length) (za8 _ _ _)),(7,.cmp (op:=.geq) (m:=c.proc) (n:=(s.procs.length:Int)) (b:=false) .i64 (show (decide (c.proc≥(s.procs.length:Int)))=false from decide_eq_false (by obtain ⟨kq,e1,e2⟩:=zb7 hp;have:=zao e2;omega)))] [(2,vp 0 0),(4,.t (.c (.d (.raw (.string ByteArray.empty))))),(5,vi .i64 c.proc),(6,vi .i64 ((zak s c.proc (k+1)).length:Int)),(46,vb false)] [(0,.box ([.d (.sl 1 (s.vars.map za3)),.d (.sl 5 (s.bounds.map za0.d)),cI s.init.kind,cPs s.init.r.t.parts]++zi s.init.r.t.k++[cB s.init.r.eq,cFs s.init.kids,.d (.sl 3 (s.procs.map za2.d)),.d (.sl 10 (s.acts.map za5.d))]))] h ?_;clear h;intro a w h
    refine zac false h rfl (fun hc=>?_) (fun hc=>?_)
    ·cases hc
    ·clear hc
     refine wp_skip (za4 ?_)
     obtain ⟨kq,hkkq⟩:∃ k_:Nat,c.proc=(k_:Int):=⟨_,(Int.toNat_of_nonneg (hpq)).symm⟩
     replace h:=h.conv (f':=F.of [(2,vp 0 0),(4,.t (.c (.d (.raw (.string ByteArray.empty))))),(5,vi .i64 (kq:Int)),(6,vi .i64 ((zak s c.proc (k+1)).length:Int)),(46,vb false)] [(0,.box ([.d (.sl 1 (s.vars.map za3)),.d (.sl 5 (s.bounds.map za0.d)),cI s.init.kind,cPs s.init.r.t.parts]++zi s.init.r.t.k++[cB s.init.r.eq,cFs s.init.kids,.d (.sl 3 (s.procs.map za2.d)),.d (.sl 10 (s.acts.map za5.d))]))]) (by rw [hkkq])
     refine rq za1 1 [(3,.gen _ _ _ fun _ _ _ _=>Op.idxD (d:=53) (t:=51) (k:=.i64) kf_5 (zam (by have h8:=hp;rw [hkkq,zbh] at h8;exact h8) (f:=za2.d)) (OV.tmp 52 _)),(6,.gen _ _ _ fun _ _ _ _=>Op.strAdd (d:=56) (xt:=9) (yt:=9) (s1:=pr.name) (s2:=(⟨#[46]⟩:ByteArray)) (r:=(pr.name++(⟨#[46]⟩:ByteArray))) (OV.tmp 55 _) (OV.const (.string (⟨#[46]⟩:ByteArray)) rfl) (by have:(⟨#[46]⟩:ByteArray).size=1:=rfl;omega) rfl),(8,.call (zc7 ((zak s c.proc (k+1)).length:Int) (by omega) (by omega)) pe1_3),(9,.gen _ _ _ fun _ _ _ _=>Op.strAdd (d:=59) (xt:=9) (yt:=9) (s1:=(pr.name++(⟨#[46]⟩:ByteArray))) (s2:=(itW ((zak s c.proc (k+1)).length:Int))) (r:=((pr.name++(⟨#[46]⟩:ByteArray))++(itW ((zak s c.proc (k+1)).length:Int)))) (OV.tmp 56 _) (OV.tmp 58 _) (by (try simp only [ByteArray.size_append]);have:(⟨#[46]⟩:ByteArray).size=1:=rfl;omega) rfl)] [(4,.t (.c (.d (.raw (.string ((pr.name++(⟨#[46]⟩:ByteArray))++(itW ((zak s c.proc (k+1)).length:Int))))))))] [] h ?_;clear h;intro a w h
     refine wp_ret ?_
     refine zaz [.c (.d (.raw (.string ((pr.name++(⟨#[46]⟩:ByteArray))++(itW ((zak s c.proc (k+1)).length:Int))))))] h Exit.ret (.inl rfl)  rfl ⟨RV.tmp _ _ rfl,trivial⟩ ?_
     rw [actW_s hk hp];rfl
theorem RAct (s:zap) (i:Int) (hz:zc2 s) (hl:s.acts.length≤1000000):Fn Tryd.prog 25 [] [.t (.agg ([.d (.sl 1 (s.vars.map za3)),.d (.sl 5 (s.bounds.map za0.d)),cI s.init.kind,cPs s.init.r.t.parts]++zi s.init.r.t.k++[cB s.init.r.eq,cFs s.init.kids,.d (.sl 3 (s.procs.map za2.d)),.d (.sl 10 (s.acts.map za5.d))])),vi .i64 i] (vs (zb9 s i)) []:=by
 cases hi:atI s.acts i with
 | none=>exact RActN s i hz hl hi
 | some c =>
  obtain ⟨k,rfl,hk⟩:=zb7 hi
  cases hp:atI s.procs c.proc with
  | none=>exact RActQ s k c hz hl hk hp
  | some pr=>exact RActS s k c pr hz hl hk hp
end S
end Go.Proofs.YtlfebjeoeijlfaaDoor
