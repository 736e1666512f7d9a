/-
  Part 5 of the proof of the statement AbstrTells: the walk through the program and the references lifted to the given row. It holds for every input.
-/
import Derived.Test.YtcppcnfmgpphcaaGreatVT4
import Derived.Test.YtcppcnfmgpphcaaGreatVT2
import Derived.SizedLaws
import Derived.Shelf.Sort.Plain
import Derived.Ground.Names2Prog
import Derived.Shelf.Slices.CompactI
import Derived.Shelf.Slices.In.SortNone
import Derived.Test.YtcppcnfmgpphcaaGreatProg
import Derived.Lib.RowBridge
import Derived.Test.YtcppcnfmgpphcaaGreatVT1
set_option maxRecDepth 100000
set_option maxHeartbeats 4000000
namespace Go.Proofs.YtcppcnfmgpphcaaGreat.S
section
open Go.RowKit

theorem ld4_5:za6 Tryz.prog 61:=za6.mk' (by kernel_rfl)
theorem ld4_6:za6 Tryz.prog 94:=za6.mk' (by kernel_rfl)
theorem ld4_7:za6 Tryz.prog 95:=za6.mk' (by kernel_rfl)
theorem ld4_9:za6 Tryz.prog 96:=za6.mk' (by kernel_rfl)
theorem ld4_10:za6 Tryz.prog 97:=za6.mk' (by kernel_rfl)
theorem zb3 {k:Int} {fs:List za1} {j:Nat} {x:za1} {out:List za1} (h:fs[j]?=some x):zbe k (fs.drop j) out=if (k=4∧x.kind=1)∨(k=5∧x.kind=0) then x else if x.kind=0∨x.kind=1 then zbe k (fs.drop (j+1)) out else if x.kind=k then zbe k (fs.drop (j+1)) (out++x.kids) else zbe k (fs.drop (j+1)) (out++[x]):=by
 obtain ⟨hj,rfl⟩:=List.getElem?_eq_some_iff.1 h
 rw [List.drop_eq_getElem_cons hj,zbe]
theorem zbb {fs:List za1} {j:Nat} {x:za1} (h:fs[j]?=some x):((fs.drop j).map za1.nodes).sum=x.nodes+((fs.drop (j+1)).map za1.nodes).sum:=by
 obtain ⟨hj,rfl⟩:=List.getElem?_eq_some_iff.1 h
 rw [List.drop_eq_getElem_cons hj,List.map_cons,List.sum_cons]
theorem zbf (xs ys:List za1):((xs++ys).map za1.nodes).sum=(xs.map za1.nodes).sum+(ys.map za1.nodes).sum:=by rw [List.map_append,List.sum_append]
theorem zbm (x:za1):([x].map za1.nodes).sum=x.nodes:=by simp
theorem join_nil {k:Int} {out:List za1} (h:out.length=0):zbe k [] out=zcf (k == 4):=by rw [List.length_eq_zero_iff.1 h];rfl
theorem join_one {k:Int} {out:List za1} {g:za1} (h:out.length=1) (hg:out[0]?=some g):zbe k [] out=g:=by
 match out with
 | [q]=>injection hg with hg
 | _ :: _ :: _=>simp at h
theorem join_two {k:Int} {out:List za1} (h0:out.length≠0) (h1:out.length≠1):zbe k [] out=⟨k,zR,out⟩:=by
 match out with
 | []=>exact absurd rfl h0
 | [q]=>exact absurd rfl h1
 | _ :: _ :: _=>rfl
theorem Ljoin (k:Int) (fs:List za1) (hk:k=4∨k=5) (hn:(fs.map za1.nodes).sum≤1000000):Fn Tryz.prog 96 [] [vI k,(vFs fs)] (vF (zdj k fs)) []:=by
 have lf:=zdc fs
 refine Fn.body Tryz.func96 rfl 68 rfl fun w H B a h=>?_
 refine rq za0 5 [] [(0,vI k),(1,(vFs fs)),(4,vp 5 0)] [(5,.box zF0)] h fun a w h=>?_
 refine rqk za0 6 [] [(0,vI k),(1,(vFs fs)),(4,vp 5 0),(5,.t (.c (.d (.raw zae))))] h fun a w h=>?_
 refine wp_seq (rqk za0 6 [(1,.len (za9 6 za1.d fs))] [(0,vI k),(4,vp 5 0),(5,.t (.c (.d (.raw zae)))),(8,(vFs fs)),(9,vN fs.length),(10,vI 0)] h fun a w h=>?_)
 refine wp_block ?_
 replace h:=zev 5 0 6 6 60 (.t (.c (.d (.raw zae)))) [(0,vI k),(4,vp 5 0),(5,.t (.c (.own 6 0))),(8,(vFs fs)),(9,vN fs.length),(10,vI 0)] [(5,.box zF0),(6,.row 60 6 ([].map za1.d))] h (by kernel_rfl) rfl rfl
 refine zau (ι:=(Nat) × (List za1)) (fun (j,out)=>j≤fs.length∧zdj k fs=zbe k (fs.drop j) out∧(out.map za1.nodes).sum+((fs.drop j).map za1.nodes).sum≤1000000)
   (fun (j,out)=>[(0,vI k),(4,vp 5 0),(5,.t (.c (.own 6 out.length))),(8,(vFs fs)),(9,vN fs.length),(10,vN j)])
   (fun (j,out)=>[(5,.box zF0),(6,.row 60 6 (out.map za1.d))])
   (fun (j,out)=>fs.length - j) (0,[]) ?_ h (by kernel_rfl) (by kernel_rfl) ?_
 ·exact ⟨Nat.zero_le _,rfl,by show 0+(fs.map za1.nodes).sum≤_;omega⟩
 clear h;rintro ⟨j,out⟩ a w hI h
 dsimp only at h
 obtain ⟨hI1,hI2,hI3⟩:=hI
 have lo:=zdc out
 refine rqk za0 7 [] [(0,vI k),(4,vp 5 0),(5,.t (.c (.own 6 out.length))),(8,(vFs fs)),(9,vN fs.length),(10,vN j),(11,vb (decide ((j:Int)<(fs.length:Int))))] h fun a w h=>?_
 refine wp_seq ?_
 refine zam ((j:Int)<(fs.length:Int)) h rfl (fun hc1 hc1'=>?_) (fun hc30 hc30'=>?_)
 ·refine wp_skip (za2 (wp_seq (wp_block ?_)))
  obtain ⟨x1,hx1⟩:=gl fs j
  have knx1:=ze9 x1
  have dnx1:=zbb hx1
  refine rq za0 7 [(0,.g (xD 12 8 zhj ((zaf hx1 (f:=za1.d)).trans (congrArg some (za1.d_eq x1))) (OV.tmp 10 _)))] [(0,vI k),(4,vp 5 0),(5,.t (.c (.own 6 out.length))),(7,vp 7 0),(8,(vFs fs)),(9,vN fs.length),(10,vN j)] [(5,.box zF0),(6,.row 60 6 (out.map za1.d)),(7,.box (zF x1))] h fun a w h=>?_
  refine wp_block (wp_seq ?_)
  rcases Bool.eq_false_or_eq_true (k == 4) with hc | hc
  ·have hc2:=hc;clear hc
   have hc2':=hc2;(try simp at hc2')
   refine rqk za0 8 [(1,.cmp (op:=.eql) (m:=k) (n:=4) (b:=true) .i64 hc2)] [(0,vI k),(4,vp 5 0),(5,.t (.c (.own 6 out.length))),(7,vp 7 0),(8,(vFs fs)),(9,vN fs.length),(10,vN j),(18,vb (x1.kind == 1))] h fun a w h=>?_
   refine zah (x1.kind == 1) h rfl (fun hc3=>?_) (fun hc4=>?_)
   ·have hc3':=hc3;(try simp at hc3')
    refine wp_skip (za2 ?_)
    refine zah (x1.kind == 1) h rfl (fun hc=>?_) (fun hc=>?_)
    ·clear hc
     refine rq za0 8 [] [(0,vI k),(4,vp 5 0),(5,.t (.c (.own 6 out.length))),(8,(vFs fs)),(9,vN fs.length),(10,vN j)] [(5,.box (zF x1)),(6,.row 60 6 (out.map za1.d))] h fun a w h=>?_
     refine wp_ret (zad (zad (za8 (za8 (zad (za8 ?_))))))
     refine rA 5 (zF x1) h zd2 rfl rfl rfl rfl rfl ?_
     have p0: k=4:=by have:=hc2;simpa using this
     have p1: x1.kind=1:=by have:=hc3;simpa using this
     have hz:zdj k fs=x1:=by rw [hI2,zb3 hx1,if_pos (by omega)]
     rw [hz];first | done | rfl
    rw [hc3] at hc;cases hc
   have hc4':=hc4;(try simp at hc4')
   rcases Bool.eq_false_or_eq_true (k == 5) with hc | hc
   ·have hc5:=hc;clear hc
    have hc5':=hc5;(try simp at hc5')
    refine rnk za0 8 [(1,.cmp (op:=.eql) (m:=k) (n:=5) (b:=true) .i64 hc5)] [(0,vI k),(4,vp 5 0),(5,.t (.c (.own 6 out.length))),(7,vp 7 0),(8,(vFs fs)),(9,vN fs.length),(10,vN j),(18,vb (x1.kind == 0))] h fun a w h=>?_
    refine za2 ?_
    refine zah (x1.kind == 0) h rfl (fun hc6=>?_) (fun hc7=>?_)
    ·have hc6':=hc6;(try simp at hc6')
     refine rq za0 8 [] [(0,vI k),(4,vp 5 0),(5,.t (.c (.own 6 out.length))),(8,(vFs fs)),(9,vN fs.length),(10,vN j)] [(5,.box (zF x1)),(6,.row 60 6 (out.map za1.d))] h fun a w h=>?_
     refine wp_ret (zad (zad (za8 (za8 (zad (za8 ?_))))))
     refine rA 5 (zF x1) h zd2 rfl rfl rfl rfl rfl ?_
     have p0: k=4:=by have:=hc2;simpa using this
     have p1:¬ x1.kind=1:=by have:=hc4;simpa using this
     have p2: k=5:=by have:=hc5;simpa using this
     have p3: x1.kind=0:=by have:=hc6;simpa using this
     have hz:zdj k fs=x1:=by rw [hI2,zb3 hx1,if_pos (by omega)]
     rw [hz];first | done | rfl
    have hc7':=hc7;(try simp at hc7')
    refine rqk za0 8 [(2,.cmp (op:=.eql) (m:=x1.kind) (n:=0) (b:=false) .i64 hc7),(6,.cmp (op:=.eql) (m:=x1.kind) (n:=1) (b:=false) .i64 hc4)] [(0,vI k),(4,vp 5 0),(5,.t (.c (.own 6 out.length))),(7,vp 7 0),(8,(vFs fs)),(9,vN fs.length),(10,vN j),(34,vb false)] h fun a w h=>?_
    refine zah false h rfl nofun (fun _=>?_)
    refine rqk za0 8 [] [(0,vI k),(4,vp 5 0),(5,.t (.c (.own 6 out.length))),(7,vp 7 0),(8,(vFs fs)),(9,vN fs.length),(10,vN j),(43,vb (x1.kind == k))] h fun a w h=>?_
    refine zah (x1.kind == k) h rfl (fun hc8=>?_) (fun hc9=>?_)
    ·have hc8':=hc8;(try simp at hc8')
     refine rn za0 8 [(3,.g (aD 51 48 50 6 8 out x1.kids za1.d la_7 (by simp [za1.d_len])))] [(0,vI k),(4,vp 5 0),(5,.t (.c (.own 8 (out++x1.kids).length))),(8,(vFs fs)),(9,vN fs.length),(10,vN j)] [(5,.box zF0),(8,.row 60 6 ((out++x1.kids).map za1.d))] h fun a w h=>?_
     refine zaa (zaa (za2 (rnk za0 9 [(0,.j1 j)] [(0,vI k),(4,vp 5 0),(5,.t (.c (.own 8 (out++x1.kids).length))),(8,(vFs fs)),(9,vN fs.length),(10,vI ((j:Int)+1))] h fun a w h=>?_)))
     refine za2 ?_
     replace h:=zbz 8 6 [(0,vI k),(4,vp 5 0),(5,.t (.c (.own 6 (out++x1.kids).length))),(8,(vFs fs)),(9,vN fs.length),(10,vI ((j:Int)+1))] [(5,.box zF0),(6,.row 60 6 ((out++x1.kids).map za1.d))] h
     refine zaj (x:=(j,out)) (y:=(j+1,(out++x1.kids))) h ?_ ?_
     ·have:=zag hx1
      have hdn:=zbb hx1
      have hxn:=za1.nodes_eq x1
      have p0: k=4:=by have:=hc2;simpa using this
      have p1:¬ x1.kind=1:=by have:=hc4;simpa using this
      have p2: k=5:=by have:=hc5;simpa using this
      have p3:¬ x1.kind=0:=by have:=hc7;simpa using this
      have p4: x1.kind=k:=by have:=hc8;simpa using this
      exact ⟨by omega,by rw [hI2,zb3 hx1,if_neg (by omega),if_neg (by omega),if_pos (by omega)],by first | omega | (rw [zbf];(try rw [zbm]);omega)⟩
     show fs.length - (j+1)<fs.length - j
     have:=zag hx1;omega
    have hc9':=hc9;(try simp at hc9')
    refine rn za0 9 [(2,.g (bD 16 ([x1].map za1.d) [(15,(vF x1))] kb_1 (.cons (i:=0) (OV.tmp 15 _) (.nil)) (by simp only [List.map_cons,List.map_nil,List.flatten_cons,List.flatten_nil,List.append_nil,za1.d_eq];kernel_rfl) (by simp [za1.d_len]))),(3,.g (aD 17 14 16 6 9 out [x1] za1.d la_7 (by simp [za1.d_len])))] [(0,vI k),(4,vp 5 0),(5,.t (.c (.own 9 (out++[x1]).length))),(8,(vFs fs)),(9,vN fs.length),(10,vN j)] [(5,.box zF0),(9,.row 60 6 ((out++[x1]).map za1.d))] h fun a w h=>?_
    refine zaa (zaa (za2 (rnk za0 10 [(0,.j1 j)] [(0,vI k),(4,vp 5 0),(5,.t (.c (.own 9 (out++[x1]).length))),(8,(vFs fs)),(9,vN fs.length),(10,vI ((j:Int)+1))] h fun a w h=>?_)))
    refine za2 ?_
    replace h:=zbz 9 6 [(0,vI k),(4,vp 5 0),(5,.t (.c (.own 6 (out++[x1]).length))),(8,(vFs fs)),(9,vN fs.length),(10,vI ((j:Int)+1))] [(5,.box zF0),(6,.row 60 6 ((out++[x1]).map za1.d))] h
    refine zaj (x:=(j,out)) (y:=(j+1,(out++[x1]))) h ?_ ?_
    ·have:=zag hx1
     have hdn:=zbb hx1
     have hxn:=za1.nodes_eq x1
     have p0: k=4:=by have:=hc2;simpa using this
     have p1:¬ x1.kind=1:=by have:=hc4;simpa using this
     have p2: k=5:=by have:=hc5;simpa using this
     have p3:¬ x1.kind=0:=by have:=hc7;simpa using this
     have p4:¬ x1.kind=k:=by have:=hc9;simpa using this
     exact ⟨by omega,by rw [hI2,zb3 hx1,if_neg (by omega),if_neg (by omega),if_neg (by omega)],by first | omega | (rw [zbf];(try rw [zbm]);omega)⟩
    show fs.length - (j+1)<fs.length - j
    have:=zag hx1;omega
   have hc10:=hc;clear hc
   have hc10':=hc10;(try simp at hc10')
   refine rnk za0 10 [(1,.cmp (op:=.eql) (m:=k) (n:=5) (b:=false) .i64 hc10)] [(0,vI k),(4,vp 5 0),(5,.t (.c (.own 6 out.length))),(7,vp 7 0),(8,(vFs fs)),(9,vN fs.length),(10,vN j),(18,vb false)] h fun a w h=>?_
   refine za2 ?_
   refine zah false h rfl nofun (fun _=>?_)
   rcases Bool.eq_false_or_eq_true (x1.kind == 0) with hc | hc
   ·have hc11:=hc;clear hc
    have hc11':=hc11;(try simp at hc11')
    refine rqk za0 10 [(2,.cmp (op:=.eql) (m:=x1.kind) (n:=0) (b:=true) .i64 hc11)] [(0,vI k),(4,vp 5 0),(5,.t (.c (.own 6 out.length))),(7,vp 7 0),(8,(vFs fs)),(9,vN fs.length),(10,vN j),(34,vb true)] h fun a w h=>?_
    refine zah true h rfl (fun _=>?_) nofun
    refine wp_skip (zaa (zaa (za2 (rn za0 10 [(0,.j1 j)] [(0,vI k),(4,vp 5 0),(5,.t (.c (.own 6 out.length))),(8,(vFs fs)),(9,vN fs.length),(10,vI ((j:Int)+1))] [(5,.box zF0),(6,.row 60 6 (out.map za1.d))] h fun a w h=>?_))))
    refine za2 ?_
    refine zaj (x:=(j,out)) (y:=(j+1,out)) h ?_ ?_
    ·have:=zag hx1
     have hdn:=zbb hx1
     have hxn:=za1.nodes_eq x1
     have p0: k=4:=by have:=hc2;simpa using this
     have p1:¬ x1.kind=1:=by have:=hc4;simpa using this
     have p2:¬ k=5:=by have:=hc10;simpa using this
     have p3: x1.kind=0:=by have:=hc11;simpa using this
     exact ⟨by omega,by rw [hI2,zb3 hx1,if_neg (by omega),if_pos (by omega)],by first | omega | (rw [zbf];(try rw [zbm]);omega)⟩
    show fs.length - (j+1)<fs.length - j
    have:=zag hx1;omega
   have hc12:=hc;clear hc
   have hc12':=hc12;(try simp at hc12')
   refine rqk za0 10 [(2,.cmp (op:=.eql) (m:=x1.kind) (n:=0) (b:=false) .i64 hc12),(6,.cmp (op:=.eql) (m:=x1.kind) (n:=1) (b:=false) .i64 hc4)] [(0,vI k),(4,vp 5 0),(5,.t (.c (.own 6 out.length))),(7,vp 7 0),(8,(vFs fs)),(9,vN fs.length),(10,vN j),(34,vb false)] h fun a w h=>?_
   refine zah false h rfl nofun (fun _=>?_)
   refine rqk za0 10 [] [(0,vI k),(4,vp 5 0),(5,.t (.c (.own 6 out.length))),(7,vp 7 0),(8,(vFs fs)),(9,vN fs.length),(10,vN j),(43,vb (x1.kind == k))] h fun a w h=>?_
   refine zah (x1.kind == k) h rfl (fun hc13=>?_) (fun hc14=>?_)
   ·have hc13':=hc13;(try simp at hc13')
    refine rn za0 10 [(3,.g (aD 51 48 50 6 10 out x1.kids za1.d la_7 (by simp [za1.d_len])))] [(0,vI k),(4,vp 5 0),(5,.t (.c (.own 10 (out++x1.kids).length))),(8,(vFs fs)),(9,vN fs.length),(10,vN j)] [(5,.box zF0),(10,.row 60 6 ((out++x1.kids).map za1.d))] h fun a w h=>?_
    refine zaa (zaa (za2 (rnk za0 11 [(0,.j1 j)] [(0,vI k),(4,vp 5 0),(5,.t (.c (.own 10 (out++x1.kids).length))),(8,(vFs fs)),(9,vN fs.length),(10,vI ((j:Int)+1))] h fun a w h=>?_)))
    refine za2 ?_
    replace h:=zbz 10 6 [(0,vI k),(4,vp 5 0),(5,.t (.c (.own 6 (out++x1.kids).length))),(8,(vFs fs)),(9,vN fs.length),(10,vI ((j:Int)+1))] [(5,.box zF0),(6,.row 60 6 ((out++x1.kids).map za1.d))] h
    refine zaj (x:=(j,out)) (y:=(j+1,(out++x1.kids))) h ?_ ?_
    ·have:=zag hx1
     have hdn:=zbb hx1
     have hxn:=za1.nodes_eq x1
     have p0: k=4:=by have:=hc2;simpa using this
     have p1:¬ x1.kind=1:=by have:=hc4;simpa using this
     have p2:¬ k=5:=by have:=hc10;simpa using this
     have p3:¬ x1.kind=0:=by have:=hc12;simpa using this
     have p4: x1.kind=k:=by have:=hc13;simpa using this
     exact ⟨by omega,by rw [hI2,zb3 hx1,if_neg (by omega),if_neg (by omega),if_pos (by omega)],by first | omega | (rw [zbf];(try rw [zbm]);omega)⟩
    show fs.length - (j+1)<fs.length - j
    have:=zag hx1;omega
   have hc14':=hc14;(try simp at hc14')
   refine rn za0 11 [(2,.g (bD 16 ([x1].map za1.d) [(15,(vF x1))] kb_1 (.cons (i:=0) (OV.tmp 15 _) (.nil)) (by simp only [List.map_cons,List.map_nil,List.flatten_cons,List.flatten_nil,List.append_nil,za1.d_eq];kernel_rfl) (by simp [za1.d_len]))),(3,.g (aD 17 14 16 6 11 out [x1] za1.d la_7 (by simp [za1.d_len])))] [(0,vI k),(4,vp 5 0),(5,.t (.c (.own 11 (out++[x1]).length))),(8,(vFs fs)),(9,vN fs.length),(10,vN j)] [(5,.box zF0),(11,.row 60 6 ((out++[x1]).map za1.d))] h fun a w h=>?_
   refine zaa (zaa (za2 (rnk za0 12 [(0,.j1 j)] [(0,vI k),(4,vp 5 0),(5,.t (.c (.own 11 (out++[x1]).length))),(8,(vFs fs)),(9,vN fs.length),(10,vI ((j:Int)+1))] h fun a w h=>?_)))
   refine za2 ?_
   replace h:=zbz 11 6 [(0,vI k),(4,vp 5 0),(5,.t (.c (.own 6 (out++[x1]).length))),(8,(vFs fs)),(9,vN fs.length),(10,vI ((j:Int)+1))] [(5,.box zF0),(6,.row 60 6 ((out++[x1]).map za1.d))] h
   refine zaj (x:=(j,out)) (y:=(j+1,(out++[x1]))) h ?_ ?_
   ·have:=zag hx1
    have hdn:=zbb hx1
    have hxn:=za1.nodes_eq x1
    have p0: k=4:=by have:=hc2;simpa using this
    have p1:¬ x1.kind=1:=by have:=hc4;simpa using this
    have p2:¬ k=5:=by have:=hc10;simpa using this
    have p3:¬ x1.kind=0:=by have:=hc12;simpa using this
    have p4:¬ x1.kind=k:=by have:=hc14;simpa using this
    exact ⟨by omega,by rw [hI2,zb3 hx1,if_neg (by omega),if_neg (by omega),if_neg (by omega)],by first | omega | (rw [zbf];(try rw [zbm]);omega)⟩
   show fs.length - (j+1)<fs.length - j
   have:=zag hx1;omega
  have hc15:=hc;clear hc
  have hc15':=hc15;(try simp at hc15')
  refine rqk za0 12 [(1,.cmp (op:=.eql) (m:=k) (n:=4) (b:=false) .i64 hc15)] [(0,vI k),(4,vp 5 0),(5,.t (.c (.own 6 out.length))),(7,vp 7 0),(8,(vFs fs)),(9,vN fs.length),(10,vN j),(18,vb false)] h fun a w h=>?_
  refine zah false h rfl nofun (fun _=>?_)
  rcases Bool.eq_false_or_eq_true (k == 5) with hc | hc
  ·have hc16:=hc;clear hc
   have hc16':=hc16;(try simp at hc16')
   refine rnk za0 12 [(1,.cmp (op:=.eql) (m:=k) (n:=5) (b:=true) .i64 hc16)] [(0,vI k),(4,vp 5 0),(5,.t (.c (.own 6 out.length))),(7,vp 7 0),(8,(vFs fs)),(9,vN fs.length),(10,vN j),(18,vb (x1.kind == 0))] h fun a w h=>?_
   refine za2 ?_
   refine zah (x1.kind == 0) h rfl (fun hc17=>?_) (fun hc18=>?_)
   ·have hc17':=hc17;(try simp at hc17')
    refine rq za0 12 [] [(0,vI k),(4,vp 5 0),(5,.t (.c (.own 6 out.length))),(8,(vFs fs)),(9,vN fs.length),(10,vN j)] [(5,.box (zF x1)),(6,.row 60 6 (out.map za1.d))] h fun a w h=>?_
    refine wp_ret (zad (zad (za8 (za8 (zad (za8 ?_))))))
    refine rA 5 (zF x1) h zd2 rfl rfl rfl rfl rfl ?_
    have p0:¬ k=4:=by have:=hc15;simpa using this
    have p1: k=5:=by have:=hc16;simpa using this
    have p2: x1.kind=0:=by have:=hc17;simpa using this
    have hz:zdj k fs=x1:=by rw [hI2,zb3 hx1,if_pos (by omega)]
    rw [hz];first | done | rfl
   have hc18':=hc18;(try simp at hc18')
   refine rqk za0 12 [(2,.cmp (op:=.eql) (m:=x1.kind) (n:=0) (b:=false) .i64 hc18)] [(0,vI k),(4,vp 5 0),(5,.t (.c (.own 6 out.length))),(7,vp 7 0),(8,(vFs fs)),(9,vN fs.length),(10,vN j),(34,vb (x1.kind == 1))] h fun a w h=>?_
   refine zah (x1.kind == 1) h rfl (fun hc19=>?_) (fun hc20=>?_)
   ·have hc19':=hc19;(try simp at hc19')
    refine wp_skip (zaa (zaa (za2 (rn za0 12 [(0,.j1 j)] [(0,vI k),(4,vp 5 0),(5,.t (.c (.own 6 out.length))),(8,(vFs fs)),(9,vN fs.length),(10,vI ((j:Int)+1))] [(5,.box zF0),(6,.row 60 6 (out.map za1.d))] h fun a w h=>?_))))
    refine za2 ?_
    refine zaj (x:=(j,out)) (y:=(j+1,out)) h ?_ ?_
    ·have:=zag hx1
     have hdn:=zbb hx1
     have hxn:=za1.nodes_eq x1
     have p0:¬ k=4:=by have:=hc15;simpa using this
     have p1: k=5:=by have:=hc16;simpa using this
     have p2:¬ x1.kind=0:=by have:=hc18;simpa using this
     have p3: x1.kind=1:=by have:=hc19;simpa using this
     exact ⟨by omega,by rw [hI2,zb3 hx1,if_neg (by omega),if_pos (by omega)],by first | omega | (rw [zbf];(try rw [zbm]);omega)⟩
    show fs.length - (j+1)<fs.length - j
    have:=zag hx1;omega
   have hc20':=hc20;(try simp at hc20')
   refine rqk za0 12 [] [(0,vI k),(4,vp 5 0),(5,.t (.c (.own 6 out.length))),(7,vp 7 0),(8,(vFs fs)),(9,vN fs.length),(10,vN j),(43,vb (x1.kind == k))] h fun a w h=>?_
   refine zah (x1.kind == k) h rfl (fun hc21=>?_) (fun hc22=>?_)
   ·have hc21':=hc21;(try simp at hc21')
    refine rn za0 12 [(3,.g (aD 51 48 50 6 12 out x1.kids za1.d la_7 (by simp [za1.d_len])))] [(0,vI k),(4,vp 5 0),(5,.t (.c (.own 12 (out++x1.kids).length))),(8,(vFs fs)),(9,vN fs.length),(10,vN j)] [(5,.box zF0),(12,.row 60 6 ((out++x1.kids).map za1.d))] h fun a w h=>?_
    refine zaa (zaa (za2 (rnk za0 13 [(0,.j1 j)] [(0,vI k),(4,vp 5 0),(5,.t (.c (.own 12 (out++x1.kids).length))),(8,(vFs fs)),(9,vN fs.length),(10,vI ((j:Int)+1))] h fun a w h=>?_)))
    refine za2 ?_
    replace h:=zbz 12 6 [(0,vI k),(4,vp 5 0),(5,.t (.c (.own 6 (out++x1.kids).length))),(8,(vFs fs)),(9,vN fs.length),(10,vI ((j:Int)+1))] [(5,.box zF0),(6,.row 60 6 ((out++x1.kids).map za1.d))] h
    refine zaj (x:=(j,out)) (y:=(j+1,(out++x1.kids))) h ?_ ?_
    ·have:=zag hx1
     have hdn:=zbb hx1
     have hxn:=za1.nodes_eq x1
     have p0:¬ k=4:=by have:=hc15;simpa using this
     have p1: k=5:=by have:=hc16;simpa using this
     have p2:¬ x1.kind=0:=by have:=hc18;simpa using this
     have p3:¬ x1.kind=1:=by have:=hc20;simpa using this
     have p4: x1.kind=k:=by have:=hc21;simpa using this
     exact ⟨by omega,by rw [hI2,zb3 hx1,if_neg (by omega),if_neg (by omega),if_pos (by omega)],by first | omega | (rw [zbf];(try rw [zbm]);omega)⟩
    show fs.length - (j+1)<fs.length - j
    have:=zag hx1;omega
   have hc22':=hc22;(try simp at hc22')
   refine rn za0 13 [(2,.g (bD 16 ([x1].map za1.d) [(15,(vF x1))] kb_1 (.cons (i:=0) (OV.tmp 15 _) (.nil)) (by simp only [List.map_cons,List.map_nil,List.flatten_cons,List.flatten_nil,List.append_nil,za1.d_eq];kernel_rfl) (by simp [za1.d_len]))),(3,.g (aD 17 14 16 6 13 out [x1] za1.d la_7 (by simp [za1.d_len])))] [(0,vI k),(4,vp 5 0),(5,.t (.c (.own 13 (out++[x1]).length))),(8,(vFs fs)),(9,vN fs.length),(10,vN j)] [(5,.box zF0),(13,.row 60 6 ((out++[x1]).map za1.d))] h fun a w h=>?_
   refine zaa (zaa (za2 (rnk za0 14 [(0,.j1 j)] [(0,vI k),(4,vp 5 0),(5,.t (.c (.own 13 (out++[x1]).length))),(8,(vFs fs)),(9,vN fs.length),(10,vI ((j:Int)+1))] h fun a w h=>?_)))
   refine za2 ?_
   replace h:=zbz 13 6 [(0,vI k),(4,vp 5 0),(5,.t (.c (.own 6 (out++[x1]).length))),(8,(vFs fs)),(9,vN fs.length),(10,vI ((j:Int)+1))] [(5,.box zF0),(6,.row 60 6 ((out++[x1]).map za1.d))] h
   refine zaj (x:=(j,out)) (y:=(j+1,(out++[x1]))) h ?_ ?_
   ·have:=zag hx1
    have hdn:=zbb hx1
    have hxn:=za1.nodes_eq x1
    have p0:¬ k=4:=by have:=hc15;simpa using this
    have p1: k=5:=by have:=hc16;simpa using this
    have p2:¬ x1.kind=0:=by have:=hc18;simpa using this
    have p3:¬ x1.kind=1:=by have:=hc20;simpa using this
    have p4:¬ x1.kind=k:=by have:=hc22;simpa using this
    exact ⟨by omega,by rw [hI2,zb3 hx1,if_neg (by omega),if_neg (by omega),if_neg (by omega)],by first | omega | (rw [zbf];(try rw [zbm]);omega)⟩
   show fs.length - (j+1)<fs.length - j
   have:=zag hx1;omega
  have hc23:=hc;clear hc
  have hc23':=hc23;(try simp at hc23')
  refine rnk za0 14 [(1,.cmp (op:=.eql) (m:=k) (n:=5) (b:=false) .i64 hc23)] [(0,vI k),(4,vp 5 0),(5,.t (.c (.own 6 out.length))),(7,vp 7 0),(8,(vFs fs)),(9,vN fs.length),(10,vN j),(18,vb false)] h fun a w h=>?_
  refine za2 ?_
  refine zah false h rfl nofun (fun _=>?_)
  rcases Bool.eq_false_or_eq_true (x1.kind == 0) with hc | hc
  ·have hc24:=hc;clear hc
   have hc24':=hc24;(try simp at hc24')
   refine rqk za0 14 [(2,.cmp (op:=.eql) (m:=x1.kind) (n:=0) (b:=true) .i64 hc24)] [(0,vI k),(4,vp 5 0),(5,.t (.c (.own 6 out.length))),(7,vp 7 0),(8,(vFs fs)),(9,vN fs.length),(10,vN j),(34,vb true)] h fun a w h=>?_
   refine zah true h rfl (fun _=>?_) nofun
   refine wp_skip (zaa (zaa (za2 (rn za0 14 [(0,.j1 j)] [(0,vI k),(4,vp 5 0),(5,.t (.c (.own 6 out.length))),(8,(vFs fs)),(9,vN fs.length),(10,vI ((j:Int)+1))] [(5,.box zF0),(6,.row 60 6 (out.map za1.d))] h fun a w h=>?_))))
   refine za2 ?_
   refine zaj (x:=(j,out)) (y:=(j+1,out)) h ?_ ?_
   ·have:=zag hx1
    have hdn:=zbb hx1
    have hxn:=za1.nodes_eq x1
    have p0:¬ k=4:=by have:=hc15;simpa using this
    have p1:¬ k=5:=by have:=hc23;simpa using this
    have p2: x1.kind=0:=by have:=hc24;simpa using this
    exact ⟨by omega,by rw [hI2,zb3 hx1,if_neg (by omega),if_pos (by omega)],by first | omega | (rw [zbf];(try rw [zbm]);omega)⟩
   show fs.length - (j+1)<fs.length - j
   have:=zag hx1;omega
  have hc25:=hc;clear hc
  have hc25':=hc25;(try simp at hc25')
  refine rqk za0 14 [(2,.cmp (op:=.eql) (m:=x1.kind) (n:=0) (b:=false) .i64 hc25)] [(0,vI k),(4,vp 5 0),(5,.t (.c (.own 6 out.length))),(7,vp 7 0),(8,(vFs fs)),(9,vN fs.length),(10,vN j),(34,vb (x1.kind == 1))] h fun a w h=>?_
  refine zah (x1.kind == 1) h rfl (fun hc26=>?_) (fun hc27=>?_)
  ·have hc26':=hc26;(try simp at hc26')
   refine wp_skip (zaa (zaa (za2 (rn za0 14 [(0,.j1 j)] [(0,vI k),(4,vp 5 0),(5,.t (.c (.own 6 out.length))),(8,(vFs fs)),(9,vN fs.length),(10,vI ((j:Int)+1))] [(5,.box zF0),(6,.row 60 6 (out.map za1.d))] h fun a w h=>?_))))
   refine za2 ?_
   refine zaj (x:=(j,out)) (y:=(j+1,out)) h ?_ ?_
   ·have:=zag hx1
    have hdn:=zbb hx1
    have hxn:=za1.nodes_eq x1
    have p0:¬ k=4:=by have:=hc15;simpa using this
    have p1:¬ k=5:=by have:=hc23;simpa using this
    have p2:¬ x1.kind=0:=by have:=hc25;simpa using this
    have p3: x1.kind=1:=by have:=hc26;simpa using this
    exact ⟨by omega,by rw [hI2,zb3 hx1,if_neg (by omega),if_pos (by omega)],by first | omega | (rw [zbf];(try rw [zbm]);omega)⟩
   show fs.length - (j+1)<fs.length - j
   have:=zag hx1;omega
  have hc27':=hc27;(try simp at hc27')
  refine rqk za0 14 [] [(0,vI k),(4,vp 5 0),(5,.t (.c (.own 6 out.length))),(7,vp 7 0),(8,(vFs fs)),(9,vN fs.length),(10,vN j),(43,vb (x1.kind == k))] h fun a w h=>?_
  refine zah (x1.kind == k) h rfl (fun hc28=>?_) (fun hc29=>?_)
  ·have hc28':=hc28;(try simp at hc28')
   refine rn za0 14 [(3,.g (aD 51 48 50 6 14 out x1.kids za1.d la_7 (by simp [za1.d_len])))] [(0,vI k),(4,vp 5 0),(5,.t (.c (.own 14 (out++x1.kids).length))),(8,(vFs fs)),(9,vN fs.length),(10,vN j)] [(5,.box zF0),(14,.row 60 6 ((out++x1.kids).map za1.d))] h fun a w h=>?_
   refine zaa (zaa (za2 (rnk za0 15 [(0,.j1 j)] [(0,vI k),(4,vp 5 0),(5,.t (.c (.own 14 (out++x1.kids).length))),(8,(vFs fs)),(9,vN fs.length),(10,vI ((j:Int)+1))] h fun a w h=>?_)))
   refine za2 ?_
   replace h:=zbz 14 6 [(0,vI k),(4,vp 5 0),(5,.t (.c (.own 6 (out++x1.kids).length))),(8,(vFs fs)),(9,vN fs.length),(10,vI ((j:Int)+1))] [(5,.box zF0),(6,.row 60 6 ((out++x1.kids).map za1.d))] h
   refine zaj (x:=(j,out)) (y:=(j+1,(out++x1.kids))) h ?_ ?_
   ·have:=zag hx1
    have hdn:=zbb hx1
    have hxn:=za1.nodes_eq x1
    have p0:¬ k=4:=by have:=hc15;simpa using this
    have p1:¬ k=5:=by have:=hc23;simpa using this
    have p2:¬ x1.kind=0:=by have:=hc25;simpa using this
    have p3:¬ x1.kind=1:=by have:=hc27;simpa using this
    have p4: x1.kind=k:=by have:=hc28;simpa using this
    exact ⟨by omega,by rw [hI2,zb3 hx1,if_neg (by omega),if_neg (by omega),if_pos (by omega)],by first | omega | (rw [zbf];(try rw [zbm]);omega)⟩
   show fs.length - (j+1)<fs.length - j
   have:=zag hx1;omega
  have hc29':=hc29;(try simp at hc29')
  refine rn za0 15 [(2,.g (bD 16 ([x1].map za1.d) [(15,(vF x1))] kb_1 (.cons (i:=0) (OV.tmp 15 _) (.nil)) (by simp only [List.map_cons,List.map_nil,List.flatten_cons,List.flatten_nil,List.append_nil,za1.d_eq];kernel_rfl) (by simp [za1.d_len]))),(3,.g (aD 17 14 16 6 15 out [x1] za1.d la_7 (by simp [za1.d_len])))] [(0,vI k),(4,vp 5 0),(5,.t (.c (.own 15 (out++[x1]).length))),(8,(vFs fs)),(9,vN fs.length),(10,vN j)] [(5,.box zF0),(15,.row 60 6 ((out++[x1]).map za1.d))] h fun a w h=>?_
  refine zaa (zaa (za2 (rnk za0 16 [(0,.j1 j)] [(0,vI k),(4,vp 5 0),(5,.t (.c (.own 15 (out++[x1]).length))),(8,(vFs fs)),(9,vN fs.length),(10,vI ((j:Int)+1))] h fun a w h=>?_)))
  refine za2 ?_
  replace h:=zbz 15 6 [(0,vI k),(4,vp 5 0),(5,.t (.c (.own 6 (out++[x1]).length))),(8,(vFs fs)),(9,vN fs.length),(10,vI ((j:Int)+1))] [(5,.box zF0),(6,.row 60 6 ((out++[x1]).map za1.d))] h
  refine zaj (x:=(j,out)) (y:=(j+1,(out++[x1]))) h ?_ ?_
  ·have:=zag hx1
   have hdn:=zbb hx1
   have hxn:=za1.nodes_eq x1
   have p0:¬ k=4:=by have:=hc15;simpa using this
   have p1:¬ k=5:=by have:=hc23;simpa using this
   have p2:¬ x1.kind=0:=by have:=hc25;simpa using this
   have p3:¬ x1.kind=1:=by have:=hc27;simpa using this
   have p4:¬ x1.kind=k:=by have:=hc29;simpa using this
   exact ⟨by omega,by rw [hI2,zb3 hx1,if_neg (by omega),if_neg (by omega),if_neg (by omega)],by first | omega | (rw [zbf];(try rw [zbm]);omega)⟩
  show fs.length - (j+1)<fs.length - j
  have:=zag hx1;omega
 refine wp_exit (zab (zab (za7 (za2 (wp_seq (rqk za0 16 [] [(0,vI k),(4,vp 5 0),(5,.t (.c (.own 6 out.length))),(54,vN out.length)] h fun a w h=>?_))))))
 refine wp_block (rqk za0 16 [] [(0,vI k),(4,vp 5 0),(5,.t (.c (.own 6 out.length))),(54,vN out.length),(55,vb ((out.length:Int) == 0))] h fun a w h=>?_)
 refine zah ((out.length:Int) == 0) h rfl (fun hc31=>?_) (fun hc32=>?_)
 ·have hc31':=hc31;(try simp at hc31')
  refine rq za0 16 [(2,.call (LTruth (k == 4)) la_8)] [(0,vI k),(4,vp 5 0),(5,.t (.c (.own 6 out.length)))] [(5,.box (zF (zcf (k == 4)))),(6,.row 60 6 (out.map za1.d))] h fun a w h=>?_
  refine wp_ret (zad (za8 ?_))
  refine rA 5 (zF (zcf (k == 4))) h zd2 rfl rfl rfl rfl rfl ?_
  have hdz:fs.drop j=[]:=List.drop_of_length_le (by omega)
  have hz:zdj k fs=zcf (k == 4):=by rw [hI2,hdz];exact join_nil (by have:=hc31;simp at this;first | omega | (rw [this];rfl))
  rw [hz];first | done | rfl
 have hc32':=hc32;(try simp at hc32')
 refine rqk za0 16 [] [(0,vI k),(4,vp 5 0),(5,.t (.c (.own 6 out.length))),(60,vb ((out.length:Int) == 1))] h fun a w h=>?_
 refine zah ((out.length:Int) == 1) h rfl (fun hc33=>?_) (fun hc34=>?_)
 ·have hc33':=hc33;(try simp at hc33')
  obtain ⟨x3,hx3⟩:=gl out 0
  refine rq za0 16 [(1,.g (xO 63 62 6 out.length 0 zhj (OV.const (.int .i64 0) rfl))),(2,.g (Op.loadR_agg (d:=64) (t:=63) (n:=6) (i:=0) (fo:=0) (rty:=60) (es:=6) (xs:=[.raw (.int .i64 x3.kind),.sl 3 (x3.r.t.parts.map za4.d),.raw (.bool x3.r.t.k.neg),nsl x3.r.t.k.abs,.raw (.bool x3.r.eq),.sl 6 (x3.kids.map za1.d)]) zd2 rfl ((zaf hx3 (f:=za1.d)).trans (congrArg some (za1.d_eq x3))) rfl rfl))] [(0,vI k),(4,vp 5 0),(5,.t (.c (.own 6 out.length)))] [(5,.box (zF x3)),(6,.row 60 6 (out.map za1.d))] h fun a w h=>?_
  refine wp_ret (zad (za8 ?_))
  refine rA 5 (zF x3) h zd2 rfl rfl rfl rfl rfl ?_
  have hdz:fs.drop j=[]:=List.drop_of_length_le (by omega)
  have hz:zdj k fs=x3:=by rw [hI2,hdz];exact join_one (by have:=hc33;simp at this;omega) hx3
  rw [hz];first | done | rfl
 have hc34':=hc34;(try simp at hc34')
 refine wp_skip (zaa (za2 (rq za0 16 [] [(4,vp 5 0)] [(5,.box [cI k,.d (.raw zae),cB false,.d (nsl []),cB false,.own 6 out.length]),(6,.row 60 6 (out.map za1.d))] h fun a w h=>?_)))
 refine wp_ret ?_
 replace h:=zbo 5 1 3 [cI k,.d (.raw zae),cB false,.d (nsl []),cB false,.own 6 out.length] [(4,vp 5 0)] [(5,.box [cI k,cPs [],cB false,.d (nsl []),cB false,.own 6 out.length]),(6,.row 60 6 (out.map za1.d))] h rfl rfl
 replace h:=zgn 6 6 60 (out.map za1.d) [(4,vp 5 0)] [(5,.box [cI k,cPs [],cB false,.d (nsl []),cB false,cFs out])] h rfl trivial (show zbt _ [out.length] from ⟨by first | exact (List.length_map _).symm | (simp;done) | (simp;omega),trivial⟩)
 refine rA 5 [cI k,cPs [],cB false,.d (nsl []),cB false,cFs out] h zd2 rfl rfl rfl rfl rfl ?_
 have hdz:fs.drop j=[]:=List.drop_of_length_le (by omega)
 have hz:zdj k fs=⟨k,zR,out⟩:=by rw [hI2,hdz];exact join_two (fun e=>by have:=hc32;rw [e] at this;simp at this) (fun e=>by have:=hc34;rw [e] at this;simp at this)
 rw [hz];first | done | rfl
theorem deny_len (r:zac):(zap r).length≤2:=by unfold zap;split <;> simp
theorem tight_sum (r:zac):(((zap r).map zav).map za1.nodes).sum≤1000000:=by
 rw [List.map_map]
 have e:(za1.nodes ∘ zav)=fun _=>1:=funext fun q=>zef q
 rw [e]
 have h2:((zap r).map fun _=>(1:Nat)).sum≤2:=by unfold zap;split <;> simp
 omega
theorem zgw {f:za1} (h4:f.kind=4∨f.kind=5) (d:Bool) (hw:f.wid≤1000000):((f.kids.map fun g=>g.flat d).map za1.nodes).sum≤1000000:=by
 obtain ⟨k,r,ks⟩:=f
 exact Nat.le_trans (flats_nodes h4 (r:=r) d hw) hw
theorem flat_0 {f:za1} {d:Bool} (h:f.kind=0):f.flat d=zcf (!d):=by rw [za1.flat_eq,h];rfl
theorem flat_2f {f:za1} {d:Bool} (h:f.kind=2) (hd:d=false):f.flat d=zav f.r:=by rw [za1.flat_eq,h,hd];rfl
theorem flat_2t {f:za1} {d:Bool} (h:f.kind=2) (hd:d=true):f.flat d=zdj 5 ((zap f.r).map zav):=by rw [za1.flat_eq,h,hd];rfl
theorem flat_3n {f:za1} {d:Bool} (h:f.kind=3) (hl:f.kids.length=0):f.flat d=zcf d:=by rw [za1.flat_eq,h,List.length_eq_zero_iff.1 hl];rfl
theorem flat_3c {f g:za1} {d:Bool} (h:f.kind=3) (hg:f.kids[0]?=some g):f.flat d=g.flat (!d):=by
 obtain ⟨tl,e⟩:=zho hg
 rw [za1.flat_eq,h,e];rfl
theorem flat_45 {f:za1} {d:Bool} (h:f.kind=4∨f.kind=5):f.flat d=zdj (if d=true then 9 - f.kind else f.kind) (f.kids.map fun g=>g.flat d):=by
 rw [za1.flat_eq];unfold zge
 rw [if_neg (by omega),if_neg (by omega),if_neg (by omega),if_pos h,List.map_map];rfl
theorem flat_x {f:za1} {d:Bool} (h0:f.kind≠0) (h2:f.kind≠2) (h3:f.kind≠3) (h4:f.kind≠4) (h5:f.kind≠5):f.flat d=zcf d:=by
 rw [za1.flat_eq];unfold zge
 rw [if_neg h0,if_neg h2,if_neg h3,if_neg (by omega)]
theorem Lflats (fs:List za1) (d:Bool) (hfl:∀ g ∈ fs,Fn Tryz.prog 61 [] [(vF g),vb d] (vF (za1.flat g d)) []) (hl:fs.length≤1000000):Fn Tryz.prog 97 [] [(vFs fs),vb d] (vFs (fs.map (fun g=>za1.flat g d))) []:=by
 refine Fn.body Tryz.func97 rfl 22 rfl fun w H B a h=>?_
 refine rq za0 5 [] [(0,(vFs fs)),(1,vb d),(4,.t (.c (.d (.raw zae))))] [] h fun a w h=>?_
 refine rq za0 5 [] [(0,(vFs fs)),(1,vb d),(4,.t (.c (.d (.raw zae)))),(5,.t (.c (.d (.raw zae))))] [] h fun a w h=>?_
 refine wp_seq (rq za0 5 [(1,.len (za9 6 za1.d fs))] [(1,vb d),(4,.t (.c (.d (.raw zae)))),(5,.t (.c (.d (.raw zae)))),(8,(vFs fs)),(9,vN fs.length),(10,vI 0)] [] h fun a w h=>?_)
 refine wp_block ?_
 replace h:=zev 5 0 5 6 60 (.t (.c (.d (.raw zae)))) [(1,vb d),(4,.t (.c (.d (.raw zae)))),(5,.t (.c (.own 5 0))),(8,(vFs fs)),(9,vN fs.length),(10,vI 0)] [(5,.row 60 6 ([].map za1.d))] h (by kernel_rfl) rfl rfl
 refine zau (ι:=(Nat)) (fun j=>j≤fs.length)
   (fun j=>[(1,vb d),(4,.t (.c (.d (.raw zae)))),(5,.t (.c (.own 5 ((fs.take j).map (fun g=>za1.flat g d)).length))),(8,(vFs fs)),(9,vN fs.length),(10,vN j)])
   (fun j=>[(5,.row 60 6 (((fs.take j).map (fun g=>za1.flat g d)).map za1.d))])
   (fun j=>fs.length - j) 0 ?_ h (by kernel_rfl) (by kernel_rfl) ?_
 ·exact Nat.zero_le _
 clear h;rintro j a w hI h
 have lmj:((fs.take j).map (fun g=>za1.flat g d)).length≤j:=by rw [List.length_map,List.length_take];omega
 refine rqk za0 6 [] [(1,vb d),(4,.t (.c (.d (.raw zae)))),(5,.t (.c (.own 5 ((fs.take j).map (fun g=>za1.flat g d)).length))),(8,(vFs fs)),(9,vN fs.length),(10,vN j),(11,vb (decide ((j:Int)<(fs.length:Int))))] h fun a w h=>?_
 refine wp_seq ?_
 refine zam ((j:Int)<(fs.length:Int)) h rfl (fun hc1 hc1'=>?_) (fun hc2 hc2'=>?_)
 ·refine wp_skip (za2 (wp_seq (wp_block ?_)))
  obtain ⟨x1,hx1⟩:=gl fs j
  refine rq za0 6 [(0,.g (xD 12 8 zhj ((zaf hx1 (f:=za1.d)).trans (congrArg some (za1.d_eq x1))) (OV.tmp 10 _)))] [(1,vb d),(4,.t (.c (.d (.raw zae)))),(5,.t (.c (.own 5 ((fs.take j).map (fun g=>za1.flat g d)).length))),(7,vp 6 0),(8,(vFs fs)),(9,vN fs.length),(10,vN j)] [(5,.row 60 6 (((fs.take j).map (fun g=>za1.flat g d)).map za1.d)),(6,.box (zF x1))] h fun a w h=>?_
  refine rn za0 7 [(3,.call (hfl x1 (lM hx1)) ld4_5),(4,.g (bD 18 ([(za1.flat x1 d)].map za1.d) [(17,(vF (za1.flat x1 d)))] kb_1 (.cons (i:=0) (OV.tmp 17 _) (.nil)) (by simp only [List.map_cons,List.map_nil,List.flatten_cons,List.flatten_nil,List.append_nil,za1.d_eq];kernel_rfl) (by simp [za1.d_len]))),(5,.g (aD 19 14 18 5 7 ((fs.take j).map (fun g=>za1.flat g d)) [(za1.flat x1 d)] za1.d la_7 (by simp [za1.d_len])))] [(1,vb d),(4,.t (.c (.d (.raw zae)))),(5,.t (.c (.own 7 (((fs.take j).map (fun g=>za1.flat g d))++[(za1.flat x1 d)]).length))),(8,(vFs fs)),(9,vN fs.length),(10,vN j)] [(7,.row 60 6 ((((fs.take j).map (fun g=>za1.flat g d))++[(za1.flat x1 d)]).map za1.d))] h fun a w h=>?_
  refine zaa (za2 (rnk za0 8 [(0,.j1 j)] [(1,vb d),(4,.t (.c (.d (.raw zae)))),(5,.t (.c (.own 7 (((fs.take j).map (fun g=>za1.flat g d))++[(za1.flat x1 d)]).length))),(8,(vFs fs)),(9,vN fs.length),(10,vI ((j:Int)+1))] h fun a w h=>?_))
  refine za2 ?_
  rw [show ((((fs.take j).map (fun g=>za1.flat g d))++[(za1.flat x1 d)]):List za1)=((fs.take (j+1)).map (fun g=>za1.flat g d)) from (zbn hx1)] at h
  replace h:=zbz 7 5 [(1,vb d),(4,.t (.c (.d (.raw zae)))),(5,.t (.c (.own 5 ((fs.take (j+1)).map (fun g=>za1.flat g d)).length))),(8,(vFs fs)),(9,vN fs.length),(10,vI ((j:Int)+1))] [(5,.row 60 6 (((fs.take (j+1)).map (fun g=>za1.flat g d)).map za1.d))] h
  refine zaj (x:=j) (y:=j+1) h ?_ ?_
  ·have:=zag hx1
   show j+1≤fs.length
   omega
  show fs.length - (j+1)<fs.length - j
  have:=zag hx1;omega
 refine wp_exit (zab (zab (za7 (za2 (rqk za0 8 [] [(4,.t (.c (.own 5 ((fs.take j).map (fun g=>za1.flat g d)).length)))] h fun a w h=>?_)))))
 refine wp_ret ?_
 rw [show (((fs.take j).map (fun g=>za1.flat g d)):List za1)=(fs.map (fun g=>za1.flat g d)) from (by rw [List.take_of_length_le (by omega)])] at h
 replace h:=zgn 5 6 60 ((fs.map (fun g=>za1.flat g d)).map za1.d) [(4,(vFs (fs.map (fun g=>za1.flat g d))))] [] h rfl (show zbt _ [(fs.map (fun g=>za1.flat g d)).length] from ⟨by first | exact (List.length_map _).symm | (simp;done) | (simp;omega),trivial⟩) trivial
 refine rT (.c (cFs (fs.map (fun g=>za1.flat g d)))) h rfl rfl ?_
 rfl
theorem Lflat0 (f:za1) (d:Bool) (ih:∀ g ∈ cnt f.kind f.kids,∀ d:Bool,Fn Tryz.prog 61 [] [(vF g),vb d] (vF (za1.flat g d)) []) (hf:f.okB 300 2000) (hw:f.wid≤1000000):Fn Tryz.prog 61 [] [(vF f),vb d] (vF (za1.flat f d)) []:=by
 have ldn:=deny_len f.r
 have lkm:=zgt hf
 refine Fn.body Tryz.func61 rfl 69 rfl fun w H B a h=>?_
 refine rq za0 5 [] [(1,vb d),(2,vp 5 0),(4,vp 6 0)] [(5,.box (zF f)),(6,.box zF0)] h fun a w h=>?_
 refine wp_seq (rqk za0 7 [] [(1,vb d),(2,vp 5 0),(4,vp 6 0),(10,vI f.kind)] h fun a w h=>?_)
 refine wp_block (rqk za0 7 [] [(1,vb d),(2,vp 5 0),(4,vp 6 0),(10,vI f.kind),(11,vb (f.kind == 0))] h fun a w h=>?_)
 refine zah (f.kind == 0) h rfl (fun hc1=>?_) (fun hc2=>?_)
 ·have hc1':=hc1;(try simp at hc1')
  refine rq za0 7 [(2,.call (LTruth (!d)) la_8)] [(1,vb d),(4,vp 6 0)] [(6,.box (zF (zcf (!d))))] h fun a w h=>?_
  refine wp_ret (zad (za8 ?_))
  refine rA 6 (zF (zcf (!d))) h zd2 rfl rfl rfl rfl rfl ?_
  rw [flat_0 (by have:=hc1;simpa using this)];first | done | rfl
 have hc2':=hc2;(try simp at hc2')
 refine rqk za0 7 [] [(1,vb d),(2,vp 5 0),(4,vp 6 0),(10,vI f.kind),(16,vb (f.kind == 2))] h fun a w h=>?_
 refine zah (f.kind == 2) h rfl (fun hc3=>?_) (fun hc8=>?_)
 ·have hc3':=hc3;(try simp at hc3')
  refine wp_seq (rqk za0 7 [] [(1,vb d),(2,vp 5 0),(4,vp 6 0),(19,vb (!d))] h fun a w h=>?_)
  refine zah (!d) h rfl (fun hc4=>?_) (fun hc5=>?_)
  ·have hc4':=hc4;(try simp at hc4')
   refine rq za0 7 [(2,.call (LtightF f.r ((rel_ok hf hc3).mono (by decide) (by decide))) ld4_6)] [(1,vb d),(2,vp 5 0),(4,vp 6 0)] [(5,.box (zF f)),(6,.box (zF (zav f.r)))] h fun a w h=>?_
   refine wp_ret (za8 (zad (za8 ?_)))
   refine rA 6 (zF (zav f.r)) h zd2 rfl rfl rfl rfl rfl ?_
   rw [flat_2f (by have:=hc3;simpa using this) (show (d)=false from by simpa using hc4)];first | done | rfl
  have hc5':=hc5;(try simp at hc5')
  refine wp_skip (za2 (rqk za0 7 [] [(1,vb d),(2,vp 5 0),(4,vp 6 0),(5,.t (.c (.d (.raw zae))))] h fun a w h=>?_))
  refine wp_seq (rq za0 7 [(2,.call (LrDeny f.r (rel_ok hf hc3)) ld4_7),(3,.len (za9 4 zac.d (zap f.r)))] [(1,vb d),(4,vp 6 0),(5,.t (.c (.d (.raw zae)))),(25,(vRs (zap f.r))),(26,vI ((zap f.r).length:Int)),(27,vI 0)] [(6,.box zF0)] h fun a w h=>?_)
  refine wp_block ?_
  replace h:=zev 5 0 7 6 60 (.t (.c (.d (.raw zae)))) [(1,vb d),(4,vp 6 0),(5,.t (.c (.own 7 0))),(25,(vRs (zap f.r))),(26,vI ((zap f.r).length:Int)),(27,vI 0)] [(6,.box zF0),(7,.row 60 6 ([].map za1.d))] h (by kernel_rfl) rfl rfl
  refine zau (ι:=(Nat)) (fun j=>j≤(zap f.r).length)
    (fun j=>[(1,vb d),(4,vp 6 0),(5,.t (.c (.own 7 (((zap f.r).take j).map zav).length))),(25,(vRs (zap f.r))),(26,vI ((zap f.r).length:Int)),(27,vN j)])
    (fun j=>[(6,.box zF0),(7,.row 60 6 ((((zap f.r).take j).map zav).map za1.d))])
    (fun j=>(zap f.r).length - j) 0 ?_ h (by kernel_rfl) (by kernel_rfl) ?_
  ·exact Nat.zero_le _
  clear h;rintro j a w hI h
  have lmj:(((zap f.r).take j).map zav).length≤j:=by rw [List.length_map,List.length_take];omega
  refine rqk za0 8 [] [(1,vb d),(4,vp 6 0),(5,.t (.c (.own 7 (((zap f.r).take j).map zav).length))),(25,(vRs (zap f.r))),(26,vI ((zap f.r).length:Int)),(27,vN j),(28,vb (decide ((j:Int)<((zap f.r).length:Int))))] h fun a w h=>?_
  refine wp_seq ?_
  refine zam ((j:Int)<((zap f.r).length:Int)) h rfl (fun hc6 hc6'=>?_) (fun hc7 hc7'=>?_)
  ·refine wp_skip (za2 (wp_seq (wp_block ?_)))
   obtain ⟨x4,hx4⟩:=gl (zap f.r) j
   refine rq za0 8 [(0,.g (xD 29 25 kc_3 (zaf hx4 (f:=zac.d)) (OV.tmp 27 _)))] [(1,vb d),(4,vp 6 0),(5,.t (.c (.own 7 (((zap f.r).take j).map zav).length))),(7,vp 8 0),(25,(vRs (zap f.r))),(26,vI ((zap f.r).length:Int)),(27,vN j)] [(6,.box zF0),(7,.row 60 6 ((((zap f.r).take j).map zav).map za1.d)),(8,.box (zR_ x4))] h fun a w h=>?_
   refine rn za0 9 [(2,.call (LtightF x4 ((ziw (rel_ok hf hc3) (by decide) x4 (lM hx4)).mono (by decide) (by decide))) ld4_6),(3,.g (bD 34 ([(zav x4)].map za1.d) [(33,(vF (zav x4)))] kb_1 (.cons (i:=0) (OV.tmp 33 _) (.nil)) (by simp only [List.map_cons,List.map_nil,List.flatten_cons,List.flatten_nil,List.append_nil,za1.d_eq];kernel_rfl) (by simp [za1.d_len]))),(4,.g (aD 35 31 34 7 9 (((zap f.r).take j).map zav) [(zav x4)] za1.d la_7 (by simp [za1.d_len])))] [(1,vb d),(4,vp 6 0),(5,.t (.c (.own 9 ((((zap f.r).take j).map zav)++[(zav x4)]).length))),(25,(vRs (zap f.r))),(26,vI ((zap f.r).length:Int)),(27,vN j)] [(6,.box zF0),(9,.row 60 6 (((((zap f.r).take j).map zav)++[(zav x4)]).map za1.d))] h fun a w h=>?_
   refine zaa (za2 (rnk za0 10 [(0,.j1 j)] [(1,vb d),(4,vp 6 0),(5,.t (.c (.own 9 ((((zap f.r).take j).map zav)++[(zav x4)]).length))),(25,(vRs (zap f.r))),(26,vI ((zap f.r).length:Int)),(27,vI ((j:Int)+1))] h fun a w h=>?_))
   refine za2 ?_
   rw [show (((((zap f.r).take j).map zav)++[(zav x4)]):List za1)=(((zap f.r).take (j+1)).map zav) from (zbn hx4)] at h
   replace h:=zbz 9 7 [(1,vb d),(4,vp 6 0),(5,.t (.c (.own 7 (((zap f.r).take (j+1)).map zav).length))),(25,(vRs (zap f.r))),(26,vI ((zap f.r).length:Int)),(27,vI ((j:Int)+1))] [(6,.box zF0),(7,.row 60 6 ((((zap f.r).take (j+1)).map zav).map za1.d))] h
   refine zaj (x:=j) (y:=j+1) h ?_ ?_
   ·have:=zag hx4
    show j+1≤(zap f.r).length
    omega
   show (zap f.r).length - (j+1)<(zap f.r).length - j
   have:=zag hx4;omega
  refine wp_exit (zab (zab (za7 (za2 ?_))))
  rw [show ((((zap f.r).take j).map zav):List za1)=((zap f.r).map zav) from (by rw [List.take_of_length_le (by omega)])] at h
  replace h:=zgn 7 6 60 (((zap f.r).map zav).map za1.d) [(1,vb d),(4,vp 6 0),(5,(vFs ((zap f.r).map zav))),(25,(vRs (zap f.r))),(26,vI ((zap f.r).length:Int)),(27,vN j),(28,vb (decide ((j:Int)<((zap f.r).length:Int))))] [(6,.box zF0)] h rfl (show zbt _ [((zap f.r).map zav).length] from ⟨by first | exact (List.length_map _).symm | (simp;done) | (simp;omega),trivial⟩) trivial
  refine rq za0 10 [(1,.call (Ljoin 5 ((zap f.r).map zav) (.inr rfl) (tight_sum f.r)) ld4_9)] [(1,vb d),(4,vp 6 0)] [(6,.box (zF (zdj 5 ((zap f.r).map zav))))] h fun a w h=>?_
  refine wp_ret (zad (za8 ?_))
  refine rA 6 (zF (zdj 5 ((zap f.r).map zav))) h zd2 rfl rfl rfl rfl rfl ?_
  rw [flat_2t (by have:=hc3;simpa using this) (show (d)=true from by simpa using hc5)];first | done | rfl
 have hc8':=hc8;(try simp at hc8')
 refine rqk za0 10 [] [(1,vb d),(2,vp 5 0),(4,vp 6 0),(10,vI f.kind),(39,vb (f.kind == 3))] h fun a w h=>?_
 refine zah (f.kind == 3) h rfl (fun hc9=>?_) (fun hc12=>?_)
 ·have hc9':=hc9;(try simp at hc9')
  refine rqk za0 10 [(2,.len (za9 6 za1.d f.kids))] [(1,vb d),(2,vp 5 0),(4,vp 6 0),(44,vb (decide ((f.kids.length:Int)>0)))] h fun a w h=>?_
  refine zam ((f.kids.length:Int)>0) h rfl (fun hc10 hc10'=>?_) (fun hc11 hc11'=>?_)
  ·obtain ⟨x7,hx7⟩:=gl f.kids 0
   refine rq za0 10 [(2,.g (xD 47 46 zhj ((zaf hx7 (f:=za1.d)).trans (congrArg some (za1.d_eq x7))) (OV.const (.int .i64 0) rfl))),(6,.call (ih x7 (by unfold cnt;rw [if_neg (by omega),if_pos (by omega)];exact zf7 hx7) (!d)) ld4_5)] [(1,vb d),(4,vp 6 0)] [(6,.box (zF (za1.flat x7 (!d))))] h fun a w h=>?_
   refine wp_ret (zad (za8 ?_))
   refine rA 6 (zF (za1.flat x7 (!d))) h zd2 rfl rfl rfl rfl rfl ?_
   rw [flat_3c (by have:=hc9;simpa using this) hx7];first | done | rfl
  refine wp_skip (zaa (za2 (rq za0 10 [(1,.call (LTruth d) la_8)] [(4,vp 6 0)] [(6,.box (zF (zcf d)))] h fun a w h=>?_)))
  refine wp_ret ?_
  refine rA 6 (zF (zcf d)) h zd2 rfl rfl rfl rfl rfl ?_
  rw [flat_3n (by have:=hc9;simpa using this) (by have:=hc11;simp at this;first | omega | (rw [this];rfl))];first | done | rfl
 have hc12':=hc12;(try simp at hc12')
 refine wp_seq (rqk za0 10 [] [(1,vb d),(2,vp 5 0),(4,vp 6 0),(10,vI f.kind),(52,vb (f.kind == 4))] h fun a w h=>?_)
 refine zah (f.kind == 4) h rfl (fun hc13=>?_) (fun hc16=>?_)
 ·have hc13':=hc13;(try simp at hc13')
  refine wp_skip (za2 ?_)
  refine zah (f.kind == 4) h rfl (fun hc=>?_) (fun hc=>?_)
  ·clear hc
   refine rqk za0 10 [] [(1,vb d),(2,vp 5 0),(4,vp 6 0),(8,vI f.kind)] h fun a w h=>?_
   refine wp_seq (rqk za0 10 [] [(1,vb d),(2,vp 5 0),(4,vp 6 0),(8,vI f.kind),(57,vb d)] h fun a w h=>?_)
   refine zah d h rfl (fun hc14=>?_) (fun hc15=>?_)
   ·refine rnk za0 10 [(2,.sub .i64 (m:=9) (n:=f.kind) i6)] [(1,vb d),(2,vp 5 0),(4,vp 6 0),(8,vI (9 - f.kind))] h fun a w h=>?_
    refine za2 (rq za0 10 [(4,.call (Lflats f.kids d (fun g hg=>ih g (by unfold cnt;rw [if_pos (by omega)];exact hg) d) (by have:=zfd hf;unfold cnt at this;rw [if_pos (by omega)] at this;exact this)) ld4_10),(5,.call (Ljoin (9 - f.kind) (f.kids.map (fun g=>za1.flat g d)) (by omega) (zgw (by omega) d hw)) ld4_9)] [(1,vb d),(4,vp 6 0)] [(6,.box (zF (zdj (9 - f.kind) (f.kids.map (fun g=>za1.flat g d)))))] h fun a w h=>?_)
    refine wp_ret (zad (za8 ?_))
    refine rA 6 (zF (zdj (9 - f.kind) (f.kids.map (fun g=>za1.flat g d)))) h zd2 rfl rfl rfl rfl rfl ?_
    rw [flat_45 (by omega),if_pos hc14];first | done | rfl
   refine wp_skip (za2 (rq za0 10 [(4,.call (Lflats f.kids d (fun g hg=>ih g (by unfold cnt;rw [if_pos (by omega)];exact hg) d) (by have:=zfd hf;unfold cnt at this;rw [if_pos (by omega)] at this;exact this)) ld4_10),(5,.call (Ljoin f.kind (f.kids.map (fun g=>za1.flat g d)) (by omega) (zgw (by omega) d hw)) ld4_9)] [(1,vb d),(4,vp 6 0)] [(6,.box (zF (zdj f.kind (f.kids.map (fun g=>za1.flat g d)))))] h fun a w h=>?_))
   refine wp_ret (zad (za8 ?_))
   refine rA 6 (zF (zdj f.kind (f.kids.map (fun g=>za1.flat g d)))) h zd2 rfl rfl rfl rfl rfl ?_
   rw [flat_45 (by omega),if_neg (by rw [hc15];exact Bool.noConfusion)];first | done | rfl
  rw [hc13] at hc;cases hc
 have hc16':=hc16;(try simp at hc16')
 refine rnk za0 10 [] [(1,vb d),(2,vp 5 0),(4,vp 6 0),(52,vb (f.kind == 5))] h fun a w h=>?_
 refine za2 ?_
 refine zah (f.kind == 5) h rfl (fun hc17=>?_) (fun hc20=>?_)
 ·have hc17':=hc17;(try simp at hc17')
  refine rqk za0 10 [] [(1,vb d),(2,vp 5 0),(4,vp 6 0),(8,vI f.kind)] h fun a w h=>?_
  refine wp_seq (rqk za0 10 [] [(1,vb d),(2,vp 5 0),(4,vp 6 0),(8,vI f.kind),(57,vb d)] h fun a w h=>?_)
  refine zah d h rfl (fun hc18=>?_) (fun hc19=>?_)
  ·refine rnk za0 10 [(2,.sub .i64 (m:=9) (n:=f.kind) i6)] [(1,vb d),(2,vp 5 0),(4,vp 6 0),(8,vI (9 - f.kind))] h fun a w h=>?_
   refine za2 (rq za0 10 [(4,.call (Lflats f.kids d (fun g hg=>ih g (by unfold cnt;rw [if_pos (by omega)];exact hg) d) (by have:=zfd hf;unfold cnt at this;rw [if_pos (by omega)] at this;exact this)) ld4_10),(5,.call (Ljoin (9 - f.kind) (f.kids.map (fun g=>za1.flat g d)) (by omega) (zgw (by omega) d hw)) ld4_9)] [(1,vb d),(4,vp 6 0)] [(6,.box (zF (zdj (9 - f.kind) (f.kids.map (fun g=>za1.flat g d)))))] h fun a w h=>?_)
   refine wp_ret (zad (za8 ?_))
   refine rA 6 (zF (zdj (9 - f.kind) (f.kids.map (fun g=>za1.flat g d)))) h zd2 rfl rfl rfl rfl rfl ?_
   rw [flat_45 (by omega),if_pos hc18];first | done | rfl
  refine wp_skip (za2 (rq za0 10 [(4,.call (Lflats f.kids d (fun g hg=>ih g (by unfold cnt;rw [if_pos (by omega)];exact hg) d) (by have:=zfd hf;unfold cnt at this;rw [if_pos (by omega)] at this;exact this)) ld4_10),(5,.call (Ljoin f.kind (f.kids.map (fun g=>za1.flat g d)) (by omega) (zgw (by omega) d hw)) ld4_9)] [(1,vb d),(4,vp 6 0)] [(6,.box (zF (zdj f.kind (f.kids.map (fun g=>za1.flat g d)))))] h fun a w h=>?_))
  refine wp_ret (zad (za8 ?_))
  refine rA 6 (zF (zdj f.kind (f.kids.map (fun g=>za1.flat g d)))) h zd2 rfl rfl rfl rfl rfl ?_
  rw [flat_45 (by omega),if_neg (by rw [hc19];exact Bool.noConfusion)];first | done | rfl
 have hc20':=hc20;(try simp at hc20')
 refine wp_skip (zaa (za2 (rq za0 10 [(1,.call (LTruth d) la_8)] [(4,vp 6 0)] [(6,.box (zF (zcf d)))] h fun a w h=>?_)))
 refine wp_ret ?_
 refine rA 6 (zF (zcf d)) h zd2 rfl rfl rfl rfl rfl ?_
 rw [flat_x (by have:=hc2;simpa using this) (by have:=hc8;simpa using this) (by have:=hc12;simpa using this) (by have:=hc16;simpa using this) (by have:=hc20;simpa using this)];first | done | rfl
theorem Lflat (f:za1):f.okB 300 2000→f.wid≤1000000→∀ d:Bool,Fn Tryz.prog 61 [] [(vF f),vb d] (vF (za1.flat f d)) [] :=
 za1.ind (P:=fun f=>f.okB 300 2000→f.wid≤1000000→∀ d:Bool,Fn Tryz.prog 61 [] [(vF f),vb d] (vF (za1.flat f d)) []) (fun k r ks ih hf hw d=>Lflat0 ⟨k,r,ks⟩ d (fun g hg d=>ih g (zce hg) (kid_ok hf hg) (Nat.le_trans (wid_kid hg) hw) d) hf hw) f
theorem LFlat (f:za1) (hf:f.okB 300 2000) (hw:f.wid≤1000000):Fn Tryz.prog 34 [] [(vF f)] (vF (za1.flat f false)) []:=by
 refine Fn.body Tryz.func34 rfl 5 rfl fun w H B a h=>?_
 refine rq za0 0 [] [(1,vp 0 0),(2,vp 1 0)] [(0,.box (zF f)),(1,.box zF0)] h fun a w h=>?_
 refine rq za0 2 [(1,.call (Lflat f hf hw false) ld4_5)] [(2,vp 1 0)] [(1,.box (zF (za1.flat f false)))] h fun a w h=>?_
 refine wp_ret ?_
 refine rA 1 (zF (za1.flat f false)) h zd2 rfl rfl rfl rfl rfl ?_
 rfl
end
section
open Go.RowKit

def ZOk (L:Nat) (z:ZI):Prop:=Lb z.abs∧z.abs.length≤L
structure ActOk (L:Nat) (a:ActD):Prop where
  guard:a.guard.lb∧a.guard.ok L
  len:a.moves.length≤20
  mv:∀ m ∈ a.moves,TOk 20 L m.t
structure SysOk (L:Nat) (s:SysD):Prop where
  vars:s.vars.length≤8
  bnds:s.bounds.length≤20
  procs:s.procs.length≤6
  acts:s.acts.length≤20
  bnd:∀ b ∈ s.bounds,ZOk L b.lo∧ZOk L b.hi
  init:s.init.lb∧s.init.ok L
  act:∀ a ∈ s.acts,ActOk L a
structure StOk (M:Nat) (x:StD):Prop where
  locs:x.locs.length≤10
  vals:x.vals.length≤10
  val:∀ z ∈ x.vals,ZOk M z
theorem StOk.vok {M:Nat} {x:StD} (h:StOk M x):VOk M x.vals:=⟨Nat.le_trans h.vals (by decide),h.val⟩
theorem StOk.mono {M M':Nat} {x:StD} (h:StOk M x) (hm:M≤M'):StOk M' x:=⟨h.locs,h.vals,fun z hz=>⟨(h.val z hz).1,Nat.le_trans (h.val z hz).2 hm⟩⟩
end
section
open Go.RowKit
end
section
open Go.RowKit
end
section
open Go.RowKit
end
section
open Go.RowKit

theorem SCloneI1 (xs:List Int) (hn:0<xs.length) (hl:xs.length≤1000000):Fn Tryz.prog 50 [] [(vIs xs)] (.t (.c (.own 0 xs.length))) [(0,.row 3 1 (xs.map zaw))]:=by
 refine Fn.body Tryz.func50 rfl 8 rfl fun w H B a h=>?_
 refine rq za0 1 [] [(0,(vIs xs)),(2,.t (.c (.d (.raw zae))))] [] h fun a w h=>?_
 refine wp_seq (rq za0 1 [(1,.g (Op.eqNilD (d:=4) (t:=3) (es:=1) (xt:=24) (yt:=24) (rows:=xs.map zaw) zig.hu ((by rw [List.length_map];exact hn)) (OV.const zae rfl)))] [(0,(vIs xs)),(2,.t (.c (.d (.raw zae)))),(4,vb false)] [] h fun a w h=>?_)
 refine zah false h rfl nofun (fun _=>?_)
 refine wp_skip (za2 (rq za0 1 [(0,.g (Op.buildE (d:=5) (n:=1) tb_0)),(2,.g (Op.appOD (d:=7) (t:=5) (u:=6) (n:=1) (n':=2) (len:=0) (len':=xs.length) (rows:=[].map zaw) (rows2:=xs.map zaw) (rows':=xs.map zaw) tb_2 (by first | exact (List.length_map _).symm | simp) (by first | (rw [List.length_append,List.length_map];done) | simp) (by simp) (by simp [zaw]) (by first | omega | (simp at *;done) | (simp at *;omega))))] [(2,.t (.c (.own 2 xs.length)))] [(2,.row 3 1 (xs.map zaw))] h fun a w h=>?_))
 refine wp_ret ?_
 replace h:=zbz 2 0 [(2,.t (.c (.own 0 xs.length)))] [(0,.row 3 1 (xs.map zaw))] h
 refine rT (.c (.own 0 xs.length)) h rfl rfl ?_
 rfl
theorem SCloneI2 :Fn Tryz.prog 50 [] [.t (.c (.d (.raw zae)))] (.t (.c (.own 0 0))) [(0,.row 3 1 ([].map zaw))]:=by
 refine Fn.body Tryz.func50 rfl 8 rfl fun w H B a h=>?_
 refine rq za0 1 [] [(0,.t (.c (.d (.raw zae)))),(2,.t (.c (.d (.raw zae))))] [] h fun a w h=>?_
 refine wp_seq (rq za0 1 [(1,.g (Op.eqNilR (d:=4) (xt:=24) (yt:=24) (ao:=none) (n:=0) (c:=0) zig.hu (OV.tmp 3 _) (OV.const zae rfl)))] [(0,.t (.c (.d (.raw zae)))),(2,.t (.c (.d (.raw zae)))),(4,vb true)] [] h fun a w h=>?_)
 refine zah true h rfl (fun _=>?_) nofun
 refine rq za0 1 [] [(0,.t (.c (.d (.raw zae)))),(2,.t (.c (.d (.raw zae))))] [] h fun a w h=>?_
 refine wp_ret (za8 ?_)
 replace h:=zev 2 0 1 1 3 (.t (.c (.d (.raw zae)))) [(0,.t (.c (.d (.raw zae)))),(2,.t (.c (.own 1 0)))] [(1,.row 3 1 ([].map zaw))] h (by kernel_rfl) rfl rfl
 replace h:=zbz 1 0 [(0,.t (.c (.d (.raw zae)))),(2,.t (.c (.own 0 0)))] [(0,.row 3 1 ([].map zaw))] h
 refine rT (.c (.own 0 0)) h rfl rfl ?_
 rfl
theorem SCloneI3 (ao:Addr) (c:Nat) (hc:c≤maxLen):Fn Tryz.prog 50 [] [.t (.c (.d (.raw (.slice (some ao) 0 c))))] (.t (.c (.own 0 0))) [(0,.row 3 1 ([].map zaw))]:=by
 refine Fn.body Tryz.func50 rfl 8 rfl fun w H B a h=>?_
 refine rq za0 1 [] [(0,.t (.c (.d (.raw (.slice (some ao) 0 c))))),(2,.t (.c (.d (.raw zae))))] [] h fun a w h=>?_
 refine wp_seq (rq za0 1 [(1,.g (Op.eqNilR (d:=4) (xt:=24) (yt:=24) (ao:=some ao) (n:=0) (c:=c) zig.hu (OV.tmp 3 _) (OV.const zae rfl)))] [(0,.t (.c (.d (.raw (.slice (some ao) 0 c))))),(2,.t (.c (.d (.raw zae)))),(4,vb false)] [] h fun a w h=>?_)
 refine zah false h rfl nofun (fun _=>?_)
 refine wp_skip (za2 ?_)
 replace h:=nilDSr 0 0 1 (.t (.c (.d (.raw (.slice (some ao) 0 c))))) (some ao) c (fun e=>by cases e) hc [(0,(vIs [])),(2,.t (.c (.d (.raw zae)))),(4,vb false)] [] h rfl rfl
 refine rq za0 1 [(0,.g (Op.buildE (d:=5) (n:=1) tb_0)),(2,.g (Op.appOD (d:=7) (t:=5) (u:=6) (n:=1) (n':=2) (len:=0) (len':=0) (rows:=[].map zaw) (rows2:=[].map zaw) (rows':=[].map zaw) tb_2 (by first | exact (List.length_map _).symm | simp) (by first | (rw [List.length_append,List.length_map];done) | simp) (by simp) (by simp [zaw]) (by first | omega | (simp at *;done) | (simp at *;omega))))] [(2,.t (.c (.own 2 0)))] [(2,.row 3 1 ([].map zaw))] h fun a w h=>?_
 refine wp_ret ?_
 replace h:=zbz 2 0 [(2,.t (.c (.own 0 0)))] [(0,.row 3 1 ([].map zaw))] h
 refine rT (.c (.own 0 0)) h rfl rfl ?_
 rfl
theorem SCloneI (xs:List Int) (hl:xs.length≤1000000):Fn Tryz.prog 50 [] [(vIs xs)] (.t (.c (.own 0 xs.length))) [(0,.row 3 1 (xs.map zaw))]:=by
 cases xs with
 | nil =>
  refine Fn.rawE fun ao c h1 h2=>?_
  cases ao with
  | none=>obtain rfl:=h1 rfl;exact SCloneI2
  | some ao=>exact SCloneI3 ao c h2
 | cons x xs=>exact SCloneI1 (x :: xs) (by simp) hl
end
section
open Go.RowKit

theorem le5_0:za6 Tryz.prog 50:=za6.mk' (by kernel_rfl)
theorem zfv:ElZ Tryz.prog 25 4 1:=ElZ.mk' Tryz.underlying25 _ _ rfl rfl (by kernel_rfl) (by kernel_rfl) (by kernel_rfl) (by decide)
theorem zhh:ElT Tryz.prog 25 4 1 1:=ElT.mk' Tryz.underlying25 _ _ rfl rfl (by kernel_rfl) (by kernel_rfl) (by kernel_rfl) (by decide) (by decide)
theorem le5_5:Sz Tryz.prog 27 2 true:=Sz.mk' (by kernel_rfl) Tryz.underlying27 _ rfl
theorem le5_8:za6 Tryz.prog 85:=za6.mk' (by kernel_rfl)
theorem zfu:SlT Tryz.prog 25 4 1:=SlT.mk' Tryz.underlying25 (by kernel_rfl)
theorem le5_10:za6 Tryz.prog 54:=za6.mk' (by kernel_rfl)
theorem le5_13:za6 Tryz.prog 55:=za6.mk' (by kernel_rfl)
structure zcx where
  locs:List Int
  bits:List Bool
def zcx.d (x:zcx):List D:=[.sl 1 (x.locs.map zaw),.sl 1 (x.bits.map za5)]
def ofA (ps:List zac) (x:StD):zcx:=⟨x.locs,ps.map (zar x.vals)⟩
def litF (r:zac) (b:Bool):za1:=if b=true then zb8 r else denyF (zb8 r)
def PsOkR (ps:List zac):Prop:=ps.length≤1000∧∀ r ∈ ps,TokR 10 r
theorem LabsOf (ps:List zac) (x:StD) (hps:PsOkR ps) (hx:StOk 10 x):Fn Tryz.prog 23 [] [(vRs ps),.t (.agg [cIs x.locs,cZs x.vals])] (.t (.agg [cIs (ofA ps x).locs,.d (.sl 1 ((ofA ps x).bits.map za5))])) []:=by
 have lps:=hps.1
 have lxl:=hx.locs
 refine Fn.body Tryz.func23 rfl 29 rfl fun w H B a h=>?_
 refine rq za0 5 [] [(0,(vRs ps)),(3,vp 5 0),(4,vp 6 0)] [(5,.box [cIs x.locs,cZs x.vals]),(6,.box [.d (.raw zae),.d (.raw zae)])] h fun a w h=>?_
 refine rq za0 7 [(2,.call (SCloneI x.locs (by omega)) le5_0)] [(0,(vRs ps)),(3,vp 5 0),(4,vp 6 0),(5,vp 7 0)] [(5,.box [cIs x.locs,cZs x.vals]),(6,.box [.d (.raw zae),.d (.raw zae)]),(0,.row 3 1 (x.locs.map zaw)),(7,.box [.own 0 x.locs.length,.d (.raw zae)])] h fun a w h=>?_
 refine wp_seq (rqk za0 8 [(1,.len (za9 4 zac.d ps))] [(3,vp 5 0),(4,vp 6 0),(5,vp 7 0),(12,(vRs ps)),(13,vN ps.length),(14,vI 0)] h fun a w h=>?_)
 refine wp_block ?_
 replace h:=ze7 7 1 8 1 4 [.own 0 x.locs.length,.d (.raw zae)] [(3,vp 5 0),(4,vp 6 0),(5,vp 7 0),(12,(vRs ps)),(13,vN ps.length),(14,vI 0)] [(5,.box [cIs x.locs,cZs x.vals]),(6,.box [.d (.raw zae),.d (.raw zae)]),(0,.row 3 1 (x.locs.map zaw)),(7,.box [.own 0 x.locs.length,.own 8 0]),(8,.row 4 1 ([].map za5))] h (by kernel_rfl) rfl rfl
 refine zau (ι:=(Nat)) (fun j=>j≤ps.length)
   (fun j=>[(3,vp 5 0),(4,vp 6 0),(5,vp 7 0),(12,(vRs ps)),(13,vN ps.length),(14,vN j)])
   (fun j=>[(5,.box [cIs x.locs,cZs x.vals]),(6,.box [.d (.raw zae),.d (.raw zae)]),(0,.row 3 1 (x.locs.map zaw)),(7,.box [.own 0 x.locs.length,.own 8 ((ps.take j).map (zar x.vals)).length]),(8,.row 4 1 (((ps.take j).map (zar x.vals)).map za5))])
   (fun j=>ps.length - j) 0 ?_ h (by kernel_rfl) (by kernel_rfl) ?_
 ·exact Nat.zero_le _
 clear h;rintro j a w hI h
 have lmj:((ps.take j).map (zar x.vals)).length≤j:=by rw [List.length_map,List.length_take];omega
 refine rqk za0 9 [] [(3,vp 5 0),(4,vp 6 0),(5,vp 7 0),(12,(vRs ps)),(13,vN ps.length),(14,vN j),(15,vb (decide ((j:Int)<(ps.length:Int))))] h fun a w h=>?_
 refine wp_seq ?_
 refine zam ((j:Int)<(ps.length:Int)) h rfl (fun hc1 hc1'=>?_) (fun hc2 hc2'=>?_)
 ·refine wp_skip (za2 (wp_seq (wp_block ?_)))
  obtain ⟨x2,hx2⟩:=gl ps j
  refine rq za0 9 [(0,.g (xD 16 12 kc_3 (zaf hx2 (f:=zac.d)) (OV.tmp 14 _)))] [(3,vp 5 0),(4,vp 6 0),(5,vp 7 0),(7,vp 9 0),(12,(vRs ps)),(13,vN ps.length),(14,vN j)] [(5,.box [cIs x.locs,cZs x.vals]),(6,.box [.d (.raw zae),.d (.raw zae)]),(0,.row 3 1 (x.locs.map zaw)),(7,.box [.own 0 x.locs.length,.own 8 ((ps.take j).map (zar x.vals)).length]),(8,.row 4 1 (((ps.take j).map (zar x.vals)).map za5)),(9,.box (zR_ x2))] h fun a w h=>?_
  refine rn za0 10 [(5,.call (SrelHolds x2 x.vals (L:=10) (M:=10) (by decide) hx.vok (hps.2 x2 (lM hx2))) ke_11),(6,.g (bD 24 ([zar x.vals x2].map za5) [(23,vb (zar x.vals x2))] zfv (.cons (i:=0) (OV.tmp 23 _) (.nil)) (by kernel_rfl) (by simp [za5]))),(7,.g (aD 25 19 24 8 10 ((ps.take j).map (zar x.vals)) [zar x.vals x2] za5 zhh (by simp [za5])))] [(3,vp 5 0),(4,vp 6 0),(5,vp 7 0),(12,(vRs ps)),(13,vN ps.length),(14,vN j)] [(5,.box [cIs x.locs,cZs x.vals]),(6,.box [.d (.raw zae),.d (.raw zae)]),(0,.row 3 1 (x.locs.map zaw)),(7,.box ([.own 0 x.locs.length,.own 10 (((ps.take j).map (zar x.vals))++[zar x.vals x2]).length])),(10,.row 4 1 ((((ps.take j).map (zar x.vals))++[zar x.vals x2]).map za5))] h fun a w h=>?_
  refine zaa (za2 (rnk za0 11 [(0,.j1 j)] [(3,vp 5 0),(4,vp 6 0),(5,vp 7 0),(12,(vRs ps)),(13,vN ps.length),(14,vI ((j:Int)+1))] h fun a w h=>?_))
  refine za2 ?_
  rw [show ((((ps.take j).map (zar x.vals))++[zar x.vals x2]):List Bool)=((ps.take (j+1)).map (zar x.vals)) from (zbn hx2)] at h
  replace h:=zbz 10 8 [(3,vp 5 0),(4,vp 6 0),(5,vp 7 0),(12,(vRs ps)),(13,vN ps.length),(14,vI ((j:Int)+1))] [(5,.box [cIs x.locs,cZs x.vals]),(6,.box [.d (.raw zae),.d (.raw zae)]),(0,.row 3 1 (x.locs.map zaw)),(7,.box [.own 0 x.locs.length,.own 8 ((ps.take (j+1)).map (zar x.vals)).length]),(8,.row 4 1 (((ps.take (j+1)).map (zar x.vals)).map za5))] h
  refine zaj (x:=j) (y:=j+1) h ?_ ?_
  ·have:=zag hx2
   show j+1≤ps.length
   omega
  show ps.length - (j+1)<ps.length - j
  have:=zag hx2;omega
 refine wp_exit (zab (zab (za7 (za2 (rq za0 11 [] [(4,vp 6 0)] [(6,.box [.own 0 x.locs.length,.own 8 ((ps.take j).map (zar x.vals)).length]),(0,.row 3 1 (x.locs.map zaw)),(8,.row 4 1 (((ps.take j).map (zar x.vals)).map za5))] h fun a w h=>?_)))))
 refine wp_ret ?_
 rw [show (((ps.take j).map (zar x.vals)):List Bool)=(ps.map (zar x.vals)) from (by rw [List.take_of_length_le (by omega)])] at h
 replace h:=zgn 0 1 3 (x.locs.map zaw) [(4,vp 6 0)] [(6,.box [cIs x.locs,.own 8 (ps.map (zar x.vals)).length]),(8,.row 4 1 ((ps.map (zar x.vals)).map za5))] h rfl trivial (show zbt _ [x.locs.length] from ⟨by first | exact (List.length_map _).symm | (simp;done) | (simp;omega),trivial⟩)
 replace h:=zgn 8 1 4 ((ps.map (zar x.vals)).map za5) [(4,vp 6 0)] [(6,.box [cIs x.locs,.d (.sl 1 ((ps.map (zar x.vals)).map za5))])] h rfl trivial (show zbt _ [(ps.map (zar x.vals)).length] from ⟨by first | exact (List.length_map _).symm | (simp;done) | (simp;omega),trivial⟩)
 refine rA 6 [cIs x.locs,.d (.sl 1 ((ps.map (zar x.vals)).map za5))] h le5_5 rfl rfl rfl rfl rfl ?_
 rfl
theorem lit_okB {r:zac} (hr:TOk 20 10 r.t) (b:Bool):(litF r b).okB 400 100:=by
 have h:(zb8 r).okB 20 11:=zim (hr.plain (by decide))
 unfold litF
 split
 ·exact za1.okB_mono (by decide) (by decide) _ h
 ·exact okB_kids (by decide) (by simp) fun g hg=>by rw [List.mem_singleton.1 hg];exact za1.okB_mono (by decide) (by decide) _ (okB_cl (by decide) _ h)
def zcv (ps:List zac) (bs:List Bool):List za1:=List.zipWith litF ps bs
def cubeF (ps:List zac) (bs:List Bool):za1:=allF (zcv ps bs)
theorem cube_at {ps:List zac} {bs:List Bool} {j:Nat} {r:zac} {b:Bool} (h:ps[j]?=some r) (k:bs[j]?=some b):(zcv ps bs).take j++[litF r b]=(zcv ps bs).take (j+1):=by
 have:(zcv ps bs)[j]?=some (litF r b):=by unfold zcv;rw [List.getElem?_zipWith,h,k]
 rw [List.take_add_one,this];rfl
theorem cube_len (ps:List zac) (bs:List Bool):(zcv ps bs).length=min ps.length bs.length:=by unfold zcv;exact List.length_zipWith ..
theorem cube_okB {ps:List zac} (hps:PsOkR ps) (bs:List Bool):∀ g ∈ zcv ps bs,g.okB 400 100:=fun g hg=>by
 obtain ⟨j,hj,rfl⟩:=List.getElem_of_mem hg
 have hl:=cube_len ps bs
 have e:(zcv ps bs)[j]'hj=litF (ps[j]'(by omega)) (bs[j]'(by omega)):=List.getElem_zipWith ..
 rw [e]
 exact lit_okB (hps.2 _ (List.getElem_mem _)) _
theorem Lliteral (r:zac) (b:Bool) (hr:TOk 20 10 r.t):Fn Tryz.prog 54 [] [(vR r),vb b] (vF (litF r b)) []:=by
 refine Fn.body Tryz.func54 rfl 11 rfl fun w H B a h=>?_
 refine rq za0 0 [] [(1,vb b),(2,vp 0 0),(4,vp 1 0)] [(0,.box (zR_ r)),(1,.box zF0)] h fun a w h=>?_
 refine wp_seq (rqk za0 2 [] [(2,vp 0 0),(4,vp 1 0),(5,vb b)] h fun a w h=>?_)
 refine zah b h rfl (fun hc1=>?_) (fun hc2=>?_)
 ·refine rq za0 2 [(1,.call (LOf r (hr.mono (by decide) (by decide))) la_9)] [(2,vp 0 0),(4,vp 1 0)] [(0,.box (zR_ r)),(1,.box (zF (zb8 r)))] h fun a w h=>?_
  refine wp_ret (za8 ?_)
  refine rA 1 (zF (zb8 r)) h zd2 rfl rfl rfl rfl rfl ?_
  unfold litF;rw [hc1];first | done | rfl
 refine wp_skip (za2 (rq za0 2 [(1,.call (LOf r (hr.mono (by decide) (by decide))) la_9),(2,.call (LDeny (zb8 r) (za1.okB_mono (by decide) (by decide) _ (zim (n:=20) (L:=11) (hr.plain (by decide))))) le5_8)] [(4,vp 1 0)] [(1,.box (zF (denyF (zb8 r))))] h fun a w h=>?_))
 refine wp_ret ?_
 refine rA 1 (zF (denyF (zb8 r))) h zd2 rfl rfl rfl rfl rfl ?_
 unfold litF;rw [hc2];first | done | rfl
theorem LCube (ps:List zac) (bs:List Bool) (hps:PsOkR ps) (hb:bs.length≤9223372036854775807):Fn Tryz.prog 27 [] [(vRs ps),.t (.c (.d (.sl 1 (bs.map za5))))] (vF (cubeF ps bs)) []:=by
 have lps:=hps.1
 have lcb:=cube_len ps bs
 refine Fn.body Tryz.func27 rfl 30 rfl fun w H B a h=>?_
 refine rq za0 5 [] [(0,(vRs ps)),(1,.t (.c (.d (.sl 1 (bs.map za5))))),(4,vp 5 0)] [(5,.box zF0)] h fun a w h=>?_
 refine rqk za0 6 [] [(0,(vRs ps)),(1,.t (.c (.d (.sl 1 (bs.map za5))))),(4,vp 5 0),(5,.t (.c (.d (.raw zae))))] h fun a w h=>?_
 refine wp_seq (rqk za0 6 [(1,.len (za9 4 zac.d ps)),(3,.len (za9 1 za5 bs)),(4,.g (Op.min2 (d:=11) (tys:=#[3,3]) (k:=.i64) (m:=(ps.length:Int)) (n:=(bs.length:Int)) (r:=((min ps.length bs.length:Nat):Int)) (OV.tmp 8 _) (OV.tmp 10 _) (by omega)))] [(0,(vRs ps)),(1,.t (.c (.d (.sl 1 (bs.map za5))))),(4,vp 5 0),(5,.t (.c (.d (.raw zae)))),(11,vI ((min ps.length bs.length:Nat):Int)),(12,vI 0)] h fun a w h=>?_)
 refine wp_block ?_
 replace h:=zev 5 0 6 6 60 (.t (.c (.d (.raw zae)))) [(0,(vRs ps)),(1,.t (.c (.d (.sl 1 (bs.map za5))))),(4,vp 5 0),(5,.t (.c (.own 6 0))),(11,vI ((min ps.length bs.length:Nat):Int)),(12,vI 0)] [(5,.box zF0),(6,.row 60 6 ([].map za1.d))] h (by kernel_rfl) rfl rfl
 refine zau (ι:=(Nat)) (fun j=>j≤min ps.length bs.length)
   (fun j=>[(0,(vRs ps)),(1,.t (.c (.d (.sl 1 (bs.map za5))))),(4,vp 5 0),(5,.t (.c (.own 6 ((zcv ps bs).take j).length))),(11,vI ((min ps.length bs.length:Nat):Int)),(12,vN j)])
   (fun j=>[(5,.box zF0),(6,.row 60 6 (((zcv ps bs).take j).map za1.d))])
   (fun j=>min ps.length bs.length - j) 0 ?_ h (by kernel_rfl) (by kernel_rfl) ?_
 ·exact Nat.zero_le _
 clear h;rintro j a w hI h
 have lcj:((zcv ps bs).take j).length≤j:=by rw [List.length_take];omega
 refine rqk za0 7 [] [(0,(vRs ps)),(1,.t (.c (.d (.sl 1 (bs.map za5))))),(4,vp 5 0),(5,.t (.c (.own 6 ((zcv ps bs).take j).length))),(11,vI ((min ps.length bs.length:Nat):Int)),(12,vN j),(13,vb (decide ((j:Int)<((min ps.length bs.length:Nat):Int))))] h fun a w h=>?_
 refine wp_seq ?_
 refine zam ((j:Int)<((min ps.length bs.length:Nat):Int)) h rfl (fun hc1 hc1'=>?_) (fun hc2 hc2'=>?_)
 ·refine wp_skip (za2 (wp_seq (wp_block (rqk za0 7 [] [(0,(vRs ps)),(1,.t (.c (.d (.sl 1 (bs.map za5))))),(4,vp 5 0),(5,.t (.c (.own 6 ((zcv ps bs).take j).length))),(6,vN j),(11,vI ((min ps.length bs.length:Nat):Int)),(12,vN j)] h fun a w h=>?_))))
  obtain ⟨x1,hx1⟩:=gl ps j
  obtain ⟨x2,hx2⟩:=gl bs j
  refine rn za0 7 [(3,.g (xD 18 16 kc_3 (zaf hx1 (f:=zac.d)) (OV.tmp 17 _))),(7,.g (xD 22 20 zfu (zaf hx2 (f:=za5)) (OV.tmp 21 _))),(9,.call (Lliteral x1 x2 (hps.2 x1 (lM hx1))) le5_10),(10,.g (bD 25 ([(litF x1 x2)].map za1.d) [(24,(vF (litF x1 x2)))] kb_1 (.cons (i:=0) (OV.tmp 24 _) (.nil)) (by simp only [List.map_cons,List.map_nil,List.flatten_cons,List.flatten_nil,List.append_nil,za1.d_eq];kernel_rfl) (by simp [za1.d_len]))),(11,.g (aD 26 15 25 6 7 ((zcv ps bs).take j) [(litF x1 x2)] za1.d la_7 (by simp [za1.d_len])))] [(0,(vRs ps)),(1,.t (.c (.d (.sl 1 (bs.map za5))))),(4,vp 5 0),(5,.t (.c (.own 7 (((zcv ps bs).take j)++[(litF x1 x2)]).length))),(11,vI ((min ps.length bs.length:Nat):Int)),(12,vN j)] [(5,.box zF0),(7,.row 60 6 ((((zcv ps bs).take j)++[(litF x1 x2)]).map za1.d))] h fun a w h=>?_
  refine zaa (za2 (rnk za0 8 [(0,.j1 j)] [(0,(vRs ps)),(1,.t (.c (.d (.sl 1 (bs.map za5))))),(4,vp 5 0),(5,.t (.c (.own 7 (((zcv ps bs).take j)++[(litF x1 x2)]).length))),(11,vI ((min ps.length bs.length:Nat):Int)),(12,vI ((j:Int)+1))] h fun a w h=>?_))
  refine za2 ?_
  rw [show ((((zcv ps bs).take j)++[(litF x1 x2)]):List za1)=((zcv ps bs).take (j+1)) from (cube_at hx1 hx2)] at h
  replace h:=zbz 7 6 [(0,(vRs ps)),(1,.t (.c (.d (.sl 1 (bs.map za5))))),(4,vp 5 0),(5,.t (.c (.own 6 ((zcv ps bs).take (j+1)).length))),(11,vI ((min ps.length bs.length:Nat):Int)),(12,vI ((j:Int)+1))] [(5,.box zF0),(6,.row 60 6 (((zcv ps bs).take (j+1)).map za1.d))] h
  refine zaj (x:=j) (y:=j+1) h ?_ ?_
  ·have:=zag hx1
   have:=zag hx2
   show j+1≤min ps.length bs.length
   omega
  show min ps.length bs.length - (j+1)<min ps.length bs.length - j
  have:=zag hx1;have:=zag hx2;omega
 refine wp_exit (zab (zab (za7 (za2 ?_))))
 rw [show (((zcv ps bs).take j):List za1)=(zcv ps bs) from (by rw [List.take_of_length_le (by rw [cube_len];omega)])] at h
 replace h:=zgn 6 6 60 ((zcv ps bs).map za1.d) [(0,(vRs ps)),(1,.t (.c (.d (.sl 1 (bs.map za5))))),(4,vp 5 0),(5,(vFs (zcv ps bs))),(11,vI ((min ps.length bs.length:Nat):Int)),(12,vN j),(13,vb (decide ((j:Int)<((min ps.length bs.length:Nat):Int))))] [(5,.box zF0)] h rfl (show zbt _ [(zcv ps bs).length] from ⟨by first | exact (List.length_map _).symm | (simp;done) | (simp;omega),trivial⟩) trivial
 refine rq za0 8 [(1,.call (LAll (zcv ps bs) (fun g hg=>za1.okB_mono (by decide) (by decide) _ (cube_okB hps bs g hg)) (by omega)) le5_13)] [(4,vp 5 0)] [(5,.box (zF (cubeF ps bs)))] h fun a w h=>?_
 refine wp_ret ?_
 refine rA 5 (zF (cubeF ps bs)) h zd2 rfl rfl rfl rfl rfl ?_
 rfl
end
section
open Go.RowKit

theorem lf6_0:za6 Tryz.prog 92:=za6.mk' (by kernel_rfl)
theorem lf6_2:za6 Tryz.prog 91:=za6.mk' (by kernel_rfl)
theorem lf6_3:za6 Tryz.prog 90:=za6.mk' (by kernel_rfl)
theorem lf6_4:za6 Tryz.prog 41:=za6.mk' (by kernel_rfl)
theorem lf6_8:za6 Tryz.prog 39:=za6.mk' (by kernel_rfl)
theorem lf6_9:za6 Tryz.prog 43:=za6.mk' (by kernel_rfl)
theorem lf6_10:za6 Tryz.prog 44:=za6.mk' (by kernel_rfl)
theorem lf6_13:za6 Tryz.prog 17:=za6.mk' (by kernel_rfl)
def zey {α:Type} (c:α→α→Int):List α→List α→Int
  | [],[]=>0
  | [],_ :: _=>-1
  | _ :: _,[]=>1
  | p :: ps,q :: qs=>if c p q≠0 then c p q else zey c ps qs
theorem zd5 {α:Type} {c:α→α→Int} {xs ys:List α} {j:Nat} {p q:α} (h:xs[j]?=some p) (k:ys[j]?=some q):zey c (xs.drop j) (ys.drop j)=if c p q≠0 then c p q else zey c (xs.drop (j+1)) (ys.drop (j+1)):=by
 obtain ⟨hj,rfl⟩:=List.getElem?_eq_some_iff.1 h
 obtain ⟨hk,rfl⟩:=List.getElem?_eq_some_iff.1 k
 rw [List.drop_eq_getElem_cons hj,List.drop_eq_getElem_cons hk];rfl
theorem zh3 {α:Type} {c:α→α→Int} {xs ys:List α} {j:Nat} (_h:j≤xs.length) (_k:j≤ys.length):(j=ys.length→j<xs.length→zey c (xs.drop j) (ys.drop j)=1)∧(j=xs.length→j<ys.length→zey c (xs.drop j) (ys.drop j)=-1)∧(j=xs.length→j=ys.length→zey c (xs.drop j) (ys.drop j)=0):=by
 refine ⟨fun e1 e2=>?_,fun e1 e2=>?_,fun e1 e2=>?_⟩
 ·rw [List.drop_eq_getElem_cons e2,List.drop_of_length_le (l:=ys) (by omega)];rfl
 ·rw [List.drop_eq_getElem_cons e2,List.drop_of_length_le (l:=xs) (by omega)];rfl
 ·rw [List.drop_of_length_le (l:=ys) (by omega),List.drop_of_length_le (l:=xs) (by omega)];rfl
def bitZ (b:Bool):Int:=if b=true then 1 else 0
def zd6 (p q:Bool):Int:=zbc (bitZ p) (bitZ q)
def zdk (a b:zcx):Int:=orZ [zey zbc a.locs b.locs,zey zd6 a.bits b.bits]
theorem Lindex1 (p r:zac) (hp:TOk 200 3000 p.t) (hr:TOk 200 3000 r.t):Fn Tryz.prog 91 [(0,.box (zR_ r))] [(vR p),vp 0 0] (vb (zbx p r == 0)) [(0,.box (zR_ r))]:=by
 refine Fn.body Tryz.func91 rfl 7 rfl fun w H B a h=>?_
 refine rq za0 5 [] [(1,vp 0 0),(2,vp 5 0),(3,vb false)] [(0,.box (zR_ r)),(5,.box (zR_ p))] h fun a w h=>?_
 refine rq za0 6 [(2,.call (LSame p r hp hr (by decide) (by decide)) lf6_0)] [(3,vb (zbx p r == 0))] [(0,.box (zR_ r))] h fun a w h=>?_
 refine wp_ret ?_
 refine rT (.c (cB (zbx p r == 0))) h rfl rfl ?_
 rfl
theorem SIdxIX (pr:zac→Bool) (xs:List zac) (r:zac) (hf:∀ x ∈ xs,Fn Tryz.prog 91 [(0,.box (zR_ r))] [(vR x),vp 0 0] (vb (pr x)) [(0,.box (zR_ r))]) (hl:xs.length≤9223372036854775807):Fn Tryz.prog 90 [(0,.box (zR_ r))] [(vRs xs),.t (.c (.fn (.func 91) [] [.ptr 0 0]))] (vI (zib pr xs 0)) [(0,.box (zR_ r))]:=by
 refine Fn.body Tryz.func90 rfl 19 rfl fun w H B a h=>?_
 refine rq za0 5 [] [(0,(vRs xs)),(1,.t (.c (.fn (.func 91) [] [.ptr 0 0]))),(4,vI 0)] [(0,.box (zR_ r))] h fun a w h=>?_
 refine wp_seq (rqk za0 5 [(1,.len (za9 4 zac.d xs))] [(0,(vRs xs)),(1,.t (.c (.fn (.func 91) [] [.ptr 0 0]))),(4,vI 0),(7,vN xs.length),(8,vI 0)] h fun a w h=>?_)
 refine wp_block ?_
 refine zau (ι:=(Nat)) (fun j=>j≤xs.length∧zib pr xs 0=zib pr (xs.drop j) j)
   (fun j=>[(0,(vRs xs)),(1,.t (.c (.fn (.func 91) [] [.ptr 0 0]))),(7,vN xs.length),(8,vN j)])
   (fun j=>[(0,.box (zR_ r))])
   (fun j=>xs.length - j) 0 ?_ h (by kernel_rfl) (by kernel_rfl) ?_
 ·exact ⟨Nat.zero_le _,rfl⟩
 clear h;rintro j a w hI h
 obtain ⟨hI1,hI2⟩:=hI
 refine rqk za0 5 [] [(0,(vRs xs)),(1,.t (.c (.fn (.func 91) [] [.ptr 0 0]))),(7,vN xs.length),(8,vN j),(9,vb (decide ((j:Int)<(xs.length:Int))))] h fun a w h=>?_
 refine wp_seq ?_
 refine zam ((j:Int)<(xs.length:Int)) h rfl (fun hc1 hc1'=>?_) (fun hc4 hc4'=>?_)
 ·refine wp_skip (za2 (wp_seq (wp_block (rqk za0 5 [] [(0,(vRs xs)),(1,.t (.c (.fn (.func 91) [] [.ptr 0 0]))),(5,vN j),(7,vN xs.length),(8,vN j)] h fun a w h=>?_))))
  obtain ⟨x1,hx1⟩:=gl xs j
  refine rqk za0 5 [(3,.g (xD 14 12 kc_3 (zaf hx1 (f:=zac.d)) (OV.tmp 13 _))),(5,.g (Op.callV (d:=16) (t:=11) (cap:=[.ptr 0 0]) (args:=[(vR x1)]) (rs:=[(15,(vR x1))]) (tys:=#[57]) (hf x1 (lM hx1)) lf6_2 (OVs.cons (OV.tmp 15 _) (OVs.nil))))] [(0,(vRs xs)),(1,.t (.c (.fn (.func 91) [] [.ptr 0 0]))),(5,vN j),(7,vN xs.length),(8,vN j),(16,vb (pr x1))] h fun a w h=>?_
  refine zah (pr x1) h rfl (fun hc2=>?_) (fun hc3=>?_)
  ·refine rqk za0 5 [] [(0,(vRs xs)),(1,.t (.c (.fn (.func 91) [] [.ptr 0 0]))),(4,vN j),(7,vN xs.length),(8,vN j)] h fun a w h=>?_
   refine wp_ret (zad (za8 (za8 (zad (za8 ?_)))))
   refine rT (.c (cI (j:Int))) h rfl rfl ?_
   have hz:zib pr xs 0=(j:Int):=by rw [hI2,zhl hx1,if_pos hc2]
   rw [hz];first | done | rfl
  refine wp_skip (zaa (za2 (rnk za0 5 [(0,.j1 j)] [(0,(vRs xs)),(1,.t (.c (.fn (.func 91) [] [.ptr 0 0]))),(7,vN xs.length),(8,vI ((j:Int)+1))] h fun a w h=>?_)))
  refine za2 ?_
  refine zaj (x:=j) (y:=j+1) h ?_ ?_
  ·exact ⟨by have:=zag hx1;omega,by rw [hI2,zhl hx1,if_neg (by rw [hc3];exact Bool.noConfusion)]⟩
  (try simp);omega
 refine wp_exit (zab (zab (za7 (za2 (rqk za0 5 [] [(4,vI (-1))] h fun a w h=>?_)))))
 refine wp_ret ?_
 refine rT (.c (cI (-1))) h rfl rfl ?_
 have hz:zib pr xs 0=-1:=by rw [hI2,List.drop_of_length_le (by omega)];rfl
 rw [hz];first | done | rfl
theorem Lindex (ps:List zac) (r:zac) (hps:ps.length≤1000000∧∀ p ∈ ps,TOk 200 3000 p.t) (hr:TOk 200 3000 r.t):Fn Tryz.prog 60 [] [(vRs ps),(vR r)] (vI (zib (fun p=>zbx p r == 0) ps 0)) []:=by
 refine Fn.body Tryz.func60 rfl 8 rfl fun w H B a h=>?_
 refine rq za0 0 [] [(0,(vRs ps)),(3,vp 0 0),(4,vI 0)] [(0,.box (zR_ r))] h fun a w h=>?_
 refine rq za0 1 [(1,.g (Op.makeFs (d:=6) (fn:=.func 91) [(3,0,0)])),(2,.call (SIdxIX (fun p=>zbx p r == 0) ps r (fun p hp=>Lindex1 p r (hps.2 p hp) hr) (Nat.le_trans hps.1 (by decide))) lf6_3)] [(4,vI (zib (fun p=>zbx p r == 0) ps 0))] [] h fun a w h=>?_
 refine wp_ret ?_
 refine rT (.c (cI (zib (fun p=>zbx p r == 0) ps 0))) h rfl rfl ?_
 rfl
theorem Lbit (b:Bool) :Fn Tryz.prog 41 [] [vb b] (vI (bitZ b)) []:=by
 refine Fn.body Tryz.func41 rfl 4 rfl fun w H B a h=>?_
 refine rq za0 0 [] [(0,vb b),(2,vI 0)] [] h fun a w h=>?_
 refine wp_seq (rq za0 0 [] [(2,vI 0),(3,vb b)] [] h fun a w h=>?_)
 refine zah b h rfl (fun hc1=>?_) (fun hc2=>?_)
 ·refine rq za0 0 [] [(2,vI 1)] [] h fun a w h=>?_
  refine wp_ret (za8 ?_)
  refine rT (.c (cI 1)) h rfl rfl ?_
  rw [hc1];rfl
 refine wp_skip (za2 (rq za0 0 [] [(2,vI 0)] [] h fun a w h=>?_))
 refine wp_ret ?_
 refine rT (.c (cI 0)) h rfl rfl ?_
 rw [hc2];rfl
theorem LCmp1 (p q:Bool) :Fn Tryz.prog 39 [] [vb p,vb q] (vI (zd6 p q)) []:=by
 refine Fn.body Tryz.func39 rfl 10 rfl fun w H B a h=>?_
 refine rq za0 0 [] [(0,vb p),(1,vb q),(4,vI 0)] [] h fun a w h=>?_
 refine rq za0 0 [(1,.call (Lbit p) lf6_4),(3,.call (Lbit q) lf6_4),(4,.call (zh5 (bitZ p) (bitZ q)) td_5)] [(4,vI (zbc (bitZ p) (bitZ q)))] [] h fun a w h=>?_
 refine wp_ret ?_
 refine rT (.c (cI (zbc (bitZ p) (bitZ q)))) h rfl rfl ?_
 rfl
theorem LCompareI (xs ys:List Int) (hx:xs.length≤9223372036854775807) (_hy:ys.length≤9223372036854775807):Fn Tryz.prog 43 [] [(vIs xs),(vIs ys)] (vI (zey zbc xs ys)) []:=by
 refine Fn.body Tryz.func43 rfl 36 rfl fun w H B a h=>?_
 refine rq za0 0 [] [(0,(vIs xs)),(1,(vIs ys)),(4,vI 0)] [] h fun a w h=>?_
 refine wp_seq (rq za0 0 [(1,.len (za9 1 zaw xs))] [(0,(vIs xs)),(1,(vIs ys)),(4,vI 0),(9,(vIs xs)),(10,vN xs.length),(11,vI 0)] [] h fun a w h=>?_)
 refine wp_block ?_
 refine zau (ι:=(Nat)) (fun j=>j≤xs.length∧j≤ys.length∧zey zbc xs ys=zey zbc (xs.drop j) (ys.drop j))
   (fun j=>[(0,(vIs xs)),(1,(vIs ys)),(9,(vIs xs)),(10,vN xs.length),(11,vN j)])
   (fun j=>[])
   (fun j=>xs.length - j) 0 ?_ h (by kernel_rfl) (by kernel_rfl) ?_
 ·exact ⟨Nat.zero_le _,Nat.zero_le _,rfl⟩
 clear h;rintro j a w hI h
 obtain ⟨hI1,hI2,hI3⟩:=hI
 have hce:=zh3 (c:=zbc) hI1 hI2
 refine rq za0 0 [] [(0,(vIs xs)),(1,(vIs ys)),(9,(vIs xs)),(10,vN xs.length),(11,vN j),(12,vb (decide ((j:Int)<(xs.length:Int))))] [] h fun a w h=>?_
 refine wp_seq ?_
 refine zam ((j:Int)<(xs.length:Int)) h rfl (fun hc1 hc1'=>?_) (fun hc6 hc6'=>?_)
 ·refine wp_skip (za2 (wp_seq (wp_block ?_)))
  obtain ⟨x1,hx1⟩:=gl xs j
  refine rq za0 0 [(1,.g (xD 14 9 zig (zaf hx1 (f:=zaw)) (OV.tmp 11 _)))] [(0,(vIs xs)),(1,(vIs ys)),(5,vN j),(6,vI x1),(9,(vIs xs)),(10,vN xs.length),(11,vN j)] [] h fun a w h=>?_
  refine wp_seq (rq za0 0 [(2,.len (za9 1 zaw ys))] [(0,(vIs xs)),(1,(vIs ys)),(5,vN j),(6,vI x1),(9,(vIs xs)),(10,vN xs.length),(11,vN j),(19,vb (decide ((j:Int)≥(ys.length:Int))))] [] h fun a w h=>?_)
  refine zam ((j:Int)≥(ys.length:Int)) h rfl (fun hc2 hc2'=>?_) (fun hc3 hc3'=>?_)
  ·refine rq za0 0 [] [(0,(vIs xs)),(1,(vIs ys)),(4,vI 1),(5,vN j),(6,vI x1),(9,(vIs xs)),(10,vN xs.length),(11,vN j)] [] h fun a w h=>?_
   refine wp_ret (za8 (zad (za8 (za8 (zad (za8 ?_))))))
   refine rT (.c (cI 1)) h rfl rfl ?_
   rw [hI3,hce.1 (by omega) (by omega)];first | done | rfl
  refine wp_skip (za2 ?_)
  obtain ⟨x2,hx2⟩:=gl ys j
  refine rq za0 0 [(2,.g (xD 22 20 zig (zaf hx2 (f:=zaw)) (OV.tmp 21 _)))] [(0,(vIs xs)),(1,(vIs ys)),(6,vI x1),(7,vI x2),(9,(vIs xs)),(10,vN xs.length),(11,vN j)] [] h fun a w h=>?_
  refine rq za0 0 [(2,.call (zh5 x1 x2) td_5)] [(0,(vIs xs)),(1,(vIs ys)),(8,vI (zbc x1 x2)),(9,(vIs xs)),(10,vN xs.length),(11,vN j)] [] h fun a w h=>?_
  refine rq za0 0 [] [(0,(vIs xs)),(1,(vIs ys)),(8,vI (zbc x1 x2)),(9,(vIs xs)),(10,vN xs.length),(11,vN j),(28,vb (zbc x1 x2 != 0))] [] h fun a w h=>?_
  refine zah (zbc x1 x2 != 0) h rfl (fun hc4=>?_) (fun hc5=>?_)
  ·have hc4':=hc4;(try simp at hc4')
   refine rq za0 0 [] [(0,(vIs xs)),(1,(vIs ys)),(4,vI (zbc x1 x2)),(9,(vIs xs)),(10,vN xs.length),(11,vN j)] [] h fun a w h=>?_
   refine wp_ret (zad (za8 (za8 (zad (za8 ?_)))))
   refine rT (.c (cI (zbc x1 x2))) h rfl rfl ?_
   rw [hI3,zd5 hx1 hx2,if_pos (by have:=hc4;simpa using this)];first | done | rfl
  have hc5':=hc5;(try simp at hc5')
  refine wp_skip (zaa (za2 (rn za0 0 [(0,.j1 j)] [(0,(vIs xs)),(1,(vIs ys)),(9,(vIs xs)),(10,vN xs.length),(11,vI ((j:Int)+1))] [] h fun a w h=>?_)))
  refine za2 ?_
  refine zaj (x:=j) (y:=j+1) h ?_ ?_
  ·have:=zag hx1
   have:=zag hx2
   exact ⟨by omega,by omega,by rw [hI3,zd5 hx1 hx2,if_neg (by have:=hc5;simpa using this)]⟩
  show xs.length - (j+1)<xs.length - j
  have:=zag hx1;omega
 refine wp_exit (zab (zab (za7 (za2 (wp_seq (rq za0 0 [(1,.len (za9 1 zaw xs)),(3,.len (za9 1 zaw ys))] [(35,vb (decide ((xs.length:Int)<(ys.length:Int))))] [] h fun a w h=>?_))))))
 refine zam ((xs.length:Int)<(ys.length:Int)) h rfl (fun hc7 hc7'=>?_) (fun hc8 hc8'=>?_)
 ·refine rq za0 0 [] [(4,vI (-1))] [] h fun a w h=>?_
  refine wp_ret (za8 ?_)
  refine rT (.c (cI (-1))) h rfl rfl ?_
  rw [hI3,hce.2.1 (by omega) (by omega)];first | done | rfl
 refine wp_skip (za2 (rq za0 0 [] [(4,vI 0)] [] h fun a w h=>?_))
 refine wp_ret ?_
 refine rT (.c (cI 0)) h rfl rfl ?_
 rw [hI3,hce.2.2 (by omega) (by omega)];first | done | rfl
theorem LCompareB (xs ys:List Bool) (hx:xs.length≤9223372036854775807) (_hy:ys.length≤9223372036854775807):Fn Tryz.prog 44 [] [.t (.c (.d (.sl 1 (xs.map za5)))),.t (.c (.d (.sl 1 (ys.map za5)))),.t (.c (.fn (.func 39) [] []))] (vI (zey zd6 xs ys)) []:=by
 refine Fn.body Tryz.func44 rfl 39 rfl fun w H B a h=>?_
 refine rq za0 0 [] [(0,.t (.c (.d (.sl 1 (xs.map za5))))),(1,.t (.c (.d (.sl 1 (ys.map za5))))),(2,.t (.c (.fn (.func 39) [] []))),(6,vI 0)] [] h fun a w h=>?_
 refine wp_seq (rq za0 0 [(1,.len (za9 1 za5 xs))] [(0,.t (.c (.d (.sl 1 (xs.map za5))))),(1,.t (.c (.d (.sl 1 (ys.map za5))))),(2,.t (.c (.fn (.func 39) [] []))),(6,vI 0),(11,.t (.c (.d (.sl 1 (xs.map za5))))),(12,vN xs.length),(13,vI 0)] [] h fun a w h=>?_)
 refine wp_block ?_
 refine zau (ι:=(Nat)) (fun j=>j≤xs.length∧j≤ys.length∧zey zd6 xs ys=zey zd6 (xs.drop j) (ys.drop j))
   (fun j=>[(0,.t (.c (.d (.sl 1 (xs.map za5))))),(1,.t (.c (.d (.sl 1 (ys.map za5))))),(2,.t (.c (.fn (.func 39) [] []))),(11,.t (.c (.d (.sl 1 (xs.map za5))))),(12,vN xs.length),(13,vN j)])
   (fun j=>[])
   (fun j=>xs.length - j) 0 ?_ h (by kernel_rfl) (by kernel_rfl) ?_
 ·exact ⟨Nat.zero_le _,Nat.zero_le _,rfl⟩
 clear h;rintro j a w hI h
 obtain ⟨hI1,hI2,hI3⟩:=hI
 have hce:=zh3 (c:=zd6) hI1 hI2
 refine rq za0 0 [] [(0,.t (.c (.d (.sl 1 (xs.map za5))))),(1,.t (.c (.d (.sl 1 (ys.map za5))))),(2,.t (.c (.fn (.func 39) [] []))),(11,.t (.c (.d (.sl 1 (xs.map za5))))),(12,vN xs.length),(13,vN j),(14,vb (decide ((j:Int)<(xs.length:Int))))] [] h fun a w h=>?_
 refine wp_seq ?_
 refine zam ((j:Int)<(xs.length:Int)) h rfl (fun hc1 hc1'=>?_) (fun hc6 hc6'=>?_)
 ·refine wp_skip (za2 (wp_seq (wp_block ?_)))
  obtain ⟨x1,hx1⟩:=gl xs j
  refine rq za0 0 [(1,.g (xD 16 11 zfu (zaf hx1 (f:=za5)) (OV.tmp 13 _)))] [(0,.t (.c (.d (.sl 1 (xs.map za5))))),(1,.t (.c (.d (.sl 1 (ys.map za5))))),(2,.t (.c (.fn (.func 39) [] []))),(7,vN j),(8,vb x1),(11,.t (.c (.d (.sl 1 (xs.map za5))))),(12,vN xs.length),(13,vN j)] [] h fun a w h=>?_
  refine wp_seq (rq za0 0 [(2,.len (za9 1 za5 ys))] [(0,.t (.c (.d (.sl 1 (xs.map za5))))),(1,.t (.c (.d (.sl 1 (ys.map za5))))),(2,.t (.c (.fn (.func 39) [] []))),(7,vN j),(8,vb x1),(11,.t (.c (.d (.sl 1 (xs.map za5))))),(12,vN xs.length),(13,vN j),(21,vb (decide ((j:Int)≥(ys.length:Int))))] [] h fun a w h=>?_)
  refine zam ((j:Int)≥(ys.length:Int)) h rfl (fun hc2 hc2'=>?_) (fun hc3 hc3'=>?_)
  ·refine rq za0 0 [] [(0,.t (.c (.d (.sl 1 (xs.map za5))))),(1,.t (.c (.d (.sl 1 (ys.map za5))))),(2,.t (.c (.fn (.func 39) [] []))),(6,vI 1),(7,vN j),(8,vb x1),(11,.t (.c (.d (.sl 1 (xs.map za5))))),(12,vN xs.length),(13,vN j)] [] h fun a w h=>?_
   refine wp_ret (za8 (zad (za8 (za8 (zad (za8 ?_))))))
   refine rT (.c (cI 1)) h rfl rfl ?_
   rw [hI3,hce.1 (by omega) (by omega)];first | done | rfl
  refine wp_skip (za2 ?_)
  obtain ⟨x2,hx2⟩:=gl ys j
  refine rq za0 0 [(2,.g (xD 24 22 zfu (zaf hx2 (f:=za5)) (OV.tmp 23 _)))] [(0,.t (.c (.d (.sl 1 (xs.map za5))))),(1,.t (.c (.d (.sl 1 (ys.map za5))))),(2,.t (.c (.fn (.func 39) [] []))),(8,vb x1),(9,vb x2),(11,.t (.c (.d (.sl 1 (xs.map za5))))),(12,vN xs.length),(13,vN j)] [] h fun a w h=>?_
  refine rq za0 0 [(3,.g (Op.callV (d:=29) (t:=26) (cap:=[]) (args:=[vb x1,vb x2]) (rs:=[(27,vb x1),(28,vb x2)]) (tys:=#[4,4]) (LCmp1 x1 x2) lf6_8 (OVs.cons (OV.tmp 27 _) (OVs.cons (OV.tmp 28 _) (OVs.nil)))))] [(0,.t (.c (.d (.sl 1 (xs.map za5))))),(1,.t (.c (.d (.sl 1 (ys.map za5))))),(2,.t (.c (.fn (.func 39) [] []))),(10,vI (zd6 x1 x2)),(11,.t (.c (.d (.sl 1 (xs.map za5))))),(12,vN xs.length),(13,vN j)] [] h fun a w h=>?_
  refine rq za0 0 [] [(0,.t (.c (.d (.sl 1 (xs.map za5))))),(1,.t (.c (.d (.sl 1 (ys.map za5))))),(2,.t (.c (.fn (.func 39) [] []))),(10,vI (zd6 x1 x2)),(11,.t (.c (.d (.sl 1 (xs.map za5))))),(12,vN xs.length),(13,vN j),(31,vb ((zd6 x1 x2) != 0))] [] h fun a w h=>?_
  refine zah ((zd6 x1 x2) != 0) h rfl (fun hc4=>?_) (fun hc5=>?_)
  ·have hc4':=hc4;(try simp at hc4')
   refine rq za0 0 [] [(0,.t (.c (.d (.sl 1 (xs.map za5))))),(1,.t (.c (.d (.sl 1 (ys.map za5))))),(2,.t (.c (.fn (.func 39) [] []))),(6,vI (zd6 x1 x2)),(11,.t (.c (.d (.sl 1 (xs.map za5))))),(12,vN xs.length),(13,vN j)] [] h fun a w h=>?_
   refine wp_ret (zad (za8 (za8 (zad (za8 ?_)))))
   refine rT (.c (cI (zd6 x1 x2))) h rfl rfl ?_
   rw [hI3,zd5 hx1 hx2,if_pos (by have:=hc4;simpa using this)];first | done | rfl
  have hc5':=hc5;(try simp at hc5')
  refine wp_skip (zaa (za2 (rn za0 0 [(0,.j1 j)] [(0,.t (.c (.d (.sl 1 (xs.map za5))))),(1,.t (.c (.d (.sl 1 (ys.map za5))))),(2,.t (.c (.fn (.func 39) [] []))),(11,.t (.c (.d (.sl 1 (xs.map za5))))),(12,vN xs.length),(13,vI ((j:Int)+1))] [] h fun a w h=>?_)))
  refine za2 ?_
  refine zaj (x:=j) (y:=j+1) h ?_ ?_
  ·have:=zag hx1
   have:=zag hx2
   exact ⟨by omega,by omega,by rw [hI3,zd5 hx1 hx2,if_neg (by have:=hc5;simpa using this)]⟩
  show xs.length - (j+1)<xs.length - j
  have:=zag hx1;omega
 refine wp_exit (zab (zab (za7 (za2 (wp_seq (rq za0 0 [(1,.len (za9 1 za5 xs)),(3,.len (za9 1 za5 ys))] [(38,vb (decide ((xs.length:Int)<(ys.length:Int))))] [] h fun a w h=>?_))))))
 refine zam ((xs.length:Int)<(ys.length:Int)) h rfl (fun hc7 hc7'=>?_) (fun hc8 hc8'=>?_)
 ·refine rq za0 0 [] [(6,vI (-1))] [] h fun a w h=>?_
  refine wp_ret (za8 ?_)
  refine rT (.c (cI (-1))) h rfl rfl ?_
  rw [hI3,hce.2.1 (by omega) (by omega)];first | done | rfl
 refine wp_skip (za2 (rq za0 0 [] [(6,vI 0)] [] h fun a w h=>?_))
 refine wp_ret ?_
 refine rT (.c (cI 0)) h rfl rfl ?_
 rw [hI3,hce.2.2 (by omega) (by omega)];first | done | rfl
theorem LCmpA (x y:zcx) (hx:x.locs.length≤9223372036854775807∧x.bits.length≤9223372036854775807) (hy:y.locs.length≤9223372036854775807∧y.bits.length≤9223372036854775807):Fn Tryz.prog 17 [] [.t (.agg [cIs x.locs,.d (.sl 1 (x.bits.map za5))]),.t (.agg [cIs y.locs,.d (.sl 1 (y.bits.map za5))])] (vI (zdk x y)) []:=by
 refine Fn.body Tryz.func17 rfl 19 rfl fun w H B a h=>?_
 refine rq za0 0 [] [(2,vp 0 0),(3,vp 1 0),(4,vI 0)] [(0,.box [cIs x.locs,.d (.sl 1 (x.bits.map za5))]),(1,.box [cIs y.locs,.d (.sl 1 (y.bits.map za5))])] h fun a w h=>?_
 refine rqk za0 2 [] [(2,vp 0 0),(3,vp 1 0),(4,vI 0),(5,.t (.c (.fn (.func 39) [] [])))] h fun a w h=>?_
 refine rq za0 2 [(4,.call (LCompareI x.locs y.locs hx.1 hy.1) lf6_9),(10,.call (LCompareB x.bits y.bits hx.2 hy.2) lf6_10),(11,.g (Op.buildD (d:=17) (len:=2) (rows:=[(zey zbc x.locs y.locs),(zey zd6 x.bits y.bits)].map zaw) (rs:=[(10,vI (zey zbc x.locs y.locs)),(16,vI (zey zd6 x.bits y.bits))]) tb_0 (.cons (i:=0) (OV.tmp 10 _) (.cons (i:=1) (OV.tmp 16 _) (.nil))) (by kernel_rfl) rfl (by simp [zaw]) (by decide) (by decide))),(12,.call (SOr [(zey zbc x.locs y.locs),(zey zd6 x.bits y.bits)] (show List.length _≤1000000 from by simp)) tx_4)] [(4,vI (orZ [(zey zbc x.locs y.locs),(zey zd6 x.bits y.bits)]))] [] h fun a w h=>?_
 refine wp_ret ?_
 refine rT (.c (cI (orZ [(zey zbc x.locs y.locs),(zey zd6 x.bits y.bits)]))) h rfl rfl ?_
 rfl
theorem LSameA (x y:zcx) (hx:x.locs.length≤9223372036854775807∧x.bits.length≤9223372036854775807) (hy:y.locs.length≤9223372036854775807∧y.bits.length≤9223372036854775807):Fn Tryz.prog 18 [] [.t (.agg [cIs x.locs,.d (.sl 1 (x.bits.map za5))]),.t (.agg [cIs y.locs,.d (.sl 1 (y.bits.map za5))])] (vb (zdk x y == 0)) []:=by
 refine Fn.body Tryz.func18 rfl 9 rfl fun w H B a h=>?_
 refine rq za0 0 [] [(2,vp 0 0),(3,vp 1 0),(4,vb false)] [(0,.box [cIs x.locs,.d (.sl 1 (x.bits.map za5))]),(1,.box [cIs y.locs,.d (.sl 1 (y.bits.map za5))])] h fun a w h=>?_
 refine rq za0 2 [(2,.call (LCmpA x y hx hy) lf6_13)] [(4,vb ((zdk x y) == 0))] [] h fun a w h=>?_
 refine wp_ret ?_
 refine rT (.c (cB ((zdk x y) == 0))) h rfl rfl ?_
 rfl
end
section
open Go.RowKit

theorem Lindex1b (p r:zac) (hp:TOk 200 3000 p.t) (hr:TOk 200 3000 r.t):Fn Tryz.prog 91 [(10,.box (zR_ r))] [(vR p),vp 10 0] (vb (zbx p r == 0)) [(10,.box (zR_ r))]:=by
 refine Fn.body Tryz.func91 rfl 7 rfl fun w H B a h=>?_
 refine rq za0 12 [] [(1,vp 10 0),(2,vp 12 0),(3,vb false)] [(10,.box (zR_ r)),(12,.box (zR_ p))] h fun a w h=>?_
 refine rq za0 13 [(2,.call (LSame p r hp hr (by decide) (by decide)) lf6_0)] [(3,vb (zbx p r == 0))] [(10,.box (zR_ r))] h fun a w h=>?_
 refine wp_ret ?_
 refine rT (.c (cB (zbx p r == 0))) h rfl rfl ?_
 rfl
theorem LIdxO (xs:List zac) (r:zac) (hf:∀ x ∈ xs,TOk 200 3000 x.t) (hr:TOk 200 3000 r.t) (hl:xs.length≤1000000):Fn Tryz.prog 90 [(9,.row 57 4 (xs.map zac.d)),(10,.box (zR_ r))] [.t (.c (.own 9 xs.length)),.t (.c (.fn (.func 91) [] [.ptr 10 0]))] (vI (zib (fun p=>zbx p r == 0) xs 0)) [(9,.row 57 4 (xs.map zac.d)),(10,.box (zR_ r))]:=by
 refine Fn.body Tryz.func90 rfl 19 rfl fun w H B a h=>?_
 refine rq za0 12 [] [(0,.t (.c (.own 9 xs.length))),(1,.t (.c (.fn (.func 91) [] [.ptr 10 0]))),(4,vI 0)] [(9,.row 57 4 (xs.map zac.d)),(10,.box (zR_ r))] h fun a w h=>?_
 refine wp_seq (rqk za0 12 [] [(0,.t (.c (.own 9 xs.length))),(1,.t (.c (.fn (.func 91) [] [.ptr 10 0]))),(4,vI 0),(7,vN xs.length),(8,vI 0)] h fun a w h=>?_)
 refine wp_block ?_
 refine zau (ι:=(Nat)) (fun j=>j≤xs.length∧zib (fun p=>zbx p r == 0) xs 0=zib (fun p=>zbx p r == 0) (xs.drop j) j)
   (fun j=>[(0,.t (.c (.own 9 xs.length))),(1,.t (.c (.fn (.func 91) [] [.ptr 10 0]))),(7,vN xs.length),(8,vN j)])
   (fun j=>[(9,.row 57 4 (xs.map zac.d)),(10,.box (zR_ r))])
   (fun j=>xs.length - j) 0 ?_ h (by kernel_rfl) (by kernel_rfl) ?_
 ·exact ⟨Nat.zero_le _,rfl⟩
 clear h;rintro j a w hI h
 obtain ⟨hI1,hI2⟩:=hI
 refine rqk za0 12 [] [(0,.t (.c (.own 9 xs.length))),(1,.t (.c (.fn (.func 91) [] [.ptr 10 0]))),(7,vN xs.length),(8,vN j),(9,vb (decide ((j:Int)<(xs.length:Int))))] h fun a w h=>?_
 refine wp_seq ?_
 refine zam ((j:Int)<(xs.length:Int)) h rfl (fun hc1 hc1'=>?_) (fun hc4 hc4'=>?_)
 ·refine wp_skip (za2 (wp_seq (wp_block (rqk za0 12 [] [(0,.t (.c (.own 9 xs.length))),(1,.t (.c (.fn (.func 91) [] [.ptr 10 0]))),(5,vN j),(7,vN xs.length),(8,vN j)] h fun a w h=>?_))))
  obtain ⟨x1,hx1⟩:=gl xs j
  refine rqk za0 12 [(3,.g (xO 14 12 9 xs.length j kc_3 (OV.tmp 13 _))),(4,.g (Op.loadR_agg (d:=15) (t:=14) (n:=9) (i:=j) (fo:=0) (rty:=57) (es:=4) (xs:=[.sl 3 (x1.t.parts.map za4.d),.raw (.bool x1.t.k.neg),nsl x1.t.k.abs,.raw (.bool x1.eq)]) la_1 rfl (zaf hx1 (f:=zac.d)) rfl rfl)),(5,.g (Op.callV (d:=16) (t:=11) (cap:=[.ptr 10 0]) (args:=[(vR x1)]) (rs:=[(15,(vR x1))]) (tys:=#[57]) (Lindex1b x1 r (hf x1 (lM hx1)) hr) lf6_2 (OVs.cons (OV.tmp 15 _) (OVs.nil))))] [(0,.t (.c (.own 9 xs.length))),(1,.t (.c (.fn (.func 91) [] [.ptr 10 0]))),(5,vN j),(7,vN xs.length),(8,vN j),(16,vb (zbx x1 r == 0))] h fun a w h=>?_
  refine zah (zbx x1 r == 0) h rfl (fun hc2=>?_) (fun hc3=>?_)
  ·have hc2':=hc2;(try simp at hc2')
   refine rqk za0 12 [] [(0,.t (.c (.own 9 xs.length))),(1,.t (.c (.fn (.func 91) [] [.ptr 10 0]))),(4,vN j),(7,vN xs.length),(8,vN j)] h fun a w h=>?_
   refine wp_ret (zad (za8 (za8 (zad (za8 ?_)))))
   refine rT (.c (cI (j:Int))) h rfl rfl ?_
   have hz:zib (fun p=>zbx p r == 0) xs 0=(j:Int):=by rw [hI2,zhl hx1,if_pos hc2]
   rw [hz];first | done | rfl
  have hc3':=hc3;(try simp at hc3')
  refine wp_skip (zaa (za2 (rnk za0 12 [(0,.j1 j)] [(0,.t (.c (.own 9 xs.length))),(1,.t (.c (.fn (.func 91) [] [.ptr 10 0]))),(7,vN xs.length),(8,vI ((j:Int)+1))] h fun a w h=>?_)))
  refine za2 ?_
  refine zaj (x:=j) (y:=j+1) h ?_ ?_
  ·exact ⟨by have:=zag hx1;omega,by rw [hI2,zhl hx1,if_neg (by rw [hc3];exact Bool.noConfusion)]⟩
  show xs.length - (j+1)<xs.length - j
  have:=zag hx1;omega
 refine wp_exit (zab (zab (za7 (za2 (rqk za0 12 [] [(4,vI (-1))] h fun a w h=>?_)))))
 refine wp_ret ?_
 refine rT (.c (cI (-1))) h rfl rfl ?_
 have hz:zib (fun p=>zbx p r == 0) xs 0=-1:=by rw [hI2,List.drop_of_length_le (by omega)];rfl
 rw [hz];first | done | rfl
theorem LindexO (xs:List zac) (r:zac) (hf:∀ x ∈ xs,TOk 200 3000 x.t) (hr:TOk 200 3000 r.t) (hl:xs.length≤1000000):Fn Tryz.prog 60 [(9,.row 57 4 (xs.map zac.d))] [.t (.c (.own 9 xs.length)),(vR r)] (vI (zib (fun p=>zbx p r == 0) xs 0)) [(9,.row 57 4 (xs.map zac.d))]:=by
 refine Fn.body Tryz.func60 rfl 8 rfl fun w H B a h=>?_
 refine rq za0 10 [] [(0,.t (.c (.own 9 xs.length))),(3,vp 10 0),(4,vI 0)] [(9,.row 57 4 (xs.map zac.d)),(10,.box (zR_ r))] h fun a w h=>?_
 refine rq za0 11 [(1,.g (Op.makeFs (d:=6) (fn:=.func 91) [(3,10,0)])),(2,.call (LIdxO xs r hf hr hl) lf6_3)] [(4,vI (zib (fun p=>zbx p r == 0) xs 0))] [(9,.row 57 4 (xs.map zac.d))] h fun a w h=>?_
 refine wp_ret ?_
 refine rT (.c (cI (zib (fun p=>zbx p r == 0) xs 0))) h rfl rfl ?_
 rfl
end
section
open Go.RowKit

def za1.okA (n L:Nat) (f:za1):Prop:=f.fold fun k r _ ps=>(k=2→TOk n L r.t)∧∀ p ∈ ps,p
theorem za1.okA_eq (n L:Nat) (f:za1):f.okA n L ↔ (f.kind=2→TOk n L f.r.t)∧∀ g ∈ f.kids,g.okA n L:=by
 have:=za1.fold_eq (fun k r _ (ps:List Prop)=>(k=2→TOk n L r.t)∧∀ p ∈ ps,p) f
 unfold za1.okA
 rw [this]
 refine and_congr_right fun _=>⟨fun h g hg=>h _ (List.mem_map.2 ⟨g,hg,rfl⟩),fun h p hp=>?_⟩
 obtain ⟨g,hg,rfl⟩:=List.mem_map.1 hp
 exact h g hg
theorem za1.okA_mono {n L n' L':Nat} (hn:n≤n') (hL:L≤L') (f:za1):f.okA n L→f.okA n' L' :=
 za1.ind (P:=fun f=>f.okA n L→f.okA n' L') (fun k r ks ih hf=>by
  rw [za1.okA_eq] at hf ⊢
  exact ⟨fun e=>(hf.1 e).mono hn hL,fun g hg=>ih g hg (hf.2 g hg)⟩) f
theorem zf5 (n L:Nat) (b:Bool):(zcf b).okA n L:=by
 rw [za1.okA_eq];cases b <;> exact ⟨fun e=>absurd e (by decide),fun g hg=>by cases hg⟩
theorem okA_atom {n L:Nat} {r:zac} (h:TOk n L r.t):(za1.mk 2 r []).okA n L:=by
 rw [za1.okA_eq];exact ⟨fun _=>h,fun g hg=>by cases hg⟩
theorem zea {n L:Nat} {k:Int} (hk:k=4∨k=5):∀ (fs out:List za1),(∀ g ∈ out,g.okA n L)→(∀ g ∈ fs,g.okA n L)→(zbe k fs out).okA n L
 | [],out,h,_=>by
  unfold zbe
  match out with
  | []=>exact zf5 _ _ _
  | [g]=>exact h g (List.mem_cons_self ..)
  | g :: q :: l=>rw [za1.okA_eq];exact ⟨fun e=>absurd e (by show k≠2;omega),h⟩
 | f :: fs,out,h,h2=>by
  rw [zbe]
  have hf:=h2 f (List.mem_cons_self ..)
  have hfs:∀ g ∈ fs,g.okA n L:=fun g hg=>h2 g (List.mem_cons_of_mem _ hg)
  split
  ·exact hf
  ·split
   ·exact zea hk fs out h hfs
   ·split
    ·exact zea hk fs _ (fun g hg=>(List.mem_append.1 hg).elim (h g) fun hg=>((za1.okA_eq _ _ _).1 hf).2 g hg) hfs
    ·exact zea hk fs _ (fun g hg=>(List.mem_append.1 hg).elim (h g) fun hg=>by rw [List.mem_singleton.1 hg];exact hf) hfs
theorem tight_okA {n L:Nat} {r:zac} (h:TOk n L r.t) (hn:n≤1000):(zav r).okA n (L+4):=by
 unfold zav
 split
 ·exact okA_atom (tight_tok h hn)
 ·exact zf5 _ _ _
theorem flat_okA {n L:Nat} (hn:n≤1000) (f:za1):f.okB n L→∀ d,(f.flat d).okA n (2*L+26) :=
 za1.ind (P:=fun f=>f.okB n L→∀ d,(f.flat d).okA n (2*L+26)) (fun k r ks ih hf d=>by
  obtain ⟨⟨h1,_⟩,h3⟩:=(za1.okB_eq _ _ _).1 hf
  change k=2→_ at h1
  change ∀ g ∈ cnt k ks,_ at h3
  rw [za1.flat_eq]
  show (zge k r (ks.map za1.flat) d).okA n (2*L+26)
  unfold zge
  split
  ·exact zf5 _ _ _
  ·split
   ·rename_i e
    split
    ·refine zea (.inr rfl) _ [] (fun g hg=>by cases hg) fun g hg=>?_
     obtain ⟨q,hq,rfl⟩:=List.mem_map.1 hg
     exact tight_okA (ziw (h1 e) hn q hq) hn
    ·exact za1.okA_mono (Nat.le_refl _) (by omega) _ (tight_okA (h1 e) hn)
   ·split
    ·rename_i e
     subst e
     cases ks with
     | nil=>exact zf5 _ _ _
     | cons g gs=>exact ih g (List.mem_cons_self ..) (h3 g (List.mem_cons_self ..)) (!d)
    ·split
     ·rename_i h4
      have hc:cnt k ks=ks:=by unfold cnt;rw [if_pos h4]
      rw [hc] at h3
      refine zea (by cases d <;> simp <;> omega) _ [] (fun g hg=>by cases hg) fun g hg=>?_
      rw [List.map_map] at hg
      obtain ⟨q,hq,rfl⟩:=List.mem_map.1 hg
      exact ih q hq (h3 q hq) d
     ·exact zf5 _ _ _) f
def atR (ps:List zac) (r:zac):Int:=zib (fun p=>zbx p r == 0) ps 0
def gathK (k:Int) (r:zac) (gs:List (List zac→List zac)) (ps:List zac):List zac:=if k=2∧atR ps r<0 then ps++[cpR r] else gs.foldl (fun a g=>g a) ps
def za1.gath (f:za1):List zac→List zac:=f.fold fun k r _ gs ps=>gathK k r gs ps
theorem za1.gath_eq (f:za1) (ps:List zac):f.gath ps=if f.kind=2∧atR ps f.r<0 then ps++[cpR f.r] else f.kids.foldl (fun a g=>g.gath a) ps:=by
 have:=congrFun (za1.fold_eq (fun k r _ (gs:List (List zac→List zac)) ps=>gathK k r gs ps) f) ps
 refine this.trans ?_
 unfold gathK
 rw [List.foldl_map];rfl
theorem zis (f:za1):∀ ps,(f.gath ps).length≤ps.length+f.nodes :=
 za1.ind (P:=fun f=>∀ ps,(f.gath ps).length≤ps.length+f.nodes) (fun k r ks ih ps=>by
  rw [za1.gath_eq,za1.nodes_eq]
  split
  ·rw [List.length_append];show ps.length+1≤ps.length+(1+_);omega
  ·have:∀ (xs:List za1),(∀ g ∈ xs,g ∈ ks)→∀ qs:List zac,(xs.foldl (fun a g=>g.gath a) qs).length≤qs.length+(xs.map za1.nodes).sum:=fun xs=>by
    induction xs with
    | nil=>intro _ qs;exact Nat.le_refl _
    | cons x xs ihx =>
     intro hx qs
     rw [List.foldl_cons,List.map_cons,List.sum_cons]
     have h1:=ihx (fun g hg=>hx g (List.mem_cons_of_mem _ hg)) (x.gath qs)
     have h2:=ih x (hx x (List.mem_cons_self ..)) qs
     omega
   have:=this ks (fun g hg=>hg) ps
   show (ks.foldl _ ps).length≤ps.length+(1+(ks.map za1.nodes).sum)
   omega) f
theorem zit (xs:List za1) (qs:List zac):(xs.foldl (fun a g=>g.gath a) qs).length≤qs.length+(xs.map za1.nodes).sum:=by
 induction xs generalizing qs with
 | nil=>exact Nat.le_refl _
 | cons x xs ih =>
  rw [List.foldl_cons,List.map_cons,List.sum_cons]
  have h1:=ih (x.gath qs)
  have h2:=zis x qs
  omega
theorem gath_all {P:zac→Prop} (hP:∀ r,TOk 200 2900 r.t→P (cpR r)) (f:za1):f.okA 200 2900→∀ ps,(∀ r ∈ ps,P r)→∀ r ∈ f.gath ps,P r :=
 za1.ind (P:=fun f=>f.okA 200 2900→∀ ps,(∀ r ∈ ps,P r)→∀ r ∈ f.gath ps,P r) (fun k r ks ih hf ps hps=>by
  obtain ⟨h1,h2⟩:=(za1.okA_eq _ _ _).1 hf
  rw [za1.gath_eq]
  split
  ·rename_i e
   intro q hq
   rcases List.mem_append.1 hq with hq | hq
   ·exact hps q hq
   ·rw [List.mem_singleton.1 hq];exact hP r (h1 e.1)
  ·have:∀ (xs:List za1),(∀ g ∈ xs,g ∈ ks)→∀ qs:List zac,(∀ r ∈ qs,P r)→∀ r ∈ xs.foldl (fun a g=>g.gath a) qs,P r:=fun xs=>by
    induction xs with
    | nil=>intro _ qs h;exact h
    | cons x xs ihx =>
     intro hx qs h
     rw [List.foldl_cons]
     exact ihx (fun g hg=>hx g (List.mem_cons_of_mem _ hg)) _ (ih x (hx x (List.mem_cons_self ..)) (h2 x (hx x (List.mem_cons_self ..))) qs h)
   exact this ks (fun g hg=>hg) ps hps) f
theorem zip {f:za1} (hf:f.okA 200 2900) {ps:List zac} (hps:∀ r ∈ ps,TOk 200 3000 r.t):∀ r ∈ f.gath ps,TOk 200 3000 r.t:=gath_all (P:=fun r=>TOk 200 3000 r.t) (fun r hr=>(hr.plain (by decide)).mono (by decide) (by decide)) f hf ps hps
theorem ziu {ks:List za1} {j:Nat} {g:za1} {ps:List zac} (h:ks[j]?=some g):(ks.take (j+1)).foldl (fun a g=>g.gath a) ps=g.gath ((ks.take j).foldl (fun a g=>g.gath a) ps):=by
 rw [List.take_add_one,h,List.foldl_append];rfl
theorem zir {f:za1} {ps:List zac} (h:f.kind=2) (hi:atR ps f.r<0):f.gath ps=ps++[cpR f.r]:=by rw [za1.gath_eq,if_pos ⟨h,hi⟩]
theorem ziq {f:za1} {ps:List zac} (h:¬ (f.kind=2∧atR ps f.r<0)):f.gath ps=f.kids.foldl (fun a g=>g.gath a) ps:=by rw [za1.gath_eq,if_neg h]
end
section
open Go.RowKit

theorem lh8_0:za6 Tryz.prog 60:=za6.mk' (by kernel_rfl)
theorem lh8_3:ElT Tryz.prog 23 57 4 64:=ElT.mk' Tryz.underlying23 _ _ rfl rfl (by kernel_rfl) (by kernel_rfl) (by kernel_rfl) (by decide) (by decide)
theorem lh8_5:za6 Tryz.prog 33:=za6.mk' (by kernel_rfl)
theorem zf3 {f:za1} (h:f.okA 200 2900) (e:(f.kind == 2)=true):TOk 200 3000 f.r.t:=(((za1.okA_eq _ _ _).1 h).1 (by simpa using e)).mono (by decide) (by decide)
theorem zdr {f g:za1} (h:f.okA 200 2900) (hg:g ∈ f.kids):g.okA 200 2900:=((za1.okA_eq _ _ _).1 h).2 g hg
theorem fold_ok {ks:List za1} (h:∀ g ∈ ks,g.okA 200 2900) {ps:List zac} (hps:∀ r ∈ ps,TOk 200 3000 r.t):∀ r ∈ ks.foldl (fun a g=>g.gath a) ps,TOk 200 3000 r.t:=by
 induction ks generalizing ps with
 | nil=>exact hps
 | cons x xs ih=>rw [List.foldl_cons];exact ih (fun g hg=>h g (List.mem_cons_of_mem _ hg)) (zip (h x (List.mem_cons_self ..)) hps)
theorem zfk (ks:List za1) (j:Nat) {x:za1} (h:ks[j]?=some x):((ks.take j).map za1.nodes).sum+x.nodes≤(ks.map za1.nodes).sum:=by
 have e:ks=ks.take j++ks.drop j:=(List.take_append_drop j ks).symm
 have h1:=zbb h
 have h2:(ks.map za1.nodes).sum=((ks.take j).map za1.nodes).sum+((ks.drop j).map za1.nodes).sum:=by rw [← zbf,List.take_append_drop]
 omega
theorem take_le (ks:List za1) (j:Nat):((ks.take j).map za1.nodes).sum≤(ks.map za1.nodes).sum:=by
 have h2:(ks.map za1.nodes).sum=((ks.take j).map za1.nodes).sum+((ks.drop j).map za1.nodes).sum:=by rw [← zbf,List.take_append_drop]
 omega
theorem Lgather9 (ps:List zac) (f:za1) (ih:∀ g ∈ f.kids,∀ ps:List zac,(∀ r ∈ ps,TOk 200 3000 r.t)→ps.length+g.nodes≤1000000→Fn Tryz.prog 33 [(13,.row 57 4 (ps.map zac.d))] [.t (.c (.own 13 ps.length)),(vF g)] (.t (.c (.own 14 (za1.gath g ps).length))) [(14,.row 57 4 ((za1.gath g ps).map zac.d))]) (hf:f.okA 200 2900) (hps:∀ r ∈ ps,TOk 200 3000 r.t) (hl:ps.length+f.nodes≤1000000):Fn Tryz.prog 33 [(9,.row 57 4 (ps.map zac.d))] [.t (.c (.own 9 ps.length)),(vF f)] (.t (.c (.own 14 (za1.gath f ps).length))) [(14,.row 57 4 ((za1.gath f ps).map zac.d))]:=by
 have hnf:=za1.nodes_eq f
 have lkn:=zdc f.kids
 refine Fn.body Tryz.func33 rfl 40 rfl fun w H B a h=>?_
 refine rq za0 20 [] [(0,.t (.c (.own 9 ps.length))),(3,vp 20 0),(4,.t (.c (.d (.raw zae))))] [(9,.row 57 4 (ps.map zac.d)),(20,.box (zF f))] h fun a w h=>?_
 refine wp_seq ?_
 rcases Bool.eq_false_or_eq_true (f.kind == 2) with hc | hc
 ·have hc1:=hc;clear hc
  have hc1':=hc1;(try simp at hc1')
  refine rqk za0 21 [(2,.cmp (op:=.eql) (m:=f.kind) (n:=2) (b:=true) .i64 hc1),(7,.call (LindexO ps f.r hps (zf3 hf hc1) (by omega)) lh8_0)] [(0,.t (.c (.own 9 ps.length))),(3,vp 20 0),(4,.t (.c (.d (.raw zae)))),(16,vb (decide ((atR ps f.r)<0)))] h fun a w h=>?_
  refine zam ((atR ps f.r)<0) h rfl (fun hc2 hc2'=>?_) (fun hc3 hc3'=>?_)
  ·refine rq za0 21 [(4,.call (zfg f.r.t (zf3 hf hc1) (by decide) (by decide)) tm_7),(9,.g (bD 26 ([(zac.mk (za3 f.r.t) f.r.eq)].map zac.d) [(25,.t (.agg ((zT (za3 f.r.t))++[cB f.r.eq])))] kc_5 (.cons (i:=0) (OV.tmp 25 _) (.nil)) (by kernel_rfl) (by simp [zac.d]))),(10,.g (aD 27 17 26 9 21 ps [(zac.mk (za3 f.r.t) f.r.eq)] zac.d lh8_3 (by simp [zac.d])))] [(0,.t (.c (.own 9 ps.length))),(3,vp 20 0),(4,.t (.c (.own 21 (ps++[(zac.mk (za3 f.r.t) f.r.eq)]).length)))] [(20,.box (zF f)),(21,.row 57 4 ((ps++[(zac.mk (za3 f.r.t) f.r.eq)]).map zac.d))] h fun a w h=>?_
   refine wp_ret (za8 ?_)
   replace h:=cv (fun z_:List zac=>F.of [(0,.t (.c (.own 9 ps.length))),(3,vp 20 0),(4,.t (.c (.own 21 z_.length)))] [(20,.box (zF f)),(21,.row 57 4 (z_.map zac.d))]) (show ((ps++[(zac.mk (za3 f.r.t) f.r.eq)]):List zac)=(za1.gath f ps) from (zir (by have:=hc1;simpa using this) (dT hc2)).symm) h
   replace h:=zbz 21 14 [(0,.t (.c (.own 9 ps.length))),(3,vp 20 0),(4,.t (.c (.own 14 (za1.gath f ps).length)))] [(20,.box (zF f)),(14,.row 57 4 ((za1.gath f ps).map zac.d))] h
   refine rT (.c (.own 14 (za1.gath f ps).length)) h rfl rfl ?_
   rfl
  refine wp_skip (za2 (wp_seq (rq za0 22 [(2,.len (za9 6 za1.d f.kids))] [(0,.t (.c (.own 9 ps.length))),(4,.t (.c (.d (.raw zae)))),(29,(vFs f.kids)),(30,vN f.kids.length),(31,vI 0)] [(9,.row 57 4 (ps.map zac.d))] h fun a w h=>?_)))
  refine wp_block ?_
  replace h:=zbz 9 13 [(0,.t (.c (.own 13 ((f.kids.take 0).foldl (fun a g=>g.gath a) ps).length))),(4,.t (.c (.d (.raw zae)))),(29,(vFs f.kids)),(30,vN f.kids.length),(31,vI 0)] [(13,.row 57 4 (((f.kids.take 0).foldl (fun a g=>g.gath a) ps).map zac.d))] h
  refine zau (ι:=(Nat)) (fun j=>j≤f.kids.length)
    (fun j=>[(0,.t (.c (.own 13 ((f.kids.take j).foldl (fun a g=>g.gath a) ps).length))),(4,.t (.c (.d (.raw zae)))),(29,(vFs f.kids)),(30,vN f.kids.length),(31,vN j)])
    (fun j=>[(13,.row 57 4 (((f.kids.take j).foldl (fun a g=>g.gath a) ps).map zac.d))])
    (fun j=>f.kids.length - j) 0 ?_ h (by kernel_rfl) (by kernel_rfl) ?_
  ·exact Nat.zero_le _
  clear h;rintro j a w hI h
  have lfj:=zit (f.kids.take j) ps
  have ltj:=take_le f.kids j
  refine rqk za0 22 [] [(0,.t (.c (.own 13 ((f.kids.take j).foldl (fun a g=>g.gath a) ps).length))),(4,.t (.c (.d (.raw zae)))),(29,(vFs f.kids)),(30,vN f.kids.length),(31,vN j),(32,vb (decide ((j:Int)<(f.kids.length:Int))))] h fun a w h=>?_
  refine wp_seq ?_
  refine zam ((j:Int)<(f.kids.length:Int)) h rfl (fun hc4 hc4'=>?_) (fun hc5 hc5'=>?_)
  ·refine wp_skip (za2 (wp_seq (wp_block ?_)))
   obtain ⟨x3,hx3⟩:=gl f.kids j
   refine rq za0 22 [(0,.g (xD 33 29 zhj ((zaf hx3 (f:=za1.d)).trans (congrArg some (za1.d_eq x3))) (OV.tmp 31 _)))] [(0,.t (.c (.own 13 ((f.kids.take j).foldl (fun a g=>g.gath a) ps).length))),(4,.t (.c (.d (.raw zae)))),(6,vp 22 0),(29,(vFs f.kids)),(30,vN f.kids.length),(31,vN j)] [(13,.row 57 4 (((f.kids.take j).foldl (fun a g=>g.gath a) ps).map zac.d)),(22,.box (zF x3))] h fun a w h=>?_
   refine rn za0 23 [(2,.call (ih x3 (lM hx3) ((f.kids.take j).foldl (fun a g=>g.gath a) ps) (fold_ok (fun q hq=>zdr hf (List.mem_of_mem_take hq)) hps) (by have:=zfk f.kids j hx3;omega)) lh8_5)] [(0,.t (.c (.own 14 (za1.gath x3 ((f.kids.take j).foldl (fun a g=>g.gath a) ps)).length))),(4,.t (.c (.d (.raw zae)))),(29,(vFs f.kids)),(30,vN f.kids.length),(31,vN j)] [(14,.row 57 4 ((za1.gath x3 ((f.kids.take j).foldl (fun a g=>g.gath a) ps)).map zac.d))] h fun a w h=>?_
   refine zaa (za2 (rnk za0 23 [(0,.j1 j)] [(0,.t (.c (.own 14 (za1.gath x3 ((f.kids.take j).foldl (fun a g=>g.gath a) ps)).length))),(4,.t (.c (.d (.raw zae)))),(29,(vFs f.kids)),(30,vN f.kids.length),(31,vI ((j:Int)+1))] h fun a w h=>?_))
   refine za2 ?_
   replace h:=zbz 14 13 [(0,.t (.c (.own 13 (za1.gath x3 ((f.kids.take j).foldl (fun a g=>g.gath a) ps)).length))),(4,.t (.c (.d (.raw zae)))),(29,(vFs f.kids)),(30,vN f.kids.length),(31,vI ((j:Int)+1))] [(13,.row 57 4 ((za1.gath x3 ((f.kids.take j).foldl (fun a g=>g.gath a) ps)).map zac.d))] h
   replace h:=cv (fun z_:List zac=>F.of [(0,.t (.c (.own 13 z_.length))),(4,.t (.c (.d (.raw zae)))),(29,(vFs f.kids)),(30,vN f.kids.length),(31,vI ((j:Int)+1))] [(13,.row 57 4 (z_.map zac.d))]) (show ((za1.gath x3 ((f.kids.take j).foldl (fun a g=>g.gath a) ps)):List zac)=((f.kids.take (j+1)).foldl (fun a g=>g.gath a) ps) from (ziu hx3).symm) h
   refine zaj (x:=j) (y:=j+1) h ?_ ?_
   ·have:=zag hx3
    show j+1≤f.kids.length
    omega
   show f.kids.length - (j+1)<f.kids.length - j
   have:=zag hx3;omega
  refine wp_exit (zab (zab (za7 (za2 (rqk za0 23 [] [(4,.t (.c (.own 13 ((f.kids.take j).foldl (fun a g=>g.gath a) ps).length)))] h fun a w h=>?_)))))
  refine wp_ret ?_
  replace h:=cv (fun z_:List zac=>F.of [(4,.t (.c (.own 13 z_.length)))] [(13,.row 57 4 (z_.map zac.d))]) (show (((f.kids.take j).foldl (fun a g=>g.gath a) ps):List zac)=(za1.gath f ps) from (by rw [List.take_of_length_le (by omega)];exact (ziq (fun e=>dF hc3 e.2)).symm)) h
  replace h:=zbz 13 14 [(4,.t (.c (.own 14 (za1.gath f ps).length)))] [(14,.row 57 4 ((za1.gath f ps).map zac.d))] h
  refine rT (.c (.own 14 (za1.gath f ps).length)) h rfl rfl ?_
  rfl
 have hc6:=hc;clear hc
 have hc6':=hc6;(try simp at hc6')
 refine rqk za0 23 [(2,.cmp (op:=.eql) (m:=f.kind) (n:=2) (b:=false) .i64 hc6)] [(0,.t (.c (.own 9 ps.length))),(3,vp 20 0),(4,.t (.c (.d (.raw zae)))),(16,vb false)] h fun a w h=>?_
 refine zah false h rfl nofun (fun _=>?_)
 refine wp_skip (za2 (wp_seq (rq za0 23 [(2,.len (za9 6 za1.d f.kids))] [(0,.t (.c (.own 9 ps.length))),(4,.t (.c (.d (.raw zae)))),(29,(vFs f.kids)),(30,vN f.kids.length),(31,vI 0)] [(9,.row 57 4 (ps.map zac.d))] h fun a w h=>?_)))
 refine wp_block ?_
 replace h:=zbz 9 13 [(0,.t (.c (.own 13 ((f.kids.take 0).foldl (fun a g=>g.gath a) ps).length))),(4,.t (.c (.d (.raw zae)))),(29,(vFs f.kids)),(30,vN f.kids.length),(31,vI 0)] [(13,.row 57 4 (((f.kids.take 0).foldl (fun a g=>g.gath a) ps).map zac.d))] h
 refine zau (ι:=(Nat)) (fun j=>j≤f.kids.length)
   (fun j=>[(0,.t (.c (.own 13 ((f.kids.take j).foldl (fun a g=>g.gath a) ps).length))),(4,.t (.c (.d (.raw zae)))),(29,(vFs f.kids)),(30,vN f.kids.length),(31,vN j)])
   (fun j=>[(13,.row 57 4 (((f.kids.take j).foldl (fun a g=>g.gath a) ps).map zac.d))])
   (fun j=>f.kids.length - j) 0 ?_ h (by kernel_rfl) (by kernel_rfl) ?_
 ·exact Nat.zero_le _
 clear h;rintro j a w hI h
 have lfj:=zit (f.kids.take j) ps
 have ltj:=take_le f.kids j
 refine rqk za0 23 [] [(0,.t (.c (.own 13 ((f.kids.take j).foldl (fun a g=>g.gath a) ps).length))),(4,.t (.c (.d (.raw zae)))),(29,(vFs f.kids)),(30,vN f.kids.length),(31,vN j),(32,vb (decide ((j:Int)<(f.kids.length:Int))))] h fun a w h=>?_
 refine wp_seq ?_
 refine zam ((j:Int)<(f.kids.length:Int)) h rfl (fun hc7 hc7'=>?_) (fun hc8 hc8'=>?_)
 ·refine wp_skip (za2 (wp_seq (wp_block ?_)))
  obtain ⟨x5,hx5⟩:=gl f.kids j
  refine rq za0 23 [(0,.g (xD 33 29 zhj ((zaf hx5 (f:=za1.d)).trans (congrArg some (za1.d_eq x5))) (OV.tmp 31 _)))] [(0,.t (.c (.own 13 ((f.kids.take j).foldl (fun a g=>g.gath a) ps).length))),(4,.t (.c (.d (.raw zae)))),(6,vp 23 0),(29,(vFs f.kids)),(30,vN f.kids.length),(31,vN j)] [(13,.row 57 4 (((f.kids.take j).foldl (fun a g=>g.gath a) ps).map zac.d)),(23,.box (zF x5))] h fun a w h=>?_
  refine rn za0 24 [(2,.call (ih x5 (lM hx5) ((f.kids.take j).foldl (fun a g=>g.gath a) ps) (fold_ok (fun q hq=>zdr hf (List.mem_of_mem_take hq)) hps) (by have:=zfk f.kids j hx5;omega)) lh8_5)] [(0,.t (.c (.own 14 (za1.gath x5 ((f.kids.take j).foldl (fun a g=>g.gath a) ps)).length))),(4,.t (.c (.d (.raw zae)))),(29,(vFs f.kids)),(30,vN f.kids.length),(31,vN j)] [(14,.row 57 4 ((za1.gath x5 ((f.kids.take j).foldl (fun a g=>g.gath a) ps)).map zac.d))] h fun a w h=>?_
  refine zaa (za2 (rnk za0 24 [(0,.j1 j)] [(0,.t (.c (.own 14 (za1.gath x5 ((f.kids.take j).foldl (fun a g=>g.gath a) ps)).length))),(4,.t (.c (.d (.raw zae)))),(29,(vFs f.kids)),(30,vN f.kids.length),(31,vI ((j:Int)+1))] h fun a w h=>?_))
  refine za2 ?_
  replace h:=zbz 14 13 [(0,.t (.c (.own 13 (za1.gath x5 ((f.kids.take j).foldl (fun a g=>g.gath a) ps)).length))),(4,.t (.c (.d (.raw zae)))),(29,(vFs f.kids)),(30,vN f.kids.length),(31,vI ((j:Int)+1))] [(13,.row 57 4 ((za1.gath x5 ((f.kids.take j).foldl (fun a g=>g.gath a) ps)).map zac.d))] h
  replace h:=cv (fun z_:List zac=>F.of [(0,.t (.c (.own 13 z_.length))),(4,.t (.c (.d (.raw zae)))),(29,(vFs f.kids)),(30,vN f.kids.length),(31,vI ((j:Int)+1))] [(13,.row 57 4 (z_.map zac.d))]) (show ((za1.gath x5 ((f.kids.take j).foldl (fun a g=>g.gath a) ps)):List zac)=((f.kids.take (j+1)).foldl (fun a g=>g.gath a) ps) from (ziu hx5).symm) h
  refine zaj (x:=j) (y:=j+1) h ?_ ?_
  ·have:=zag hx5
   show j+1≤f.kids.length
   omega
  show f.kids.length - (j+1)<f.kids.length - j
  have:=zag hx5;omega
 refine wp_exit (zab (zab (za7 (za2 (rqk za0 24 [] [(4,.t (.c (.own 13 ((f.kids.take j).foldl (fun a g=>g.gath a) ps).length)))] h fun a w h=>?_)))))
 refine wp_ret ?_
 replace h:=cv (fun z_:List zac=>F.of [(4,.t (.c (.own 13 z_.length)))] [(13,.row 57 4 (z_.map zac.d))]) (show (((f.kids.take j).foldl (fun a g=>g.gath a) ps):List zac)=(za1.gath f ps) from (by rw [List.take_of_length_le (by omega)];exact (ziq (fun e=>by have:=hc6;simp at this;omega)).symm)) h
 replace h:=zbz 13 14 [(4,.t (.c (.own 14 (za1.gath f ps).length)))] [(14,.row 57 4 ((za1.gath f ps).map zac.d))] h
 refine rT (.c (.own 14 (za1.gath f ps).length)) h rfl rfl ?_
 rfl
theorem Lgather13 (ps:List zac) (f:za1) (ih:∀ g ∈ f.kids,∀ ps:List zac,(∀ r ∈ ps,TOk 200 3000 r.t)→ps.length+g.nodes≤1000000→Fn Tryz.prog 33 [(9,.row 57 4 (ps.map zac.d))] [.t (.c (.own 9 ps.length)),(vF g)] (.t (.c (.own 14 (za1.gath g ps).length))) [(14,.row 57 4 ((za1.gath g ps).map zac.d))]) (hf:f.okA 200 2900) (hps:∀ r ∈ ps,TOk 200 3000 r.t) (hl:ps.length+f.nodes≤1000000):Fn Tryz.prog 33 [(13,.row 57 4 (ps.map zac.d))] [.t (.c (.own 13 ps.length)),(vF f)] (.t (.c (.own 14 (za1.gath f ps).length))) [(14,.row 57 4 ((za1.gath f ps).map zac.d))]:=by
 have hnf:=za1.nodes_eq f
 have lkn:=zdc f.kids
 refine Fn.body Tryz.func33 rfl 40 rfl fun w H B a h=>?_
 replace h:=zbz 13 9 [(0,.t (.c (.own 9 ps.length))),(1,(vF f))] [(9,.row 57 4 (ps.map zac.d))] h
 refine rq za0 20 [] [(0,.t (.c (.own 9 ps.length))),(3,vp 20 0),(4,.t (.c (.d (.raw zae))))] [(9,.row 57 4 (ps.map zac.d)),(20,.box (zF f))] h fun a w h=>?_
 refine wp_seq ?_
 rcases Bool.eq_false_or_eq_true (f.kind == 2) with hc | hc
 ·have hc1:=hc;clear hc
  have hc1':=hc1;(try simp at hc1')
  refine rqk za0 21 [(2,.cmp (op:=.eql) (m:=f.kind) (n:=2) (b:=true) .i64 hc1),(7,.call (LindexO ps f.r hps (zf3 hf hc1) (by omega)) lh8_0)] [(0,.t (.c (.own 9 ps.length))),(3,vp 20 0),(4,.t (.c (.d (.raw zae)))),(16,vb (decide ((atR ps f.r)<0)))] h fun a w h=>?_
  refine zam ((atR ps f.r)<0) h rfl (fun hc2 hc2'=>?_) (fun hc3 hc3'=>?_)
  ·refine rq za0 21 [(4,.call (zfg f.r.t (zf3 hf hc1) (by decide) (by decide)) tm_7),(9,.g (bD 26 ([(zac.mk (za3 f.r.t) f.r.eq)].map zac.d) [(25,.t (.agg ((zT (za3 f.r.t))++[cB f.r.eq])))] kc_5 (.cons (i:=0) (OV.tmp 25 _) (.nil)) (by kernel_rfl) (by simp [zac.d]))),(10,.g (aD 27 17 26 9 21 ps [(zac.mk (za3 f.r.t) f.r.eq)] zac.d lh8_3 (by simp [zac.d])))] [(0,.t (.c (.own 9 ps.length))),(3,vp 20 0),(4,.t (.c (.own 21 (ps++[(zac.mk (za3 f.r.t) f.r.eq)]).length)))] [(20,.box (zF f)),(21,.row 57 4 ((ps++[(zac.mk (za3 f.r.t) f.r.eq)]).map zac.d))] h fun a w h=>?_
   refine wp_ret (za8 ?_)
   replace h:=cv (fun z_:List zac=>F.of [(0,.t (.c (.own 9 ps.length))),(3,vp 20 0),(4,.t (.c (.own 21 z_.length)))] [(20,.box (zF f)),(21,.row 57 4 (z_.map zac.d))]) (show ((ps++[(zac.mk (za3 f.r.t) f.r.eq)]):List zac)=(za1.gath f ps) from (zir (by have:=hc1;simpa using this) (dT hc2)).symm) h
   replace h:=zbz 21 14 [(0,.t (.c (.own 9 ps.length))),(3,vp 20 0),(4,.t (.c (.own 14 (za1.gath f ps).length)))] [(20,.box (zF f)),(14,.row 57 4 ((za1.gath f ps).map zac.d))] h
   refine rT (.c (.own 14 (za1.gath f ps).length)) h rfl rfl ?_
   rfl
  refine wp_skip (za2 (wp_seq (rq za0 22 [(2,.len (za9 6 za1.d f.kids))] [(0,.t (.c (.own 9 ps.length))),(4,.t (.c (.d (.raw zae)))),(29,(vFs f.kids)),(30,vN f.kids.length),(31,vI 0)] [(9,.row 57 4 (ps.map zac.d))] h fun a w h=>?_)))
  refine wp_block ?_
  refine zau (ι:=(Nat)) (fun j=>j≤f.kids.length)
    (fun j=>[(0,.t (.c (.own 9 ((f.kids.take j).foldl (fun a g=>g.gath a) ps).length))),(4,.t (.c (.d (.raw zae)))),(29,(vFs f.kids)),(30,vN f.kids.length),(31,vN j)])
    (fun j=>[(9,.row 57 4 (((f.kids.take j).foldl (fun a g=>g.gath a) ps).map zac.d))])
    (fun j=>f.kids.length - j) 0 ?_ h (by kernel_rfl) (by kernel_rfl) ?_
  ·exact Nat.zero_le _
  clear h;rintro j a w hI h
  have lfj:=zit (f.kids.take j) ps
  have ltj:=take_le f.kids j
  refine rqk za0 22 [] [(0,.t (.c (.own 9 ((f.kids.take j).foldl (fun a g=>g.gath a) ps).length))),(4,.t (.c (.d (.raw zae)))),(29,(vFs f.kids)),(30,vN f.kids.length),(31,vN j),(32,vb (decide ((j:Int)<(f.kids.length:Int))))] h fun a w h=>?_
  refine wp_seq ?_
  refine zam ((j:Int)<(f.kids.length:Int)) h rfl (fun hc4 hc4'=>?_) (fun hc5 hc5'=>?_)
  ·refine wp_skip (za2 (wp_seq (wp_block ?_)))
   obtain ⟨x3,hx3⟩:=gl f.kids j
   refine rq za0 22 [(0,.g (xD 33 29 zhj ((zaf hx3 (f:=za1.d)).trans (congrArg some (za1.d_eq x3))) (OV.tmp 31 _)))] [(0,.t (.c (.own 9 ((f.kids.take j).foldl (fun a g=>g.gath a) ps).length))),(4,.t (.c (.d (.raw zae)))),(6,vp 22 0),(29,(vFs f.kids)),(30,vN f.kids.length),(31,vN j)] [(9,.row 57 4 (((f.kids.take j).foldl (fun a g=>g.gath a) ps).map zac.d)),(22,.box (zF x3))] h fun a w h=>?_
   refine rn za0 23 [(2,.call (ih x3 (lM hx3) ((f.kids.take j).foldl (fun a g=>g.gath a) ps) (fold_ok (fun q hq=>zdr hf (List.mem_of_mem_take hq)) hps) (by have:=zfk f.kids j hx3;omega)) lh8_5)] [(0,.t (.c (.own 14 (za1.gath x3 ((f.kids.take j).foldl (fun a g=>g.gath a) ps)).length))),(4,.t (.c (.d (.raw zae)))),(29,(vFs f.kids)),(30,vN f.kids.length),(31,vN j)] [(14,.row 57 4 ((za1.gath x3 ((f.kids.take j).foldl (fun a g=>g.gath a) ps)).map zac.d))] h fun a w h=>?_
   refine zaa (za2 (rnk za0 23 [(0,.j1 j)] [(0,.t (.c (.own 14 (za1.gath x3 ((f.kids.take j).foldl (fun a g=>g.gath a) ps)).length))),(4,.t (.c (.d (.raw zae)))),(29,(vFs f.kids)),(30,vN f.kids.length),(31,vI ((j:Int)+1))] h fun a w h=>?_))
   refine za2 ?_
   replace h:=zbz 14 9 [(0,.t (.c (.own 9 (za1.gath x3 ((f.kids.take j).foldl (fun a g=>g.gath a) ps)).length))),(4,.t (.c (.d (.raw zae)))),(29,(vFs f.kids)),(30,vN f.kids.length),(31,vI ((j:Int)+1))] [(9,.row 57 4 ((za1.gath x3 ((f.kids.take j).foldl (fun a g=>g.gath a) ps)).map zac.d))] h
   replace h:=cv (fun z_:List zac=>F.of [(0,.t (.c (.own 9 z_.length))),(4,.t (.c (.d (.raw zae)))),(29,(vFs f.kids)),(30,vN f.kids.length),(31,vI ((j:Int)+1))] [(9,.row 57 4 (z_.map zac.d))]) (show ((za1.gath x3 ((f.kids.take j).foldl (fun a g=>g.gath a) ps)):List zac)=((f.kids.take (j+1)).foldl (fun a g=>g.gath a) ps) from (ziu hx3).symm) h
   refine zaj (x:=j) (y:=j+1) h ?_ ?_
   ·have:=zag hx3
    show j+1≤f.kids.length
    omega
   show f.kids.length - (j+1)<f.kids.length - j
   have:=zag hx3;omega
  refine wp_exit (zab (zab (za7 (za2 (rqk za0 23 [] [(4,.t (.c (.own 9 ((f.kids.take j).foldl (fun a g=>g.gath a) ps).length)))] h fun a w h=>?_)))))
  refine wp_ret ?_
  replace h:=cv (fun z_:List zac=>F.of [(4,.t (.c (.own 9 z_.length)))] [(9,.row 57 4 (z_.map zac.d))]) (show (((f.kids.take j).foldl (fun a g=>g.gath a) ps):List zac)=(za1.gath f ps) from (by rw [List.take_of_length_le (by omega)];exact (ziq (fun e=>dF hc3 e.2)).symm)) h
  replace h:=zbz 9 14 [(4,.t (.c (.own 14 (za1.gath f ps).length)))] [(14,.row 57 4 ((za1.gath f ps).map zac.d))] h
  refine rT (.c (.own 14 (za1.gath f ps).length)) h rfl rfl ?_
  rfl
 have hc6:=hc;clear hc
 have hc6':=hc6;(try simp at hc6')
 refine rqk za0 23 [(2,.cmp (op:=.eql) (m:=f.kind) (n:=2) (b:=false) .i64 hc6)] [(0,.t (.c (.own 9 ps.length))),(3,vp 20 0),(4,.t (.c (.d (.raw zae)))),(16,vb false)] h fun a w h=>?_
 refine zah false h rfl nofun (fun _=>?_)
 refine wp_skip (za2 (wp_seq (rq za0 23 [(2,.len (za9 6 za1.d f.kids))] [(0,.t (.c (.own 9 ps.length))),(4,.t (.c (.d (.raw zae)))),(29,(vFs f.kids)),(30,vN f.kids.length),(31,vI 0)] [(9,.row 57 4 (ps.map zac.d))] h fun a w h=>?_)))
 refine wp_block ?_
 refine zau (ι:=(Nat)) (fun j=>j≤f.kids.length)
   (fun j=>[(0,.t (.c (.own 9 ((f.kids.take j).foldl (fun a g=>g.gath a) ps).length))),(4,.t (.c (.d (.raw zae)))),(29,(vFs f.kids)),(30,vN f.kids.length),(31,vN j)])
   (fun j=>[(9,.row 57 4 (((f.kids.take j).foldl (fun a g=>g.gath a) ps).map zac.d))])
   (fun j=>f.kids.length - j) 0 ?_ h (by kernel_rfl) (by kernel_rfl) ?_
 ·exact Nat.zero_le _
 clear h;rintro j a w hI h
 have lfj:=zit (f.kids.take j) ps
 have ltj:=take_le f.kids j
 refine rqk za0 23 [] [(0,.t (.c (.own 9 ((f.kids.take j).foldl (fun a g=>g.gath a) ps).length))),(4,.t (.c (.d (.raw zae)))),(29,(vFs f.kids)),(30,vN f.kids.length),(31,vN j),(32,vb (decide ((j:Int)<(f.kids.length:Int))))] h fun a w h=>?_
 refine wp_seq ?_
 refine zam ((j:Int)<(f.kids.length:Int)) h rfl (fun hc7 hc7'=>?_) (fun hc8 hc8'=>?_)
 ·refine wp_skip (za2 (wp_seq (wp_block ?_)))
  obtain ⟨x5,hx5⟩:=gl f.kids j
  refine rq za0 23 [(0,.g (xD 33 29 zhj ((zaf hx5 (f:=za1.d)).trans (congrArg some (za1.d_eq x5))) (OV.tmp 31 _)))] [(0,.t (.c (.own 9 ((f.kids.take j).foldl (fun a g=>g.gath a) ps).length))),(4,.t (.c (.d (.raw zae)))),(6,vp 23 0),(29,(vFs f.kids)),(30,vN f.kids.length),(31,vN j)] [(9,.row 57 4 (((f.kids.take j).foldl (fun a g=>g.gath a) ps).map zac.d)),(23,.box (zF x5))] h fun a w h=>?_
  refine rn za0 24 [(2,.call (ih x5 (lM hx5) ((f.kids.take j).foldl (fun a g=>g.gath a) ps) (fold_ok (fun q hq=>zdr hf (List.mem_of_mem_take hq)) hps) (by have:=zfk f.kids j hx5;omega)) lh8_5)] [(0,.t (.c (.own 14 (za1.gath x5 ((f.kids.take j).foldl (fun a g=>g.gath a) ps)).length))),(4,.t (.c (.d (.raw zae)))),(29,(vFs f.kids)),(30,vN f.kids.length),(31,vN j)] [(14,.row 57 4 ((za1.gath x5 ((f.kids.take j).foldl (fun a g=>g.gath a) ps)).map zac.d))] h fun a w h=>?_
  refine zaa (za2 (rnk za0 24 [(0,.j1 j)] [(0,.t (.c (.own 14 (za1.gath x5 ((f.kids.take j).foldl (fun a g=>g.gath a) ps)).length))),(4,.t (.c (.d (.raw zae)))),(29,(vFs f.kids)),(30,vN f.kids.length),(31,vI ((j:Int)+1))] h fun a w h=>?_))
  refine za2 ?_
  replace h:=zbz 14 9 [(0,.t (.c (.own 9 (za1.gath x5 ((f.kids.take j).foldl (fun a g=>g.gath a) ps)).length))),(4,.t (.c (.d (.raw zae)))),(29,(vFs f.kids)),(30,vN f.kids.length),(31,vI ((j:Int)+1))] [(9,.row 57 4 ((za1.gath x5 ((f.kids.take j).foldl (fun a g=>g.gath a) ps)).map zac.d))] h
  replace h:=cv (fun z_:List zac=>F.of [(0,.t (.c (.own 9 z_.length))),(4,.t (.c (.d (.raw zae)))),(29,(vFs f.kids)),(30,vN f.kids.length),(31,vI ((j:Int)+1))] [(9,.row 57 4 (z_.map zac.d))]) (show ((za1.gath x5 ((f.kids.take j).foldl (fun a g=>g.gath a) ps)):List zac)=((f.kids.take (j+1)).foldl (fun a g=>g.gath a) ps) from (ziu hx5).symm) h
  refine zaj (x:=j) (y:=j+1) h ?_ ?_
  ·have:=zag hx5
   show j+1≤f.kids.length
   omega
  show f.kids.length - (j+1)<f.kids.length - j
  have:=zag hx5;omega
 refine wp_exit (zab (zab (za7 (za2 (rqk za0 24 [] [(4,.t (.c (.own 9 ((f.kids.take j).foldl (fun a g=>g.gath a) ps).length)))] h fun a w h=>?_)))))
 refine wp_ret ?_
 replace h:=cv (fun z_:List zac=>F.of [(4,.t (.c (.own 9 z_.length)))] [(9,.row 57 4 (z_.map zac.d))]) (show (((f.kids.take j).foldl (fun a g=>g.gath a) ps):List zac)=(za1.gath f ps) from (by rw [List.take_of_length_le (by omega)];exact (ziq (fun e=>by have:=hc6;simp at this;omega)).symm)) h
 replace h:=zbz 9 14 [(4,.t (.c (.own 14 (za1.gath f ps).length)))] [(14,.row 57 4 ((za1.gath f ps).map zac.d))] h
 refine rT (.c (.own 14 (za1.gath f ps).length)) h rfl rfl ?_
 rfl
theorem Lgather (f:za1):f.okA 200 2900→(∀ ps:List zac,(∀ r ∈ ps,TOk 200 3000 r.t)→ps.length+f.nodes≤1000000→Fn Tryz.prog 33 [(9,.row 57 4 (ps.map zac.d))] [.t (.c (.own 9 ps.length)),(vF f)] (.t (.c (.own 14 (za1.gath f ps).length))) [(14,.row 57 4 ((za1.gath f ps).map zac.d))])∧(∀ ps:List zac,(∀ r ∈ ps,TOk 200 3000 r.t)→ps.length+f.nodes≤1000000→Fn Tryz.prog 33 [(13,.row 57 4 (ps.map zac.d))] [.t (.c (.own 13 ps.length)),(vF f)] (.t (.c (.own 14 (za1.gath f ps).length))) [(14,.row 57 4 ((za1.gath f ps).map zac.d))]) :=
 za1.ind (P:=fun f=>f.okA 200 2900→(∀ ps:List zac,(∀ r ∈ ps,TOk 200 3000 r.t)→ps.length+f.nodes≤1000000→Fn Tryz.prog 33 [(9,.row 57 4 (ps.map zac.d))] [.t (.c (.own 9 ps.length)),(vF f)] (.t (.c (.own 14 (za1.gath f ps).length))) [(14,.row 57 4 ((za1.gath f ps).map zac.d))])∧(∀ ps:List zac,(∀ r ∈ ps,TOk 200 3000 r.t)→ps.length+f.nodes≤1000000→Fn Tryz.prog 33 [(13,.row 57 4 (ps.map zac.d))] [.t (.c (.own 13 ps.length)),(vF f)] (.t (.c (.own 14 (za1.gath f ps).length))) [(14,.row 57 4 ((za1.gath f ps).map zac.d))])) (fun k r ks ih hf=>⟨fun ps hps hl=>Lgather9 ps ⟨k,r,ks⟩ (fun g hg=>(ih g hg (zdr hf hg)).2) hf hps hl,fun ps hps hl=>Lgather13 ps ⟨k,r,ks⟩ (fun g hg=>(ih g hg (zdr hf hg)).1) hf hps hl⟩) f
end
section
open Go.RowKit

theorem li9_5:SlT Tryz.prog 22 62 9:=SlT.mk' Tryz.underlying22 (by kernel_rfl)
theorem li9_6:za6 Tryz.prog 34:=za6.mk' (by kernel_rfl)
def zgv (ps:List zac) (f:za1):List zac:=f.gath (ps.map cpR)
def zfh (ps:List zai):Prop:=ps.length≤100∧∀ p ∈ ps,p.at_=false→p.f.okB 20 10∧p.f.wid≤1000
def zal (a:List zac) (p:zai):List zac:=if p.at_=true then a else (p.f.flat false).gath a
def zde (props:List zai):List zac:=props.foldl zal []
def zcw (props:List zai):List zac × Int:=if (zde props).length>24 then ([],3) else (zde props,0)
theorem zay {f:za1} (h:f.okB 20 10∧f.wid≤1000):(f.flat false).okA 200 2900∧(f.flat false).nodes≤1000:=⟨za1.okA_mono (by decide) (by decide) _ (flat_okA (by decide) f h.1 false),Nat.le_trans (flat_nodes f false) h.2⟩
theorem zeq {props:List zai} {j:Nat} {p:zai} (h:props[j]?=some p):(props.take (j+1)).foldl zal []=zal ((props.take j).foldl zal []) p:=by
 rw [List.take_add_one,h,List.foldl_append];rfl
theorem base_ok {props:List zai} (h:zfh props):∀ j,((props.take j).foldl zal []).length≤j*1000∧∀ r ∈ (props.take j).foldl zal [],TOk 200 3000 r.t:=fun j=>by
 have key:∀ (xs:List zai),(∀ p ∈ xs,p.at_=false→p.f.okB 20 10∧p.f.wid≤1000)→∀ a:List zac,(∀ r ∈ a,TOk 200 3000 r.t)→(xs.foldl zal a).length≤a.length+xs.length*1000∧∀ r ∈ xs.foldl zal a,TOk 200 3000 r.t:=fun xs=>by
  induction xs with
  | nil=>intro _ a ha;exact ⟨by simp,ha⟩
  | cons x xs ih =>
   intro hx a ha
   rw [List.foldl_cons,List.length_cons]
   have h1:(zal a x).length≤a.length+1000∧∀ r ∈ zal a x,TOk 200 3000 r.t:=by
    unfold zal
    split
    ·exact ⟨by omega,ha⟩
    ·rename_i e
     obtain ⟨h2,h3⟩:=zay (hx x (List.mem_cons_self ..) (by simpa using e))
     exact ⟨by have:=zis (x.f.flat false) a;omega,zip h2 ha⟩
   obtain ⟨h2,h3⟩:=ih (fun p hp=>hx p (List.mem_cons_of_mem _ hp)) _ h1.2
   exact ⟨by omega,h3⟩
 obtain ⟨h1,h2⟩:=key (props.take j) (fun p hp=>h.2 p (List.mem_of_mem_take hp)) [] (fun r hr=>by cases hr)
 refine ⟨Nat.le_trans h1 ?_,h2⟩
 rw [List.length_take];show 0+_≤_;have:min j props.length*1000≤j*1000:=Nat.mul_le_mul_right 1000 (by omega);omega
theorem cps_tok {ps:List zac} (h:∀ r ∈ ps,TOk 200 2900 r.t):∀ r ∈ ps.map cpR,TOk 200 3000 r.t:=fun r hr=>by
 obtain ⟨q,hq,rfl⟩:=List.mem_map.1 hr
 exact ((h q hq).plain (by decide)).mono (by decide) (by decide)
theorem LGather (ps:List zac) (f:za1) (hps:∀ r ∈ ps,TOk 200 2900 r.t) (hf:f.okA 200 2900) (hl:ps.length+f.nodes≤1000000):Fn Tryz.prog 20 [] [(vRs ps),(vF f)] (vRs (zgv ps f)) []:=by
 refine Fn.body Tryz.func20 rfl 27 rfl fun w H B a h=>?_
 refine rq za0 20 [] [(0,(vRs ps)),(3,vp 20 0),(4,.t (.c (.d (.raw zae))))] [(20,.box (zF f))] h fun a w h=>?_
 refine rqk za0 21 [] [(0,(vRs ps)),(3,vp 20 0),(4,.t (.c (.d (.raw zae)))),(5,.t (.c (.d (.raw zae))))] h fun a w h=>?_
 refine wp_seq (rqk za0 21 [(1,.len (za9 4 zac.d ps))] [(3,vp 20 0),(4,.t (.c (.d (.raw zae)))),(5,.t (.c (.d (.raw zae)))),(8,(vRs ps)),(9,vN ps.length),(10,vI 0)] h fun a w h=>?_)
 refine wp_block ?_
 replace h:=zev 5 0 21 4 57 (.t (.c (.d (.raw zae)))) [(3,vp 20 0),(4,.t (.c (.d (.raw zae)))),(5,.t (.c (.own 21 0))),(8,(vRs ps)),(9,vN ps.length),(10,vI 0)] [(20,.box (zF f)),(21,.row 57 4 ([].map zac.d))] h (by kernel_rfl) rfl rfl
 refine zau (ι:=(Nat)) (fun j=>j≤ps.length)
   (fun j=>[(3,vp 20 0),(4,.t (.c (.d (.raw zae)))),(5,.t (.c (.own 21 ((ps.take j).map cpR).length))),(8,(vRs ps)),(9,vN ps.length),(10,vN j)])
   (fun j=>[(20,.box (zF f)),(21,.row 57 4 (((ps.take j).map cpR).map zac.d))])
   (fun j=>ps.length - j) 0 ?_ h (by kernel_rfl) (by kernel_rfl) ?_
 ·exact Nat.zero_le _
 clear h;rintro j a w hI h
 have lmj:((ps.take j).map cpR).length≤j:=by rw [List.length_map,List.length_take];omega
 refine rqk za0 22 [] [(3,vp 20 0),(4,.t (.c (.d (.raw zae)))),(5,.t (.c (.own 21 ((ps.take j).map cpR).length))),(8,(vRs ps)),(9,vN ps.length),(10,vN j),(11,vb (decide ((j:Int)<(ps.length:Int))))] h fun a w h=>?_
 refine wp_seq ?_
 refine zam ((j:Int)<(ps.length:Int)) h rfl (fun hc1 hc1'=>?_) (fun hc2 hc2'=>?_)
 ·refine wp_skip (za2 (wp_seq (wp_block ?_)))
  obtain ⟨x1,hx1⟩:=gl ps j
  refine rq za0 22 [(0,.g (xD 12 8 kc_3 (zaf hx1 (f:=zac.d)) (OV.tmp 10 _)))] [(3,vp 20 0),(4,.t (.c (.d (.raw zae)))),(5,.t (.c (.own 21 ((ps.take j).map cpR).length))),(7,vp 22 0),(8,(vRs ps)),(9,vN ps.length),(10,vN j)] [(20,.box (zF f)),(21,.row 57 4 (((ps.take j).map cpR).map zac.d)),(22,.box (zR_ x1))] h fun a w h=>?_
  refine rn za0 23 [(3,.call (zfg x1.t (hps x1 (lM hx1)) (by decide) (by decide)) tm_7),(7,.g (bD 21 ([(zac.mk (za3 x1.t) x1.eq)].map zac.d) [(20,.t (.agg ((zT (za3 x1.t))++[cB x1.eq])))] kc_5 (.cons (i:=0) (OV.tmp 20 _) (.nil)) (by kernel_rfl) (by simp [zac.d]))),(8,.g (aD 22 14 21 21 23 ((ps.take j).map cpR) [(zac.mk (za3 x1.t) x1.eq)] zac.d lh8_3 (by simp [zac.d])))] [(3,vp 20 0),(4,.t (.c (.d (.raw zae)))),(5,.t (.c (.own 23 (((ps.take j).map cpR)++[(zac.mk (za3 x1.t) x1.eq)]).length))),(8,(vRs ps)),(9,vN ps.length),(10,vN j)] [(20,.box (zF f)),(23,.row 57 4 ((((ps.take j).map cpR)++[(zac.mk (za3 x1.t) x1.eq)]).map zac.d))] h fun a w h=>?_
  refine zaa (za2 (rnk za0 24 [(0,.j1 j)] [(3,vp 20 0),(4,.t (.c (.d (.raw zae)))),(5,.t (.c (.own 23 (((ps.take j).map cpR)++[(zac.mk (za3 x1.t) x1.eq)]).length))),(8,(vRs ps)),(9,vN ps.length),(10,vI ((j:Int)+1))] h fun a w h=>?_))
  refine za2 ?_
  rw [show ((((ps.take j).map cpR)++[(zac.mk (za3 x1.t) x1.eq)]):List zac)=((ps.take (j+1)).map cpR) from (zbn hx1)] at h
  replace h:=zbz 23 21 [(3,vp 20 0),(4,.t (.c (.d (.raw zae)))),(5,.t (.c (.own 21 ((ps.take (j+1)).map cpR).length))),(8,(vRs ps)),(9,vN ps.length),(10,vI ((j:Int)+1))] [(20,.box (zF f)),(21,.row 57 4 (((ps.take (j+1)).map cpR).map zac.d))] h
  refine zaj (x:=j) (y:=j+1) h ?_ ?_
  ·have:=zag hx1
   show j+1≤ps.length
   omega
  show ps.length - (j+1)<ps.length - j
  have:=zag hx1;omega
 refine wp_exit (zab (zab (za7 (za2 ?_))))
 rw [show (((ps.take j).map cpR):List zac)=(ps.map cpR) from (by rw [List.take_of_length_le (by omega)])] at h
 replace h:=zbz 21 9 [(3,vp 20 0),(4,.t (.c (.d (.raw zae)))),(5,.t (.c (.own 9 (ps.map cpR).length))),(8,(vRs ps)),(9,vN ps.length),(10,vN j),(11,vb (decide ((j:Int)<(ps.length:Int))))] [(20,.box (zF f)),(9,.row 57 4 ((ps.map cpR).map zac.d))] h
 refine rq za0 24 [(2,.call ((Lgather f hf).1 (ps.map cpR) (cps_tok hps) (by rw [List.length_map];exact hl)) lh8_5)] [(4,.t (.c (.own 14 (zgv ps f).length)))] [(14,.row 57 4 ((zgv ps f).map zac.d))] h fun a w h=>?_
 refine wp_ret ?_
 replace h:=zgn 14 4 57 ((zgv ps f).map zac.d) [(4,(vRs (zgv ps f)))] [] h rfl (show zbt _ [(zgv ps f).length] from ⟨by first | exact (List.length_map _).symm | (simp;done) | (simp;omega),trivial⟩) trivial
 refine rT (.c (cRs (zgv ps f))) h rfl rfl ?_
 rfl
theorem LBase (props:List zai) (hpr:zfh props):Fn Tryz.prog 9 [] [.t (.c (.d (.sl 9 (props.map zai.d))))] (.tup [.c (cRs (zcw props).1),.c (cI (zcw props).2)]) []:=by
 have lpr:=hpr.1
 refine Fn.body Tryz.func9 rfl 26 rfl fun w H B a h=>?_
 refine rq za0 20 [] [(0,.t (.c (.d (.sl 9 (props.map zai.d))))),(2,.t (.c (.d (.raw zae)))),(3,vI 0)] [] h fun a w h=>?_
 refine rq za0 20 [] [(0,.t (.c (.d (.sl 9 (props.map zai.d))))),(2,.t (.c (.d (.raw zae)))),(3,vI 0),(4,.t (.c (.d (.raw zae))))] [] h fun a w h=>?_
 refine wp_seq (rq za0 20 [(1,.len (za9 9 zai.d props))] [(2,.t (.c (.d (.raw zae)))),(3,vI 0),(4,.t (.c (.d (.raw zae)))),(7,.t (.c (.d (.sl 9 (props.map zai.d))))),(8,vN props.length),(9,vI 0)] [] h fun a w h=>?_)
 refine wp_block ?_
 replace h:=zev 4 0 20 4 57 (.t (.c (.d (.raw zae)))) [(2,.t (.c (.d (.raw zae)))),(3,vI 0),(4,.t (.c (.own 20 0))),(7,.t (.c (.d (.sl 9 (props.map zai.d))))),(8,vN props.length),(9,vI 0)] [(20,.row 57 4 ([].map zac.d))] h (by kernel_rfl) rfl rfl
 replace h:=zbz 20 9 [(2,.t (.c (.d (.raw zae)))),(3,vI 0),(4,.t (.c (.own 9 0))),(7,.t (.c (.d (.sl 9 (props.map zai.d))))),(8,vN props.length),(9,vI 0)] [(9,.row 57 4 ([].map zac.d))] h
 refine zau (ι:=(Nat)) (fun j=>j≤props.length)
   (fun j=>[(2,.t (.c (.d (.raw zae)))),(3,vI 0),(4,.t (.c (.own 9 ((props.take j).foldl zal []).length))),(7,.t (.c (.d (.sl 9 (props.map zai.d))))),(8,vN props.length),(9,vN j)])
   (fun j=>[(9,.row 57 4 (((props.take j).foldl zal []).map zac.d))])
   (fun j=>props.length - j) 0 ?_ h (by kernel_rfl) (by kernel_rfl) ?_
 ·exact Nat.zero_le _
 clear h;rintro j a w hI h
 obtain ⟨hb1,hb2⟩:=base_ok hpr j
 refine rqk za0 21 [] [(2,.t (.c (.d (.raw zae)))),(3,vI 0),(4,.t (.c (.own 9 ((props.take j).foldl zal []).length))),(7,.t (.c (.d (.sl 9 (props.map zai.d))))),(8,vN props.length),(9,vN j),(10,vb (decide ((j:Int)<(props.length:Int))))] h fun a w h=>?_
 refine wp_seq ?_
 refine zam ((j:Int)<(props.length:Int)) h rfl (fun hc1 hc1'=>?_) (fun hc4 hc4'=>?_)
 ·refine wp_skip (za2 (wp_seq (wp_block ?_)))
  obtain ⟨x1,hx1⟩:=gl props j
  refine rq za0 21 [(0,.g (xD 11 7 li9_5 (zaf hx1 (f:=zai.d)) (OV.tmp 9 _)))] [(2,.t (.c (.d (.raw zae)))),(3,vI 0),(4,.t (.c (.own 9 ((props.take j).foldl zal []).length))),(6,vp 21 0),(7,.t (.c (.d (.sl 9 (props.map zai.d))))),(8,vN props.length),(9,vN j)] [(9,.row 57 4 (((props.take j).foldl zal []).map zac.d)),(21,.box ([cB x1.at_,cI x1.proc,cI x1.loc,cI x1.f.kind,cPs x1.f.r.t.parts]++zi x1.f.r.t.k++[cB x1.f.r.eq,cFs x1.f.kids]))] h fun a w h=>?_
  refine rqk za0 22 [] [(2,.t (.c (.d (.raw zae)))),(3,vI 0),(4,.t (.c (.own 9 ((props.take j).foldl zal []).length))),(6,vp 21 0),(7,.t (.c (.d (.sl 9 (props.map zai.d))))),(8,vN props.length),(9,vN j),(15,vb (!x1.at_))] h fun a w h=>?_
  refine zah (!x1.at_) h rfl (fun hc2=>?_) (fun hc3=>?_)
  ·have hc2':=hc2;(try simp at hc2')
   refine rn za0 22 [(3,.call (LFlat x1.f (za1.okB_mono (by decide) (by decide) _ (hpr.2 x1 (lM hx1) (show (x1.at_)=false from by simpa using hc2)).1) (Nat.le_trans (hpr.2 x1 (lM hx1) (show (x1.at_)=false from by simpa using hc2)).2 (by decide))) li9_6),(4,.call ((Lgather (za1.flat x1.f false) (zay (hpr.2 x1 (lM hx1) (show (x1.at_)=false from by simpa using hc2))).1).1 ((props.take j).foldl zal []) hb2 (by have:=(zay (hpr.2 x1 (lM hx1) (show (x1.at_)=false from by simpa using hc2))).2;omega)) lh8_5)] [(2,.t (.c (.d (.raw zae)))),(3,vI 0),(4,.t (.c (.own 14 (za1.gath (za1.flat x1.f false) ((props.take j).foldl zal [])).length))),(7,.t (.c (.d (.sl 9 (props.map zai.d))))),(8,vN props.length),(9,vN j)] [(14,.row 57 4 ((za1.gath (za1.flat x1.f false) ((props.take j).foldl zal [])).map zac.d))] h fun a w h=>?_
   refine zaa (za2 (rnk za0 22 [(0,.j1 j)] [(2,.t (.c (.d (.raw zae)))),(3,vI 0),(4,.t (.c (.own 14 (za1.gath (za1.flat x1.f false) ((props.take j).foldl zal [])).length))),(7,.t (.c (.d (.sl 9 (props.map zai.d))))),(8,vN props.length),(9,vI ((j:Int)+1))] h fun a w h=>?_))
   refine za2 ?_
   replace h:=zbz 14 9 [(2,.t (.c (.d (.raw zae)))),(3,vI 0),(4,.t (.c (.own 9 (za1.gath (za1.flat x1.f false) ((props.take j).foldl zal [])).length))),(7,.t (.c (.d (.sl 9 (props.map zai.d))))),(8,vN props.length),(9,vI ((j:Int)+1))] [(9,.row 57 4 ((za1.gath (za1.flat x1.f false) ((props.take j).foldl zal [])).map zac.d))] h
   rw [show ((za1.gath (za1.flat x1.f false) ((props.take j).foldl zal [])):List zac)=((props.take (j+1)).foldl zal []) from (by rw [zeq hx1];unfold zal;rw [if_neg (by rw [(show (x1.at_)=false from by simpa using hc2)];exact Bool.noConfusion)])] at h
   refine zaj (x:=j) (y:=j+1) h ?_ ?_
   ·have:=zag hx1
    show j+1≤props.length
    omega
   show props.length - (j+1)<props.length - j
   have:=zag hx1;omega
  have hc3':=hc3;(try simp at hc3')
  refine wp_skip (zaa (za2 (rn za0 22 [(0,.j1 j)] [(2,.t (.c (.d (.raw zae)))),(3,vI 0),(4,.t (.c (.own 9 ((props.take j).foldl zal []).length))),(7,.t (.c (.d (.sl 9 (props.map zai.d))))),(8,vN props.length),(9,vI ((j:Int)+1))] [(9,.row 57 4 (((props.take j).foldl zal []).map zac.d))] h fun a w h=>?_)))
  refine za2 ?_
  rw [show (((props.take j).foldl zal []):List zac)=((props.take (j+1)).foldl zal []) from (by rw [zeq hx1];unfold zal;rw [if_pos (show (x1.at_)=true from by simpa using hc3)])] at h
  refine zaj (x:=j) (y:=j+1) h ?_ ?_
  ·have:=zag hx1
   show j+1≤props.length
   omega
  show props.length - (j+1)<props.length - j
  have:=zag hx1;omega
 refine wp_exit (zab (zab (za7 (za2 (wp_seq (rqk za0 22 [] [(2,.t (.c (.d (.raw zae)))),(3,vI 0),(4,.t (.c (.own 9 ((props.take j).foldl zal []).length))),(24,vb (decide ((((props.take j).foldl zal []).length:Int)>24)))] h fun a w h=>?_))))))
 refine zam ((((props.take j).foldl zal []).length:Int)>24) h rfl (fun hc5 hc5'=>?_) (fun hc6 hc6'=>?_)
 ·refine rqk za0 22 [] [(2,.t (.c (.d (.raw zae)))),(3,vI 3),(4,.t (.c (.own 9 ((props.take j).foldl zal []).length)))] h fun a w h=>?_
  refine wp_ret (za8 ?_)
  replace h:=nilDSs 2 0 4 (.t (.c (.d (.raw zae)))) [(2,(vRs [])),(3,vI 3),(4,.t (.c (.own 9 ((props.take j).foldl zal []).length)))] [(9,.row 57 4 (((props.take j).foldl zal []).map zac.d))] h rfl rfl
  refine zd0 [.c (cRs []),.c (cI 3)] h Exit.ret (.inl rfl)  rfl ⟨RV.tmp _ _ rfl,RV.tmp _ _ rfl,trivial⟩ ?_
  have hz:zde props=((props.take j).foldl zal []):=by unfold zde;rw [List.take_of_length_le (by omega)]
  have hz2:zcw props=([],3):=by unfold zcw;rw [hz,if_pos (by have:=dT hc5;omega)]
  rw [hz2];first | done | rfl
 refine wp_skip (za2 (rqk za0 22 [] [(2,.t (.c (.own 9 ((props.take j).foldl zal []).length))),(3,vI 0)] h fun a w h=>?_))
 refine wp_ret ?_
 replace h:=zgn 9 4 57 (((props.take j).foldl zal []).map zac.d) [(2,(vRs ((props.take j).foldl zal []))),(3,vI 0)] [] h rfl (show zbt _ [((props.take j).foldl zal []).length] from ⟨by first | exact (List.length_map _).symm | (simp;done) | (simp;omega),trivial⟩) trivial
 refine zd0 [.c (cRs ((props.take j).foldl zal [])),.c (cI 0)] h Exit.ret (.inl rfl)  rfl ⟨RV.tmp _ _ rfl,RV.tmp _ _ rfl,trivial⟩ ?_
 have hz:zde props=((props.take j).foldl zal []):=by unfold zde;rw [List.take_of_length_le (by omega)]
 have hz2:zcw props=(((props.take j).foldl zal []),0):=by unfold zcw;rw [hz,if_neg (by have:=dF hc6;omega)]
 rw [hz2];first | done | rfl
end
section
open Go.RowKit

theorem lj10_3:za6 Tryz.prog 35:=za6.mk' (by kernel_rfl)
def zbk (k:Int) (a t:Bool × Bool):Bool × Bool:=(if k=4 then a.1 && t.1 else a.1 || t.1,a.2 && t.2)
def truK (ps:List zac) (bs:List Bool) (k:Int) (r:zac) (ts:List (Bool × Bool)):Bool × Bool :=
  if k=0∨k=1 then (k == 0,true) else if k=2 then (if atR ps r<0∨atR ps r≥(bs.length:Int) then (false,false) else ((bs[(atR ps r).toNat]?).getD false,true)) else ts.foldl (zbk k) (k == 4,true)
def za1.tru (ps:List zac) (bs:List Bool) (f:za1):Bool × Bool:=f.fold fun k r _ ts=>truK ps bs k r ts
theorem za1.tru_eq (ps:List zac) (bs:List Bool) (f:za1):f.tru ps bs=truK ps bs f.kind f.r (f.kids.map (za1.tru ps bs)):=za1.fold_eq _ f
theorem tru_fold {ps:List zac} {bs:List Bool} {f:za1} (h0:f.kind≠0) (h1:f.kind≠1) (h2:f.kind≠2):f.tru ps bs=f.kids.foldl (fun a g=>zbk f.kind a (g.tru ps bs)) (f.kind == 4,true):=by
 rw [za1.tru_eq];unfold truK
 rw [if_neg (by omega),if_neg h2,List.foldl_map]
theorem tru_01 {ps:List zac} {bs:List Bool} {f:za1} (h:f.kind=0∨f.kind=1):f.tru ps bs=(f.kind == 0,true):=by
 rw [za1.tru_eq];unfold truK;rw [if_pos h]
theorem tru_no {ps:List zac} {bs:List Bool} {f:za1} (h:f.kind=2) (hi:atR ps f.r<0∨atR ps f.r≥(bs.length:Int)):f.tru ps bs=(false,false):=by
 rw [za1.tru_eq];unfold truK;rw [if_neg (by omega),if_pos h,if_pos hi]
theorem tru_at {ps:List zac} {bs:List Bool} {f:za1} {i:Nat} {b:Bool} (h:f.kind=2) (hi:atR ps f.r=(i:Int)) (hb:bs[i]?=some b):f.tru ps bs=(b,true):=by
 have hl:=(List.getElem?_eq_some_iff.1 hb).1
 rw [za1.tru_eq];unfold truK;rw [if_neg (by omega),if_pos h,if_neg (by omega),hi,Int.toNat_natCast,hb];rfl
theorem zf0 {ks:List za1} {k:Int} {ps:List zac} {bs:List Bool} {j:Nat} {g:za1} {z:Bool × Bool} (h:ks[j]?=some g):(ks.take (j+1)).foldl (fun a g=>zbk k a (g.tru ps bs)) z=zbk k ((ks.take j).foldl (fun a g=>zbk k a (g.tru ps bs)) z) (g.tru ps bs):=by
 rw [List.take_add_one,h,List.foldl_append];rfl
theorem Ltruth0 (f:za1) (ps:List zac) (bs:List Bool) (ih:∀ g ∈ f.kids,Fn Tryz.prog 35 [] [.t (.agg ([.d (.raw (.int .i64 g.kind)),.d (.sl 3 (g.r.t.parts.map za4.d))]++zi g.r.t.k++[.d (.raw (.bool g.r.eq)),.d (.sl 6 (g.kids.map za1.d))])),.t (.c (.d (.sl 4 (ps.map zac.d)))),.t (.c (.d (.sl 1 (bs.map za5))))] (.tup [.c (.d (.raw (.bool (za1.tru ps bs g).1))),.c (.d (.raw (.bool (za1.tru ps bs g).2)))]) []) (hf:f.okA 200 2900) (hps:ps.length≤1000000∧∀ p ∈ ps,TOk 200 3000 p.t) (_hb:bs.length≤9223372036854775807) (hn:f.nodes≤1000000):Fn Tryz.prog 35 [] [.t (.agg ([.d (.raw (.int .i64 f.kind)),.d (.sl 3 (f.r.t.parts.map za4.d))]++zi f.r.t.k++[.d (.raw (.bool f.r.eq)),.d (.sl 6 (f.kids.map za1.d))])),.t (.c (.d (.sl 4 (ps.map zac.d)))),.t (.c (.d (.sl 1 (bs.map za5))))] (.tup [.c (.d (.raw (.bool (za1.tru ps bs f).1))),.c (.d (.raw (.bool (za1.tru ps bs f).2)))]) []:=by
 have lkn:=ze9 f
 refine Fn.body Tryz.func35 rfl 76 rfl fun w H B a h=>?_
 refine rq za0 0 [] [(1,.t (.c (.d (.sl 4 (ps.map zac.d))))),(2,.t (.c (.d (.sl 1 (bs.map za5))))),(3,vp 0 0),(6,vb false),(7,vb false)] [(0,.box ([.d (.raw (.int .i64 f.kind)),.d (.sl 3 (f.r.t.parts.map za4.d))]++zi f.r.t.k++[.d (.raw (.bool f.r.eq)),.d (.sl 6 (f.kids.map za1.d))]))] h fun a w h=>?_
 refine wp_seq (rqk za0 1 [] [(1,.t (.c (.d (.sl 4 (ps.map zac.d))))),(2,.t (.c (.d (.sl 1 (bs.map za5))))),(3,vp 0 0),(6,vb false),(7,vb false),(16,vI f.kind)] h fun a w h=>?_)
 refine wp_block (wp_seq (rqk za0 1 [] [(1,.t (.c (.d (.sl 4 (ps.map zac.d))))),(2,.t (.c (.d (.sl 1 (bs.map za5))))),(3,vp 0 0),(6,vb false),(7,vb false),(16,vI f.kind),(17,vb (f.kind == 0))] h fun a w h=>?_))
 refine zah (f.kind == 0) h rfl (fun hc1=>?_) (fun hc2=>?_)
 ·have hc1':=hc1;(try simp at hc1')
  refine wp_skip (za2 ?_)
  refine zah (f.kind == 0) h rfl (fun hc=>?_) (fun hc=>?_)
  ·clear hc
   refine rqk za0 1 [(2,.cmp (op:=.eql) (m:=f.kind) (n:=0) (b:=true) .i64 hc1)] [(1,.t (.c (.d (.sl 4 (ps.map zac.d))))),(2,.t (.c (.d (.sl 1 (bs.map za5))))),(3,vp 0 0),(6,vb true),(7,vb true)] h fun a w h=>?_
   refine wp_ret (zad (za8 ?_))
   refine zd0 [.c (.d (.raw (.bool true))),.c (.d (.raw (.bool true)))] h Exit.ret (.inl rfl)  rfl ⟨RV.tmp _ _ rfl,RV.tmp _ _ rfl,trivial⟩ ?_
   rw [tru_01 (.inl (by have:=hc1;simpa using this)),hc1];first | done | rfl
  rw [hc1] at hc;cases hc
 have hc2':=hc2;(try simp at hc2')
 refine rnk za0 1 [] [(1,.t (.c (.d (.sl 4 (ps.map zac.d))))),(2,.t (.c (.d (.sl 1 (bs.map za5))))),(3,vp 0 0),(6,vb false),(7,vb false),(16,vI f.kind),(17,vb (f.kind == 1))] h fun a w h=>?_
 refine za2 ?_
 refine zah (f.kind == 1) h rfl (fun hc3=>?_) (fun hc4=>?_)
 ·have hc3':=hc3;(try simp at hc3')
  refine rqk za0 1 [(2,.cmp (op:=.eql) (m:=f.kind) (n:=0) (b:=false) .i64 hc2)] [(1,.t (.c (.d (.sl 4 (ps.map zac.d))))),(2,.t (.c (.d (.sl 1 (bs.map za5))))),(3,vp 0 0),(6,vb false),(7,vb true)] h fun a w h=>?_
  refine wp_ret (zad (za8 ?_))
  refine zd0 [.c (.d (.raw (.bool false))),.c (.d (.raw (.bool true)))] h Exit.ret (.inl rfl)  rfl ⟨RV.tmp _ _ rfl,RV.tmp _ _ rfl,trivial⟩ ?_
  rw [tru_01 (.inr (by have:=hc3;simpa using this)),hc2];first | done | rfl
 have hc4':=hc4;(try simp at hc4')
 refine rqk za0 1 [] [(1,.t (.c (.d (.sl 4 (ps.map zac.d))))),(2,.t (.c (.d (.sl 1 (bs.map za5))))),(3,vp 0 0),(6,vb false),(7,vb false),(23,vb (f.kind == 2))] h fun a w h=>?_
 refine zah (f.kind == 2) h rfl (fun hc5=>?_) (fun hc10=>?_)
 ·have hc5':=hc5;(try simp at hc5')
  refine rqk za0 1 [(3,.call (Lindex ps f.r hps (zf3 hf hc5)) lh8_0)] [(1,.t (.c (.d (.sl 4 (ps.map zac.d))))),(2,.t (.c (.d (.sl 1 (bs.map za5))))),(3,vp 0 0),(6,vb false),(7,vb false),(8,vI (atR ps f.r))] h fun a w h=>?_
  refine wp_seq ?_
  rcases Bool.eq_false_or_eq_true (decide ((atR ps f.r)<0)) with hc | hc
  ·have hc6:=hc;clear hc
   have hc6':=dT hc6
   refine rqk za0 1 [(1,.cmp (op:=.lss) (m:=(atR ps f.r)) (n:=0) (b:=true) .i64 hc6)] [(1,.t (.c (.d (.sl 4 (ps.map zac.d))))),(2,.t (.c (.d (.sl 1 (bs.map za5))))),(3,vp 0 0),(6,vb false),(7,vb false),(8,vI (atR ps f.r)),(36,vb true)] h fun a w h=>?_
   refine zah true h rfl (fun _=>?_) nofun
   refine rqk za0 1 [] [(1,.t (.c (.d (.sl 4 (ps.map zac.d))))),(2,.t (.c (.d (.sl 1 (bs.map za5))))),(3,vp 0 0),(6,vb false),(7,vb false),(8,vI (atR ps f.r))] h fun a w h=>?_
   refine wp_ret (za8 (zad (za8 ?_)))
   refine zd0 [.c (.d (.raw (.bool false))),.c (.d (.raw (.bool false)))] h Exit.ret (.inl rfl)  rfl ⟨RV.tmp _ _ rfl,RV.tmp _ _ rfl,trivial⟩ ?_
   rw [tru_no (by have:=hc5;simpa using this) (.inl (dT hc6))];first | done | rfl
  have hc7:=hc;clear hc
  have hc7':=dF hc7
  refine rqk za0 1 [(1,.cmp (op:=.lss) (m:=(atR ps f.r)) (n:=0) (b:=false) .i64 hc7),(5,.len (za9 1 za5 bs))] [(1,.t (.c (.d (.sl 4 (ps.map zac.d))))),(2,.t (.c (.d (.sl 1 (bs.map za5))))),(3,vp 0 0),(6,vb false),(7,vb false),(8,vI (atR ps f.r)),(36,vb (decide ((atR ps f.r)≥(bs.length:Int))))] h fun a w h=>?_
  refine zam ((atR ps f.r)≥(bs.length:Int)) h rfl (fun hc8 hc8'=>?_) (fun hc9 hc9'=>?_)
  ·refine rqk za0 1 [] [(1,.t (.c (.d (.sl 4 (ps.map zac.d))))),(2,.t (.c (.d (.sl 1 (bs.map za5))))),(3,vp 0 0),(6,vb false),(7,vb false),(8,vI (atR ps f.r))] h fun a w h=>?_
   refine wp_ret (za8 (zad (za8 ?_)))
   refine zd0 [.c (.d (.raw (.bool false))),.c (.d (.raw (.bool false)))] h Exit.ret (.inl rfl)  rfl ⟨RV.tmp _ _ rfl,RV.tmp _ _ rfl,trivial⟩ ?_
   rw [tru_no (by have:=hc5;simpa using this) (.inr (dT hc8))];first | done | rfl
  refine wp_skip (za2 ?_)
  obtain ⟨ki,hkki⟩:∃ k_:Nat,(atR ps f.r)=(k_:Int):=⟨_,(Int.toNat_of_nonneg (by have:=dF hc7;omega)).symm⟩
  replace h:=h.conv (f':=F.of [(1,.t (.c (.d (.sl 4 (ps.map zac.d))))),(2,.t (.c (.d (.sl 1 (bs.map za5))))),(3,vp 0 0),(6,vb false),(7,vb false),(8,vN ki),(36,vb (decide ((atR ps f.r)≥(bs.length:Int))))] [(0,.box ([.d (.raw (.int .i64 f.kind)),.d (.sl 3 (f.r.t.parts.map za4.d))]++zi f.r.t.k++[.d (.raw (.bool f.r.eq)),.d (.sl 6 (f.kids.map za1.d))]))]) (by rw [hkki])
  obtain ⟨x2,hx2⟩:=gl bs ki
  refine rq za0 1 [(2,.g (xD 39 37 zfu (zaf hx2 (f:=za5)) (OV.tmp 38 _)))] [(1,.t (.c (.d (.sl 4 (ps.map zac.d))))),(2,.t (.c (.d (.sl 1 (bs.map za5))))),(3,vp 0 0),(6,vb x2),(7,vb true)] [(0,.box ([.d (.raw (.int .i64 f.kind)),.d (.sl 3 (f.r.t.parts.map za4.d))]++zi f.r.t.k++[.d (.raw (.bool f.r.eq)),.d (.sl 6 (f.kids.map za1.d))]))] h fun a w h=>?_
  refine wp_ret (zad (za8 ?_))
  refine zd0 [.c (.d (.raw (.bool x2))),.c (.d (.raw (.bool true)))] h Exit.ret (.inl rfl)  rfl ⟨RV.tmp _ _ rfl,RV.tmp _ _ rfl,trivial⟩ ?_
  rw [tru_at (by have:=hc5;simpa using this) hkki hx2];first | done | rfl
 have hc10':=hc10;(try simp at hc10')
 refine wp_skip (zaa (za2 (rqk za0 1 [] [(1,.t (.c (.d (.sl 4 (ps.map zac.d))))),(2,.t (.c (.d (.sl 1 (bs.map za5))))),(3,vp 0 0),(6,vb false),(7,vb false),(9,vb (f.kind == 4)),(10,vb true)] h fun a w h=>?_)))
 refine wp_seq (rqk za0 1 [(2,.len (za9 6 za1.d f.kids))] [(1,.t (.c (.d (.sl 4 (ps.map zac.d))))),(2,.t (.c (.d (.sl 1 (bs.map za5))))),(3,vp 0 0),(6,vb false),(7,vb false),(9,vb (f.kind == 4)),(10,vb true),(45,.t (.c (.d (.sl 6 (f.kids.map za1.d))))),(46,vN f.kids.length),(47,vI 0)] h fun a w h=>?_)
 refine wp_block ?_
 refine zau (ι:=(Nat) × (Bool) × (Bool)) (fun (j,tb,tk)=>j≤f.kids.length∧(f.kids.take j).foldl (fun a g=>zbk f.kind a (g.tru ps bs)) (f.kind == 4,true)=(tb,tk))
   (fun (j,tb,tk)=>[(1,.t (.c (.d (.sl 4 (ps.map zac.d))))),(2,.t (.c (.d (.sl 1 (bs.map za5))))),(3,vp 0 0),(6,vb false),(7,vb false),(9,vb tb),(10,vb tk),(45,.t (.c (.d (.sl 6 (f.kids.map za1.d))))),(46,vN f.kids.length),(47,vN j)])
   (fun (j,tb,tk)=>[(0,.box ([.d (.raw (.int .i64 f.kind)),.d (.sl 3 (f.r.t.parts.map za4.d))]++zi f.r.t.k++[.d (.raw (.bool f.r.eq)),.d (.sl 6 (f.kids.map za1.d))]))])
   (fun (j,tb,tk)=>f.kids.length - j) (0,(f.kind == 4),true) ?_ h (by kernel_rfl) (by kernel_rfl) ?_
 ·exact ⟨Nat.zero_le _,rfl⟩
 clear h;rintro ⟨j,tb,tk⟩ a w hI h
 dsimp only at h
 obtain ⟨hI1,hI2⟩:=hI
 refine rqk za0 1 [] [(1,.t (.c (.d (.sl 4 (ps.map zac.d))))),(2,.t (.c (.d (.sl 1 (bs.map za5))))),(3,vp 0 0),(6,vb false),(7,vb false),(9,vb tb),(10,vb tk),(45,.t (.c (.d (.sl 6 (f.kids.map za1.d))))),(46,vN f.kids.length),(47,vN j),(48,vb (decide ((j:Int)<(f.kids.length:Int))))] h fun a w h=>?_
 refine wp_seq ?_
 refine zam ((j:Int)<(f.kids.length:Int)) h rfl (fun hc11 hc11'=>?_) (fun hc26 hc26'=>?_)
 ·refine wp_skip (za2 (wp_seq (wp_block ?_)))
  obtain ⟨x3,hx3⟩:=gl f.kids j
  refine rq za0 1 [(0,.g (xD 49 45 zhj ((zaf hx3 (f:=za1.d)).trans (congrArg some (za1.d_eq x3))) (OV.tmp 47 _)))] [(1,.t (.c (.d (.sl 4 (ps.map zac.d))))),(2,.t (.c (.d (.sl 1 (bs.map za5))))),(3,vp 0 0),(6,vb false),(7,vb false),(9,vb tb),(10,vb tk),(12,vp 1 0),(45,.t (.c (.d (.sl 6 (f.kids.map za1.d))))),(46,vN f.kids.length),(47,vN j)] [(0,.box ([.d (.raw (.int .i64 f.kind)),.d (.sl 3 (f.r.t.parts.map za4.d))]++zi f.r.t.k++[.d (.raw (.bool f.r.eq)),.d (.sl 6 (f.kids.map za1.d))])),(1,.box ([.d (.raw (.int .i64 x3.kind)),.d (.sl 3 (x3.r.t.parts.map za4.d))]++zi x3.r.t.k++[.d (.raw (.bool x3.r.eq)),.d (.sl 6 (x3.kids.map za1.d))]))] h fun a w h=>?_
  refine rq za0 2 [(3,.call (ih x3 (lM hx3)) lj10_3)] [(1,.t (.c (.d (.sl 4 (ps.map zac.d))))),(2,.t (.c (.d (.sl 1 (bs.map za5))))),(3,vp 0 0),(6,vb false),(7,vb false),(9,vb tb),(10,vb tk),(13,vb (za1.tru ps bs x3).1),(14,vb (za1.tru ps bs x3).2),(45,.t (.c (.d (.sl 6 (f.kids.map za1.d))))),(46,vN f.kids.length),(47,vN j)] [(0,.box ([.d (.raw (.int .i64 f.kind)),.d (.sl 3 (f.r.t.parts.map za4.d))]++zi f.r.t.k++[.d (.raw (.bool f.r.eq)),.d (.sl 6 (f.kids.map za1.d))]))] h fun a w h=>?_
  rcases Bool.eq_false_or_eq_true tk with hc | hc
  ·have hc12:=hc;clear hc
   rw [hc12] at h
   refine rq za0 2 [] [(1,.t (.c (.d (.sl 4 (ps.map zac.d))))),(2,.t (.c (.d (.sl 1 (bs.map za5))))),(3,vp 0 0),(6,vb false),(7,vb false),(9,vb tb),(10,vb (za1.tru ps bs x3).2),(13,vb (za1.tru ps bs x3).1),(45,.t (.c (.d (.sl 6 (f.kids.map za1.d))))),(46,vN f.kids.length),(47,vN j)] [(0,.box ([.d (.raw (.int .i64 f.kind)),.d (.sl 3 (f.r.t.parts.map za4.d))]++zi f.r.t.k++[.d (.raw (.bool f.r.eq)),.d (.sl 6 (f.kids.map za1.d))]))] h fun a w h=>?_
   refine rqk za0 2 [] [(1,.t (.c (.d (.sl 4 (ps.map zac.d))))),(2,.t (.c (.d (.sl 1 (bs.map za5))))),(3,vp 0 0),(6,vb false),(7,vb false),(9,vb tb),(10,vb (za1.tru ps bs x3).2),(13,vb (za1.tru ps bs x3).1),(45,.t (.c (.d (.sl 6 (f.kids.map za1.d))))),(46,vN f.kids.length),(47,vN j),(64,vb (f.kind == 4))] h fun a w h=>?_
   refine zah (f.kind == 4) h rfl (fun hc13=>?_) (fun hc16=>?_)
   ·have hc13':=hc13;(try simp at hc13')
    rcases Bool.eq_false_or_eq_true tb with hc | hc
    ·have hc14:=hc;clear hc
     rw [hc14] at h
     refine rn za0 2 [] [(1,.t (.c (.d (.sl 4 (ps.map zac.d))))),(2,.t (.c (.d (.sl 1 (bs.map za5))))),(3,vp 0 0),(6,vb false),(7,vb false),(9,vb (za1.tru ps bs x3).1),(10,vb (za1.tru ps bs x3).2),(45,.t (.c (.d (.sl 6 (f.kids.map za1.d))))),(46,vN f.kids.length),(47,vN j)] [(0,.box ([.d (.raw (.int .i64 f.kind)),.d (.sl 3 (f.r.t.parts.map za4.d))]++zi f.r.t.k++[.d (.raw (.bool f.r.eq)),.d (.sl 6 (f.kids.map za1.d))]))] h fun a w h=>?_
     refine zaa (za2 (rnk za0 2 [(0,.j1 j)] [(1,.t (.c (.d (.sl 4 (ps.map zac.d))))),(2,.t (.c (.d (.sl 1 (bs.map za5))))),(3,vp 0 0),(6,vb false),(7,vb false),(9,vb (za1.tru ps bs x3).1),(10,vb (za1.tru ps bs x3).2),(45,.t (.c (.d (.sl 6 (f.kids.map za1.d))))),(46,vN f.kids.length),(47,vI ((j:Int)+1))] h fun a w h=>?_))
     refine za2 ?_
     refine zaj (x:=(j,tb,tk)) (y:=(j+1,(za1.tru ps bs x3).1,(za1.tru ps bs x3).2)) h ?_ ?_
     ·have:=zag hx3
      refine ⟨by omega,?_⟩
      rw [zf0 hx3,hI2]
      show zbk f.kind (tb,tk) (za1.tru ps bs x3)=((za1.tru ps bs x3).1,(za1.tru ps bs x3).2)
      unfold zbk
      have q1:=hc12
      have q1:=hc14
      have q1:=hc13
      simp_all
     show f.kids.length - (j+1)<f.kids.length - j
     have:=zag hx3;omega
    have hc15:=hc;clear hc
    rw [hc15] at h
    refine rn za0 2 [] [(1,.t (.c (.d (.sl 4 (ps.map zac.d))))),(2,.t (.c (.d (.sl 1 (bs.map za5))))),(3,vp 0 0),(6,vb false),(7,vb false),(9,vb false),(10,vb (za1.tru ps bs x3).2),(45,.t (.c (.d (.sl 6 (f.kids.map za1.d))))),(46,vN f.kids.length),(47,vN j)] [(0,.box ([.d (.raw (.int .i64 f.kind)),.d (.sl 3 (f.r.t.parts.map za4.d))]++zi f.r.t.k++[.d (.raw (.bool f.r.eq)),.d (.sl 6 (f.kids.map za1.d))]))] h fun a w h=>?_
    refine zaa (za2 (rnk za0 2 [(0,.j1 j)] [(1,.t (.c (.d (.sl 4 (ps.map zac.d))))),(2,.t (.c (.d (.sl 1 (bs.map za5))))),(3,vp 0 0),(6,vb false),(7,vb false),(9,vb false),(10,vb (za1.tru ps bs x3).2),(45,.t (.c (.d (.sl 6 (f.kids.map za1.d))))),(46,vN f.kids.length),(47,vI ((j:Int)+1))] h fun a w h=>?_))
    refine za2 ?_
    refine zaj (x:=(j,tb,tk)) (y:=(j+1,false,(za1.tru ps bs x3).2)) h ?_ ?_
    ·have:=zag hx3
     refine ⟨by omega,?_⟩
     rw [zf0 hx3,hI2]
     show zbk f.kind (tb,tk) (za1.tru ps bs x3)=(false,(za1.tru ps bs x3).2)
     unfold zbk
     have q1:=hc12
     have q1:=hc15
     have q1:=hc13
     simp_all
    show f.kids.length - (j+1)<f.kids.length - j
    have:=zag hx3;omega
   have hc16':=hc16;(try simp at hc16')
   rcases Bool.eq_false_or_eq_true tb with hc | hc
   ·have hc17:=hc;clear hc
    rw [hc17] at h
    refine rn za0 2 [] [(1,.t (.c (.d (.sl 4 (ps.map zac.d))))),(2,.t (.c (.d (.sl 1 (bs.map za5))))),(3,vp 0 0),(6,vb false),(7,vb false),(9,vb true),(10,vb (za1.tru ps bs x3).2),(45,.t (.c (.d (.sl 6 (f.kids.map za1.d))))),(46,vN f.kids.length),(47,vN j)] [(0,.box ([.d (.raw (.int .i64 f.kind)),.d (.sl 3 (f.r.t.parts.map za4.d))]++zi f.r.t.k++[.d (.raw (.bool f.r.eq)),.d (.sl 6 (f.kids.map za1.d))]))] h fun a w h=>?_
    refine zaa (za2 (rnk za0 2 [(0,.j1 j)] [(1,.t (.c (.d (.sl 4 (ps.map zac.d))))),(2,.t (.c (.d (.sl 1 (bs.map za5))))),(3,vp 0 0),(6,vb false),(7,vb false),(9,vb true),(10,vb (za1.tru ps bs x3).2),(45,.t (.c (.d (.sl 6 (f.kids.map za1.d))))),(46,vN f.kids.length),(47,vI ((j:Int)+1))] h fun a w h=>?_))
    refine za2 ?_
    refine zaj (x:=(j,tb,tk)) (y:=(j+1,true,(za1.tru ps bs x3).2)) h ?_ ?_
    ·have:=zag hx3
     refine ⟨by omega,?_⟩
     rw [zf0 hx3,hI2]
     show zbk f.kind (tb,tk) (za1.tru ps bs x3)=(true,(za1.tru ps bs x3).2)
     unfold zbk
     have q1:=hc12
     have q1:=hc17
     have q1:=hc16
     simp_all
    show f.kids.length - (j+1)<f.kids.length - j
    have:=zag hx3;omega
   have hc18:=hc;clear hc
   rw [hc18] at h
   refine rn za0 2 [] [(1,.t (.c (.d (.sl 4 (ps.map zac.d))))),(2,.t (.c (.d (.sl 1 (bs.map za5))))),(3,vp 0 0),(6,vb false),(7,vb false),(9,vb (za1.tru ps bs x3).1),(10,vb (za1.tru ps bs x3).2),(45,.t (.c (.d (.sl 6 (f.kids.map za1.d))))),(46,vN f.kids.length),(47,vN j)] [(0,.box ([.d (.raw (.int .i64 f.kind)),.d (.sl 3 (f.r.t.parts.map za4.d))]++zi f.r.t.k++[.d (.raw (.bool f.r.eq)),.d (.sl 6 (f.kids.map za1.d))]))] h fun a w h=>?_
   refine zaa (za2 (rnk za0 2 [(0,.j1 j)] [(1,.t (.c (.d (.sl 4 (ps.map zac.d))))),(2,.t (.c (.d (.sl 1 (bs.map za5))))),(3,vp 0 0),(6,vb false),(7,vb false),(9,vb (za1.tru ps bs x3).1),(10,vb (za1.tru ps bs x3).2),(45,.t (.c (.d (.sl 6 (f.kids.map za1.d))))),(46,vN f.kids.length),(47,vI ((j:Int)+1))] h fun a w h=>?_))
   refine za2 ?_
   refine zaj (x:=(j,tb,tk)) (y:=(j+1,(za1.tru ps bs x3).1,(za1.tru ps bs x3).2)) h ?_ ?_
   ·have:=zag hx3
    refine ⟨by omega,?_⟩
    rw [zf0 hx3,hI2]
    show zbk f.kind (tb,tk) (za1.tru ps bs x3)=((za1.tru ps bs x3).1,(za1.tru ps bs x3).2)
    unfold zbk
    have q1:=hc12
    have q1:=hc18
    have q1:=hc16
    simp_all
   show f.kids.length - (j+1)<f.kids.length - j
   have:=zag hx3;omega
  have hc19:=hc;clear hc
  rw [hc19] at h
  refine rq za0 2 [] [(1,.t (.c (.d (.sl 4 (ps.map zac.d))))),(2,.t (.c (.d (.sl 1 (bs.map za5))))),(3,vp 0 0),(6,vb false),(7,vb false),(9,vb tb),(10,vb false),(13,vb (za1.tru ps bs x3).1),(45,.t (.c (.d (.sl 6 (f.kids.map za1.d))))),(46,vN f.kids.length),(47,vN j)] [(0,.box ([.d (.raw (.int .i64 f.kind)),.d (.sl 3 (f.r.t.parts.map za4.d))]++zi f.r.t.k++[.d (.raw (.bool f.r.eq)),.d (.sl 6 (f.kids.map za1.d))]))] h fun a w h=>?_
  refine rqk za0 2 [] [(1,.t (.c (.d (.sl 4 (ps.map zac.d))))),(2,.t (.c (.d (.sl 1 (bs.map za5))))),(3,vp 0 0),(6,vb false),(7,vb false),(9,vb tb),(10,vb false),(13,vb (za1.tru ps bs x3).1),(45,.t (.c (.d (.sl 6 (f.kids.map za1.d))))),(46,vN f.kids.length),(47,vN j),(64,vb (f.kind == 4))] h fun a w h=>?_
  refine zah (f.kind == 4) h rfl (fun hc20=>?_) (fun hc23=>?_)
  ·have hc20':=hc20;(try simp at hc20')
   rcases Bool.eq_false_or_eq_true tb with hc | hc
   ·have hc21:=hc;clear hc
    rw [hc21] at h
    refine rn za0 2 [] [(1,.t (.c (.d (.sl 4 (ps.map zac.d))))),(2,.t (.c (.d (.sl 1 (bs.map za5))))),(3,vp 0 0),(6,vb false),(7,vb false),(9,vb (za1.tru ps bs x3).1),(10,vb false),(45,.t (.c (.d (.sl 6 (f.kids.map za1.d))))),(46,vN f.kids.length),(47,vN j)] [(0,.box ([.d (.raw (.int .i64 f.kind)),.d (.sl 3 (f.r.t.parts.map za4.d))]++zi f.r.t.k++[.d (.raw (.bool f.r.eq)),.d (.sl 6 (f.kids.map za1.d))]))] h fun a w h=>?_
    refine zaa (za2 (rnk za0 2 [(0,.j1 j)] [(1,.t (.c (.d (.sl 4 (ps.map zac.d))))),(2,.t (.c (.d (.sl 1 (bs.map za5))))),(3,vp 0 0),(6,vb false),(7,vb false),(9,vb (za1.tru ps bs x3).1),(10,vb false),(45,.t (.c (.d (.sl 6 (f.kids.map za1.d))))),(46,vN f.kids.length),(47,vI ((j:Int)+1))] h fun a w h=>?_))
    refine za2 ?_
    refine zaj (x:=(j,tb,tk)) (y:=(j+1,(za1.tru ps bs x3).1,false)) h ?_ ?_
    ·have:=zag hx3
     refine ⟨by omega,?_⟩
     rw [zf0 hx3,hI2]
     show zbk f.kind (tb,tk) (za1.tru ps bs x3)=((za1.tru ps bs x3).1,false)
     unfold zbk
     have q1:=hc19
     have q1:=hc21
     have q1:=hc20
     simp_all
    show f.kids.length - (j+1)<f.kids.length - j
    have:=zag hx3;omega
   have hc22:=hc;clear hc
   rw [hc22] at h
   refine rn za0 2 [] [(1,.t (.c (.d (.sl 4 (ps.map zac.d))))),(2,.t (.c (.d (.sl 1 (bs.map za5))))),(3,vp 0 0),(6,vb false),(7,vb false),(9,vb false),(10,vb false),(45,.t (.c (.d (.sl 6 (f.kids.map za1.d))))),(46,vN f.kids.length),(47,vN j)] [(0,.box ([.d (.raw (.int .i64 f.kind)),.d (.sl 3 (f.r.t.parts.map za4.d))]++zi f.r.t.k++[.d (.raw (.bool f.r.eq)),.d (.sl 6 (f.kids.map za1.d))]))] h fun a w h=>?_
   refine zaa (za2 (rnk za0 2 [(0,.j1 j)] [(1,.t (.c (.d (.sl 4 (ps.map zac.d))))),(2,.t (.c (.d (.sl 1 (bs.map za5))))),(3,vp 0 0),(6,vb false),(7,vb false),(9,vb false),(10,vb false),(45,.t (.c (.d (.sl 6 (f.kids.map za1.d))))),(46,vN f.kids.length),(47,vI ((j:Int)+1))] h fun a w h=>?_))
   refine za2 ?_
   refine zaj (x:=(j,tb,tk)) (y:=(j+1,false,false)) h ?_ ?_
   ·have:=zag hx3
    refine ⟨by omega,?_⟩
    rw [zf0 hx3,hI2]
    show zbk f.kind (tb,tk) (za1.tru ps bs x3)=(false,false)
    unfold zbk
    have q1:=hc19
    have q1:=hc22
    have q1:=hc20
    simp_all
   show f.kids.length - (j+1)<f.kids.length - j
   have:=zag hx3;omega
  have hc23':=hc23;(try simp at hc23')
  rcases Bool.eq_false_or_eq_true tb with hc | hc
  ·have hc24:=hc;clear hc
   rw [hc24] at h
   refine rn za0 2 [] [(1,.t (.c (.d (.sl 4 (ps.map zac.d))))),(2,.t (.c (.d (.sl 1 (bs.map za5))))),(3,vp 0 0),(6,vb false),(7,vb false),(9,vb true),(10,vb false),(45,.t (.c (.d (.sl 6 (f.kids.map za1.d))))),(46,vN f.kids.length),(47,vN j)] [(0,.box ([.d (.raw (.int .i64 f.kind)),.d (.sl 3 (f.r.t.parts.map za4.d))]++zi f.r.t.k++[.d (.raw (.bool f.r.eq)),.d (.sl 6 (f.kids.map za1.d))]))] h fun a w h=>?_
   refine zaa (za2 (rnk za0 2 [(0,.j1 j)] [(1,.t (.c (.d (.sl 4 (ps.map zac.d))))),(2,.t (.c (.d (.sl 1 (bs.map za5))))),(3,vp 0 0),(6,vb false),(7,vb false),(9,vb true),(10,vb false),(45,.t (.c (.d (.sl 6 (f.kids.map za1.d))))),(46,vN f.kids.length),(47,vI ((j:Int)+1))] h fun a w h=>?_))
   refine za2 ?_
   refine zaj (x:=(j,tb,tk)) (y:=(j+1,true,false)) h ?_ ?_
   ·have:=zag hx3
    refine ⟨by omega,?_⟩
    rw [zf0 hx3,hI2]
    show zbk f.kind (tb,tk) (za1.tru ps bs x3)=(true,false)
    unfold zbk
    have q1:=hc19
    have q1:=hc24
    have q1:=hc23
    simp_all
   show f.kids.length - (j+1)<f.kids.length - j
   have:=zag hx3;omega
  have hc25:=hc;clear hc
  rw [hc25] at h
  refine rn za0 2 [] [(1,.t (.c (.d (.sl 4 (ps.map zac.d))))),(2,.t (.c (.d (.sl 1 (bs.map za5))))),(3,vp 0 0),(6,vb false),(7,vb false),(9,vb (za1.tru ps bs x3).1),(10,vb false),(45,.t (.c (.d (.sl 6 (f.kids.map za1.d))))),(46,vN f.kids.length),(47,vN j)] [(0,.box ([.d (.raw (.int .i64 f.kind)),.d (.sl 3 (f.r.t.parts.map za4.d))]++zi f.r.t.k++[.d (.raw (.bool f.r.eq)),.d (.sl 6 (f.kids.map za1.d))]))] h fun a w h=>?_
  refine zaa (za2 (rnk za0 2 [(0,.j1 j)] [(1,.t (.c (.d (.sl 4 (ps.map zac.d))))),(2,.t (.c (.d (.sl 1 (bs.map za5))))),(3,vp 0 0),(6,vb false),(7,vb false),(9,vb (za1.tru ps bs x3).1),(10,vb false),(45,.t (.c (.d (.sl 6 (f.kids.map za1.d))))),(46,vN f.kids.length),(47,vI ((j:Int)+1))] h fun a w h=>?_))
  refine za2 ?_
  refine zaj (x:=(j,tb,tk)) (y:=(j+1,(za1.tru ps bs x3).1,false)) h ?_ ?_
  ·have:=zag hx3
   refine ⟨by omega,?_⟩
   rw [zf0 hx3,hI2]
   show zbk f.kind (tb,tk) (za1.tru ps bs x3)=((za1.tru ps bs x3).1,false)
   unfold zbk
   have q1:=hc19
   have q1:=hc25
   have q1:=hc23
   simp_all
  show f.kids.length - (j+1)<f.kids.length - j
  have:=zag hx3;omega
 refine wp_exit (zab (zab (za7 (za2 (rq za0 2 [] [(6,vb tb),(7,vb tk)] [] h fun a w h=>?_)))))
 refine wp_ret ?_
 refine zd0 [.c (.d (.raw (.bool tb))),.c (.d (.raw (.bool tk)))] h Exit.ret (.inl rfl)  rfl ⟨RV.tmp _ _ rfl,RV.tmp _ _ rfl,trivial⟩ ?_
 have hz:f.tru ps bs=(tb,tk):=by rw [tru_fold (by have:=hc2;simpa using this) (by have:=hc4;simpa using this) (by have:=hc10;simpa using this),← hI2,List.take_of_length_le (by omega)]
 rw [hz];first | done | rfl
end
section
open Go.RowKit

theorem kid_nodes {f g:za1} (h:g ∈ f.kids):g.nodes≤f.nodes:=by
 rw [za1.nodes_eq f]
 have:∀ (xs:List za1),g ∈ xs→g.nodes≤(xs.map za1.nodes).sum:=fun xs=>by
  induction xs with
  | nil=>intro h;cases h
  | cons x xs ih =>
   intro h
   rw [List.map_cons,List.sum_cons]
   rcases List.mem_cons.1 h with rfl | h
   ·omega
   ·have:=ih h;omega
 have:=this _ h;omega
theorem Ltruth (ps:List zac) (bs:List Bool) (hps:ps.length≤1000000∧∀ p ∈ ps,TOk 200 3000 p.t) (hb:bs.length≤9223372036854775807) (f:za1):f.okA 200 2900→f.nodes≤1000000→Fn Tryz.prog 35 [] [(vF f),(vRs ps),.t (.c (.d (.sl 1 (bs.map za5))))] (.tup [.c (cB (za1.tru ps bs f).1),.c (cB (za1.tru ps bs f).2)]) [] :=
 za1.ind (P:=fun f=>f.okA 200 2900→f.nodes≤1000000→Fn Tryz.prog 35 [] [(vF f),(vRs ps),.t (.c (.d (.sl 1 (bs.map za5))))] (.tup [.c (cB (za1.tru ps bs f).1),.c (cB (za1.tru ps bs f).2)]) []) (fun k r ks ih hf hn=>Ltruth0 ⟨k,r,ks⟩ ps bs (fun g hg=>ih g hg (zdr hf hg) (Nat.le_trans (kid_nodes hg) hn)) hf hps hb hn) f
def locB (locs:List Int) (proc loc:Int):Bool:=decide (0≤proc∧proc<(locs.length:Int)) && ((locs[proc.toNat]?).getD 0 == loc)
def zaq (ps:List zac) (a:zcx) (p:zai):Bool × Bool:=if p.at_=true then (locB a.locs p.proc p.loc,true) else (p.f.flat false).tru ps a.bits
def zan (props:List zai) (ps:List zac) (a:zcx):List Bool × Bool:=if (props.all fun p=>(zaq ps a p).2)=true then (props.map fun p=>(zaq ps a p).1,true) else ([],false)
theorem zgc {ps:List zac} {a:zcx} {p:zai} (h:p.at_=true):zaq ps a p=(locB a.locs p.proc p.loc,true):=if_pos h
theorem zg1 {ps:List zac} {a:zcx} {p:zai} (h:p.at_=false):zaq ps a p=(p.f.flat false).tru ps a.bits:=if_neg (by rw [h];exact Bool.noConfusion)
theorem locB_no {locs:List Int} {proc loc:Int} (h:proc<0∨(locs.length:Int)≤proc):locB locs proc loc=false:=by
 unfold locB;rw [decide_eq_false (by omega)];rfl
theorem locB_at {locs:List Int} {proc loc l:Int} {k:Nat} (hk:proc=(k:Int)) (h:locs[k]?=some l):locB locs proc loc=(l == loc):=by
 have:=(List.getElem?_eq_some_iff.1 h).1
 unfold locB;rw [decide_eq_true (by omega),hk,Int.toNat_natCast,h];rfl
theorem LLetter (props:List zai) (ps:List zac) (a_:zcx) (hpr:zfh props) (hps:ps.length≤1000000∧∀ p ∈ ps,TOk 200 3000 p.t) (ha:a_.locs.length≤9223372036854775807∧a_.bits.length≤9223372036854775807):Fn Tryz.prog 11 [] [.t (.c (.d (.sl 9 (props.map zai.d)))),(vRs ps),.t (.agg [cIs a_.locs,.d (.sl 1 (a_.bits.map za5))])] (.tup [.c (.d (.sl 1 ((zan props ps a_).1.map za5))),.c (cB (zan props ps a_).2)]) []:=by
 have lpr:=hpr.1
 have la1:=ha.1
 refine Fn.body Tryz.func11 rfl 62 rfl fun w H B a h=>?_
 refine rq za0 20 [] [(0,.t (.c (.d (.sl 9 (props.map zai.d))))),(1,(vRs ps)),(5,vp 20 0),(6,.t (.c (.d (.raw zae)))),(7,vb false)] [(20,.box [cIs a_.locs,.d (.sl 1 (a_.bits.map za5))])] h fun a w h=>?_
 refine rqk za0 21 [] [(0,.t (.c (.d (.sl 9 (props.map zai.d))))),(1,(vRs ps)),(5,vp 20 0),(6,.t (.c (.d (.raw zae)))),(7,vb false),(8,.t (.c (.d (.raw zae))))] h fun a w h=>?_
 refine wp_seq (rqk za0 21 [(1,.len (za9 9 zai.d props))] [(1,(vRs ps)),(5,vp 20 0),(6,.t (.c (.d (.raw zae)))),(7,vb false),(8,.t (.c (.d (.raw zae)))),(13,.t (.c (.d (.sl 9 (props.map zai.d))))),(14,vN props.length),(15,vI 0)] h fun a w h=>?_)
 refine wp_block ?_
 replace h:=zev 8 0 21 1 4 (.t (.c (.d (.raw zae)))) [(1,(vRs ps)),(5,vp 20 0),(6,.t (.c (.d (.raw zae)))),(7,vb false),(8,.t (.c (.own 21 0))),(13,.t (.c (.d (.sl 9 (props.map zai.d))))),(14,vN props.length),(15,vI 0)] [(20,.box [cIs a_.locs,.d (.sl 1 (a_.bits.map za5))]),(21,.row 4 1 ([].map za5))] h (by kernel_rfl) rfl rfl
 refine zau (ι:=(Nat)) (fun j=>j≤props.length∧(props.take j).all (fun p=>(zaq ps a_ p).2)=true)
   (fun j=>[(1,(vRs ps)),(5,vp 20 0),(8,.t (.c (.own 21 ((props.take j).map (fun p=>(zaq ps a_ p).1)).length))),(13,.t (.c (.d (.sl 9 (props.map zai.d))))),(14,vN props.length),(15,vN j)])
   (fun j=>[(20,.box [cIs a_.locs,.d (.sl 1 (a_.bits.map za5))]),(21,.row 4 1 (((props.take j).map (fun p=>(zaq ps a_ p).1)).map za5))])
   (fun j=>props.length - j) 0 ?_ h (by kernel_rfl) (by kernel_rfl) ?_
 ·exact ⟨Nat.zero_le _,rfl⟩
 clear h;rintro j a w hI h
 obtain ⟨hI1,hI2⟩:=hI
 have llj:((props.take j).map (fun p=>(zaq ps a_ p).1)).length≤j:=by rw [List.length_map,List.length_take];omega
 refine rqk za0 22 [] [(1,(vRs ps)),(5,vp 20 0),(8,.t (.c (.own 21 ((props.take j).map (fun p=>(zaq ps a_ p).1)).length))),(13,.t (.c (.d (.sl 9 (props.map zai.d))))),(14,vN props.length),(15,vN j),(16,vb (decide ((j:Int)<(props.length:Int))))] h fun a w h=>?_
 refine wp_seq ?_
 refine zam ((j:Int)<(props.length:Int)) h rfl (fun hc1 hc1'=>?_) (fun hc18 hc18'=>?_)
 ·refine wp_skip (za2 (wp_seq (wp_block ?_)))
  obtain ⟨x1,hx1⟩:=gl props j
  refine rq za0 22 [(0,.g (xD 17 13 li9_5 (zaf hx1 (f:=zai.d)) (OV.tmp 15 _)))] [(1,(vRs ps)),(5,vp 20 0),(8,.t (.c (.own 21 ((props.take j).map (fun p=>(zaq ps a_ p).1)).length))),(10,vp 22 0),(13,.t (.c (.d (.sl 9 (props.map zai.d))))),(14,vN props.length),(15,vN j)] [(20,.box [cIs a_.locs,.d (.sl 1 (a_.bits.map za5))]),(21,.row 4 1 (((props.take j).map (fun p=>(zaq ps a_ p).1)).map za5)),(22,.box ([cB x1.at_,cI x1.proc,cI x1.loc,cI x1.f.kind,cPs x1.f.r.t.parts]++zi x1.f.r.t.k++[cB x1.f.r.eq,cFs x1.f.kids]))] h fun a w h=>?_
  rcases Bool.eq_false_or_eq_true (decide (x1.proc≥0)) with hc | hc
  ·have hc2:=hc;clear hc
   have hc2':=dT hc2
   rcases Bool.eq_false_or_eq_true (decide (x1.proc<(a_.locs.length:Int))) with hc | hc
   ·have hc3:=hc;clear hc
    have hc3':=dT hc3
    obtain ⟨kp,hkkp⟩:∃ k_:Nat,x1.proc=(k_:Int):=⟨_,(Int.toNat_of_nonneg (by have:=dT hc2;omega)).symm⟩
    replace h:=h.conv (f':=F.of [(1,(vRs ps)),(5,vp 20 0),(8,.t (.c (.own 21 ((props.take j).map (fun p=>(zaq ps a_ p).1)).length))),(10,vp 22 0),(13,.t (.c (.d (.sl 9 (props.map zai.d))))),(14,vN props.length),(15,vN j)] [(20,.box [cIs a_.locs,.d (.sl 1 (a_.bits.map za5))]),(21,.row 4 1 (((props.take j).map (fun p=>(zaq ps a_ p).1)).map za5)),(22,.box ([cB x1.at_,cI (kp:Int),cI x1.loc,cI x1.f.kind,cPs x1.f.r.t.parts]++zi x1.f.r.t.k++[cB x1.f.r.eq,cFs x1.f.kids]))]) (by rw [hkkp])
    obtain ⟨x2,hx2⟩:=gl a_.locs kp
    refine rq za0 23 [(2,.cmp (op:=.geq) (m:=(kp:Int)) (n:=0) (b:=true) .i64 (show (decide ((kp:Int)≥0))=true from by rw [← hkkp];exact hc2)),(8,.len (za9 1 zaw a_.locs)),(9,.cmp (op:=.lss) (m:=(kp:Int)) (n:=(a_.locs.length:Int)) (b:=true) .i64 (show (decide ((kp:Int)<(a_.locs.length:Int)))=true from by rw [← hkkp];exact hc3)),(16,.g (xD 35 32 zig (zaf hx2 (f:=zaw)) (OV.tmp 34 _)))] [(1,(vRs ps)),(5,vp 20 0),(8,.t (.c (.own 21 ((props.take j).map (fun p=>(zaq ps a_ p).1)).length))),(10,vp 22 0),(11,vb (x2 == x1.loc)),(12,vb true),(13,.t (.c (.d (.sl 9 (props.map zai.d))))),(14,vN props.length),(15,vN j)] [(20,.box [cIs a_.locs,.d (.sl 1 (a_.bits.map za5))]),(21,.row 4 1 (((props.take j).map (fun p=>(zaq ps a_ p).1)).map za5)),(22,.box ([cB x1.at_,cI (kp:Int),cI x1.loc,cI x1.f.kind,cPs x1.f.r.t.parts]++zi x1.f.r.t.k++[cB x1.f.r.eq,cFs x1.f.kids]))] h fun a w h=>?_
    refine wp_seq (rqk za0 23 [] [(1,(vRs ps)),(5,vp 20 0),(8,.t (.c (.own 21 ((props.take j).map (fun p=>(zaq ps a_ p).1)).length))),(10,vp 22 0),(11,vb (x2 == x1.loc)),(12,vb true),(13,.t (.c (.d (.sl 9 (props.map zai.d))))),(14,vN props.length),(15,vN j),(43,vb (!x1.at_))] h fun a w h=>?_)
    refine zah (!x1.at_) h rfl (fun hc4=>?_) (fun hc7=>?_)
    ·have hc4':=hc4;(try simp at hc4')
     refine rn za0 23 [(2,.call (LFlat x1.f (za1.okB_mono (by decide) (by decide) _ (hpr.2 x1 (lM hx1) (show (x1.at_)=false from by simpa using hc4)).1) (Nat.le_trans (hpr.2 x1 (lM hx1) (show (x1.at_)=false from by simpa using hc4)).2 (by decide))) li9_6),(6,.call (Ltruth ps a_.bits hps ha.2 (za1.flat x1.f false) (zay (hpr.2 x1 (lM hx1) (show (x1.at_)=false from by simpa using hc4))).1 (Nat.le_trans (zay (hpr.2 x1 (lM hx1) (show (x1.at_)=false from by simpa using hc4))).2 (by decide))) lj10_3)] [(1,(vRs ps)),(5,vp 20 0),(8,.t (.c (.own 21 ((props.take j).map (fun p=>(zaq ps a_ p).1)).length))),(11,vb (za1.tru ps a_.bits (za1.flat x1.f false)).1),(12,vb (za1.tru ps a_.bits (za1.flat x1.f false)).2),(13,.t (.c (.d (.sl 9 (props.map zai.d))))),(14,vN props.length),(15,vN j)] [(20,.box [cIs a_.locs,.d (.sl 1 (a_.bits.map za5))]),(21,.row 4 1 (((props.take j).map (fun p=>(zaq ps a_ p).1)).map za5))] h fun a w h=>?_
     refine za2 (wp_seq (rqk za0 23 [] [(1,(vRs ps)),(5,vp 20 0),(8,.t (.c (.own 21 ((props.take j).map (fun p=>(zaq ps a_ p).1)).length))),(11,vb (za1.tru ps a_.bits (za1.flat x1.f false)).1),(13,.t (.c (.d (.sl 9 (props.map zai.d))))),(14,vN props.length),(15,vN j),(55,vb (!(za1.tru ps a_.bits (za1.flat x1.f false)).2))] h fun a w h=>?_))
     refine zah (!(za1.tru ps a_.bits (za1.flat x1.f false)).2) h rfl (fun hc5=>?_) (fun hc6=>?_)
     ·have hc5':=hc5;(try simp at hc5')
      refine rqk za0 23 [] [(1,(vRs ps)),(5,vp 20 0),(6,.t (.c (.d (.raw zae)))),(7,vb false),(8,.t (.c (.own 21 ((props.take j).map (fun p=>(zaq ps a_ p).1)).length))),(11,vb (za1.tru ps a_.bits (za1.flat x1.f false)).1),(13,.t (.c (.d (.sl 9 (props.map zai.d))))),(14,vN props.length),(15,vN j)] h fun a w h=>?_
      refine wp_ret (za8 (zad (za8 (za8 (zad (za8 ?_))))))
      replace h:=nilDSs 6 0 1 (.t (.c (.d (.raw zae)))) [(1,(vRs ps)),(5,vp 20 0),(6,.t (.c (.d (.sl 1 ([].map za5))))),(7,vb false),(8,.t (.c (.own 21 ((props.take j).map (fun p=>(zaq ps a_ p).1)).length))),(11,vb (za1.tru ps a_.bits (za1.flat x1.f false)).1),(13,.t (.c (.d (.sl 9 (props.map zai.d))))),(14,vN props.length),(15,vN j)] [(20,.box [cIs a_.locs,.d (.sl 1 (a_.bits.map za5))]),(21,.row 4 1 (((props.take j).map (fun p=>(zaq ps a_ p).1)).map za5))] h rfl rfl
      refine zd0 [.c (.d (.sl 1 ([].map za5))),.c (cB false)] h Exit.ret (.inl rfl)  rfl ⟨RV.tmp _ _ rfl,RV.tmp _ _ rfl,trivial⟩ ?_
      have hz:zan props ps a_=([],false):=by unfold zan;rw [zbs hx1 (show (zaq ps a_ x1).2=false from by rw [zg1 (show (x1.at_)=false from by simpa using hc4)];have:=hc5;simpa using this)];rfl
      rw [hz];first | done | rfl
     have hc6':=hc6;(try simp at hc6')
     refine wp_skip (za2 (rn za0 23 [(2,.g (bD 58 ([(za1.tru ps a_.bits (za1.flat x1.f false)).1].map za5) [(57,vb (za1.tru ps a_.bits (za1.flat x1.f false)).1)] zfv (.cons (i:=0) (OV.tmp 57 _) (.nil)) (by kernel_rfl) (by simp [za5]))),(3,.g (aD 59 56 58 21 23 ((props.take j).map (fun p=>(zaq ps a_ p).1)) [(za1.tru ps a_.bits (za1.flat x1.f false)).1] za5 zhh (by simp [za5])))] [(1,(vRs ps)),(5,vp 20 0),(8,.t (.c (.own 23 (((props.take j).map (fun p=>(zaq ps a_ p).1))++[(za1.tru ps a_.bits (za1.flat x1.f false)).1]).length))),(13,.t (.c (.d (.sl 9 (props.map zai.d))))),(14,vN props.length),(15,vN j)] [(20,.box [cIs a_.locs,.d (.sl 1 (a_.bits.map za5))]),(23,.row 4 1 ((((props.take j).map (fun p=>(zaq ps a_ p).1))++[(za1.tru ps a_.bits (za1.flat x1.f false)).1]).map za5))] h fun a w h=>?_))
     refine zaa (za2 (rnk za0 24 [(0,.j1 j)] [(1,(vRs ps)),(5,vp 20 0),(8,.t (.c (.own 23 (((props.take j).map (fun p=>(zaq ps a_ p).1))++[(za1.tru ps a_.bits (za1.flat x1.f false)).1]).length))),(13,.t (.c (.d (.sl 9 (props.map zai.d))))),(14,vN props.length),(15,vI ((j:Int)+1))] h fun a w h=>?_))
     refine za2 ?_
     have hla:zaq ps a_ x1=((za1.tru ps a_.bits (za1.flat x1.f false)).1,((za1.flat x1.f false).tru ps a_.bits).2):=zg1 (show (x1.at_)=false from by simpa using hc4)
     rw [show ((((props.take j).map (fun p=>(zaq ps a_ p).1))++[(za1.tru ps a_.bits (za1.flat x1.f false)).1]):List Bool)=((props.take (j+1)).map (fun p=>(zaq ps a_ p).1)) from (by rw [← zbn (f:=(fun p=>(zaq ps a_ p).1)) hx1];congr 2;rw [hla])] at h
     replace h:=zbz 23 21 [(1,(vRs ps)),(5,vp 20 0),(8,.t (.c (.own 21 ((props.take (j+1)).map (fun p=>(zaq ps a_ p).1)).length))),(13,.t (.c (.d (.sl 9 (props.map zai.d))))),(14,vN props.length),(15,vI ((j:Int)+1))] [(20,.box [cIs a_.locs,.d (.sl 1 (a_.bits.map za5))]),(21,.row 4 1 (((props.take (j+1)).map (fun p=>(zaq ps a_ p).1)).map za5))] h
     refine zaj (x:=j) (y:=j+1) h ?_ ?_
     ·have:=zag hx1
      exact ⟨by omega,zbi hx1 hI2 (show (zaq ps a_ x1).2=true from by rw [hla];have:=hc6;simpa using this)⟩
     show props.length - (j+1)<props.length - j
     have:=zag hx1;omega
    have hc7':=hc7;(try simp at hc7')
    refine wp_skip (za2 (wp_seq (rq za0 24 [] [(1,(vRs ps)),(5,vp 20 0),(8,.t (.c (.own 21 ((props.take j).map (fun p=>(zaq ps a_ p).1)).length))),(11,vb (x2 == x1.loc)),(13,.t (.c (.d (.sl 9 (props.map zai.d))))),(14,vN props.length),(15,vN j),(55,vb false)] [(20,.box [cIs a_.locs,.d (.sl 1 (a_.bits.map za5))]),(21,.row 4 1 (((props.take j).map (fun p=>(zaq ps a_ p).1)).map za5))] h fun a w h=>?_)))
    refine zah false h rfl nofun (fun _=>?_)
    refine wp_skip (za2 (rn za0 24 [(2,.g (bD 58 ([x2 == x1.loc].map za5) [(57,vb (x2 == x1.loc))] zfv (.cons (i:=0) (OV.tmp 57 _) (.nil)) (by kernel_rfl) (by simp [za5]))),(3,.g (aD 59 56 58 21 24 ((props.take j).map (fun p=>(zaq ps a_ p).1)) [x2 == x1.loc] za5 zhh (by simp [za5])))] [(1,(vRs ps)),(5,vp 20 0),(8,.t (.c (.own 24 (((props.take j).map (fun p=>(zaq ps a_ p).1))++[x2 == x1.loc]).length))),(13,.t (.c (.d (.sl 9 (props.map zai.d))))),(14,vN props.length),(15,vN j)] [(20,.box [cIs a_.locs,.d (.sl 1 (a_.bits.map za5))]),(24,.row 4 1 ((((props.take j).map (fun p=>(zaq ps a_ p).1))++[x2 == x1.loc]).map za5))] h fun a w h=>?_))
    refine zaa (za2 (rnk za0 25 [(0,.j1 j)] [(1,(vRs ps)),(5,vp 20 0),(8,.t (.c (.own 24 (((props.take j).map (fun p=>(zaq ps a_ p).1))++[x2 == x1.loc]).length))),(13,.t (.c (.d (.sl 9 (props.map zai.d))))),(14,vN props.length),(15,vI ((j:Int)+1))] h fun a w h=>?_))
    refine za2 ?_
    have hla:zaq ps a_ x1=(x2 == x1.loc,true):=by rw [zgc (show (x1.at_)=true from by simpa using hc7),locB_at hkkp hx2]
    rw [show ((((props.take j).map (fun p=>(zaq ps a_ p).1))++[x2 == x1.loc]):List Bool)=((props.take (j+1)).map (fun p=>(zaq ps a_ p).1)) from (by rw [← zbn (f:=(fun p=>(zaq ps a_ p).1)) hx1];congr 2;rw [hla])] at h
    replace h:=zbz 24 21 [(1,(vRs ps)),(5,vp 20 0),(8,.t (.c (.own 21 ((props.take (j+1)).map (fun p=>(zaq ps a_ p).1)).length))),(13,.t (.c (.d (.sl 9 (props.map zai.d))))),(14,vN props.length),(15,vI ((j:Int)+1))] [(20,.box [cIs a_.locs,.d (.sl 1 (a_.bits.map za5))]),(21,.row 4 1 (((props.take (j+1)).map (fun p=>(zaq ps a_ p).1)).map za5))] h
    refine zaj (x:=j) (y:=j+1) h ?_ ?_
    ·have:=zag hx1
     exact ⟨by omega,zbi hx1 hI2 (show (zaq ps a_ x1).2=true from by rw [hla])⟩
    show props.length - (j+1)<props.length - j
    have:=zag hx1;omega
   have hc8:=hc;clear hc
   have hc8':=dF hc8
   refine rqk za0 25 [(2,.cmp (op:=.geq) (m:=x1.proc) (n:=0) (b:=true) .i64 hc2),(8,.len (za9 1 zaw a_.locs)),(9,.cmp (op:=.lss) (m:=x1.proc) (n:=(a_.locs.length:Int)) (b:=false) .i64 hc8)] [(1,(vRs ps)),(5,vp 20 0),(8,.t (.c (.own 21 ((props.take j).map (fun p=>(zaq ps a_ p).1)).length))),(10,vp 22 0),(11,vb false),(12,vb true),(13,.t (.c (.d (.sl 9 (props.map zai.d))))),(14,vN props.length),(15,vN j)] h fun a w h=>?_
   refine wp_seq (rqk za0 25 [] [(1,(vRs ps)),(5,vp 20 0),(8,.t (.c (.own 21 ((props.take j).map (fun p=>(zaq ps a_ p).1)).length))),(10,vp 22 0),(11,vb false),(12,vb true),(13,.t (.c (.d (.sl 9 (props.map zai.d))))),(14,vN props.length),(15,vN j),(43,vb (!x1.at_))] h fun a w h=>?_)
   refine zah (!x1.at_) h rfl (fun hc9=>?_) (fun hc12=>?_)
   ·have hc9':=hc9;(try simp at hc9')
    refine rn za0 25 [(2,.call (LFlat x1.f (za1.okB_mono (by decide) (by decide) _ (hpr.2 x1 (lM hx1) (show (x1.at_)=false from by simpa using hc9)).1) (Nat.le_trans (hpr.2 x1 (lM hx1) (show (x1.at_)=false from by simpa using hc9)).2 (by decide))) li9_6),(6,.call (Ltruth ps a_.bits hps ha.2 (za1.flat x1.f false) (zay (hpr.2 x1 (lM hx1) (show (x1.at_)=false from by simpa using hc9))).1 (Nat.le_trans (zay (hpr.2 x1 (lM hx1) (show (x1.at_)=false from by simpa using hc9))).2 (by decide))) lj10_3)] [(1,(vRs ps)),(5,vp 20 0),(8,.t (.c (.own 21 ((props.take j).map (fun p=>(zaq ps a_ p).1)).length))),(11,vb (za1.tru ps a_.bits (za1.flat x1.f false)).1),(12,vb (za1.tru ps a_.bits (za1.flat x1.f false)).2),(13,.t (.c (.d (.sl 9 (props.map zai.d))))),(14,vN props.length),(15,vN j)] [(20,.box [cIs a_.locs,.d (.sl 1 (a_.bits.map za5))]),(21,.row 4 1 (((props.take j).map (fun p=>(zaq ps a_ p).1)).map za5))] h fun a w h=>?_
    refine za2 (wp_seq (rqk za0 25 [] [(1,(vRs ps)),(5,vp 20 0),(8,.t (.c (.own 21 ((props.take j).map (fun p=>(zaq ps a_ p).1)).length))),(11,vb (za1.tru ps a_.bits (za1.flat x1.f false)).1),(13,.t (.c (.d (.sl 9 (props.map zai.d))))),(14,vN props.length),(15,vN j),(55,vb (!(za1.tru ps a_.bits (za1.flat x1.f false)).2))] h fun a w h=>?_))
    refine zah (!(za1.tru ps a_.bits (za1.flat x1.f false)).2) h rfl (fun hc10=>?_) (fun hc11=>?_)
    ·have hc10':=hc10;(try simp at hc10')
     refine rqk za0 25 [] [(1,(vRs ps)),(5,vp 20 0),(6,.t (.c (.d (.raw zae)))),(7,vb false),(8,.t (.c (.own 21 ((props.take j).map (fun p=>(zaq ps a_ p).1)).length))),(11,vb (za1.tru ps a_.bits (za1.flat x1.f false)).1),(13,.t (.c (.d (.sl 9 (props.map zai.d))))),(14,vN props.length),(15,vN j)] h fun a w h=>?_
     refine wp_ret (za8 (zad (za8 (za8 (zad (za8 ?_))))))
     replace h:=nilDSs 6 0 1 (.t (.c (.d (.raw zae)))) [(1,(vRs ps)),(5,vp 20 0),(6,.t (.c (.d (.sl 1 ([].map za5))))),(7,vb false),(8,.t (.c (.own 21 ((props.take j).map (fun p=>(zaq ps a_ p).1)).length))),(11,vb (za1.tru ps a_.bits (za1.flat x1.f false)).1),(13,.t (.c (.d (.sl 9 (props.map zai.d))))),(14,vN props.length),(15,vN j)] [(20,.box [cIs a_.locs,.d (.sl 1 (a_.bits.map za5))]),(21,.row 4 1 (((props.take j).map (fun p=>(zaq ps a_ p).1)).map za5))] h rfl rfl
     refine zd0 [.c (.d (.sl 1 ([].map za5))),.c (cB false)] h Exit.ret (.inl rfl)  rfl ⟨RV.tmp _ _ rfl,RV.tmp _ _ rfl,trivial⟩ ?_
     have hz:zan props ps a_=([],false):=by unfold zan;rw [zbs hx1 (show (zaq ps a_ x1).2=false from by rw [zg1 (show (x1.at_)=false from by simpa using hc9)];have:=hc10;simpa using this)];rfl
     rw [hz];first | done | rfl
    have hc11':=hc11;(try simp at hc11')
    refine wp_skip (za2 (rn za0 25 [(2,.g (bD 58 ([(za1.tru ps a_.bits (za1.flat x1.f false)).1].map za5) [(57,vb (za1.tru ps a_.bits (za1.flat x1.f false)).1)] zfv (.cons (i:=0) (OV.tmp 57 _) (.nil)) (by kernel_rfl) (by simp [za5]))),(3,.g (aD 59 56 58 21 25 ((props.take j).map (fun p=>(zaq ps a_ p).1)) [(za1.tru ps a_.bits (za1.flat x1.f false)).1] za5 zhh (by simp [za5])))] [(1,(vRs ps)),(5,vp 20 0),(8,.t (.c (.own 25 (((props.take j).map (fun p=>(zaq ps a_ p).1))++[(za1.tru ps a_.bits (za1.flat x1.f false)).1]).length))),(13,.t (.c (.d (.sl 9 (props.map zai.d))))),(14,vN props.length),(15,vN j)] [(20,.box [cIs a_.locs,.d (.sl 1 (a_.bits.map za5))]),(25,.row 4 1 ((((props.take j).map (fun p=>(zaq ps a_ p).1))++[(za1.tru ps a_.bits (za1.flat x1.f false)).1]).map za5))] h fun a w h=>?_))
    refine zaa (za2 (rnk za0 26 [(0,.j1 j)] [(1,(vRs ps)),(5,vp 20 0),(8,.t (.c (.own 25 (((props.take j).map (fun p=>(zaq ps a_ p).1))++[(za1.tru ps a_.bits (za1.flat x1.f false)).1]).length))),(13,.t (.c (.d (.sl 9 (props.map zai.d))))),(14,vN props.length),(15,vI ((j:Int)+1))] h fun a w h=>?_))
    refine za2 ?_
    have hla:zaq ps a_ x1=((za1.tru ps a_.bits (za1.flat x1.f false)).1,((za1.flat x1.f false).tru ps a_.bits).2):=zg1 (show (x1.at_)=false from by simpa using hc9)
    rw [show ((((props.take j).map (fun p=>(zaq ps a_ p).1))++[(za1.tru ps a_.bits (za1.flat x1.f false)).1]):List Bool)=((props.take (j+1)).map (fun p=>(zaq ps a_ p).1)) from (by rw [← zbn (f:=(fun p=>(zaq ps a_ p).1)) hx1];congr 2;rw [hla])] at h
    replace h:=zbz 25 21 [(1,(vRs ps)),(5,vp 20 0),(8,.t (.c (.own 21 ((props.take (j+1)).map (fun p=>(zaq ps a_ p).1)).length))),(13,.t (.c (.d (.sl 9 (props.map zai.d))))),(14,vN props.length),(15,vI ((j:Int)+1))] [(20,.box [cIs a_.locs,.d (.sl 1 (a_.bits.map za5))]),(21,.row 4 1 (((props.take (j+1)).map (fun p=>(zaq ps a_ p).1)).map za5))] h
    refine zaj (x:=j) (y:=j+1) h ?_ ?_
    ·have:=zag hx1
     exact ⟨by omega,zbi hx1 hI2 (show (zaq ps a_ x1).2=true from by rw [hla];have:=hc11;simpa using this)⟩
    show props.length - (j+1)<props.length - j
    have:=zag hx1;omega
   have hc12':=hc12;(try simp at hc12')
   refine wp_skip (za2 (wp_seq (rq za0 26 [] [(1,(vRs ps)),(5,vp 20 0),(8,.t (.c (.own 21 ((props.take j).map (fun p=>(zaq ps a_ p).1)).length))),(11,vb false),(13,.t (.c (.d (.sl 9 (props.map zai.d))))),(14,vN props.length),(15,vN j),(55,vb false)] [(20,.box [cIs a_.locs,.d (.sl 1 (a_.bits.map za5))]),(21,.row 4 1 (((props.take j).map (fun p=>(zaq ps a_ p).1)).map za5))] h fun a w h=>?_)))
   refine zah false h rfl nofun (fun _=>?_)
   refine wp_skip (za2 (rn za0 26 [(2,.g (bD 58 ([false].map za5) [(57,vb false)] zfv (.cons (i:=0) (OV.tmp 57 _) (.nil)) (by kernel_rfl) (by simp [za5]))),(3,.g (aD 59 56 58 21 26 ((props.take j).map (fun p=>(zaq ps a_ p).1)) [false] za5 zhh (by simp [za5])))] [(1,(vRs ps)),(5,vp 20 0),(8,.t (.c (.own 26 (((props.take j).map (fun p=>(zaq ps a_ p).1))++[false]).length))),(13,.t (.c (.d (.sl 9 (props.map zai.d))))),(14,vN props.length),(15,vN j)] [(20,.box [cIs a_.locs,.d (.sl 1 (a_.bits.map za5))]),(26,.row 4 1 ((((props.take j).map (fun p=>(zaq ps a_ p).1))++[false]).map za5))] h fun a w h=>?_))
   refine zaa (za2 (rnk za0 27 [(0,.j1 j)] [(1,(vRs ps)),(5,vp 20 0),(8,.t (.c (.own 26 (((props.take j).map (fun p=>(zaq ps a_ p).1))++[false]).length))),(13,.t (.c (.d (.sl 9 (props.map zai.d))))),(14,vN props.length),(15,vI ((j:Int)+1))] h fun a w h=>?_))
   refine za2 ?_
   have hla:zaq ps a_ x1=(false,true):=by rw [zgc (show (x1.at_)=true from by simpa using hc12),locB_no (.inr (by have:=dF hc8;omega))]
   rw [show ((((props.take j).map (fun p=>(zaq ps a_ p).1))++[false]):List Bool)=((props.take (j+1)).map (fun p=>(zaq ps a_ p).1)) from (by rw [← zbn (f:=(fun p=>(zaq ps a_ p).1)) hx1];congr 2;rw [hla])] at h
   replace h:=zbz 26 21 [(1,(vRs ps)),(5,vp 20 0),(8,.t (.c (.own 21 ((props.take (j+1)).map (fun p=>(zaq ps a_ p).1)).length))),(13,.t (.c (.d (.sl 9 (props.map zai.d))))),(14,vN props.length),(15,vI ((j:Int)+1))] [(20,.box [cIs a_.locs,.d (.sl 1 (a_.bits.map za5))]),(21,.row 4 1 (((props.take (j+1)).map (fun p=>(zaq ps a_ p).1)).map za5))] h
   refine zaj (x:=j) (y:=j+1) h ?_ ?_
   ·have:=zag hx1
    exact ⟨by omega,zbi hx1 hI2 (show (zaq ps a_ x1).2=true from by rw [hla])⟩
   show props.length - (j+1)<props.length - j
   have:=zag hx1;omega
  have hc13:=hc;clear hc
  have hc13':=dF hc13
  refine rqk za0 27 [(2,.cmp (op:=.geq) (m:=x1.proc) (n:=0) (b:=false) .i64 hc13)] [(1,(vRs ps)),(5,vp 20 0),(8,.t (.c (.own 21 ((props.take j).map (fun p=>(zaq ps a_ p).1)).length))),(10,vp 22 0),(11,vb false),(12,vb true),(13,.t (.c (.d (.sl 9 (props.map zai.d))))),(14,vN props.length),(15,vN j)] h fun a w h=>?_
  refine wp_seq (rqk za0 27 [] [(1,(vRs ps)),(5,vp 20 0),(8,.t (.c (.own 21 ((props.take j).map (fun p=>(zaq ps a_ p).1)).length))),(10,vp 22 0),(11,vb false),(12,vb true),(13,.t (.c (.d (.sl 9 (props.map zai.d))))),(14,vN props.length),(15,vN j),(43,vb (!x1.at_))] h fun a w h=>?_)
  refine zah (!x1.at_) h rfl (fun hc14=>?_) (fun hc17=>?_)
  ·have hc14':=hc14;(try simp at hc14')
   refine rn za0 27 [(2,.call (LFlat x1.f (za1.okB_mono (by decide) (by decide) _ (hpr.2 x1 (lM hx1) (show (x1.at_)=false from by simpa using hc14)).1) (Nat.le_trans (hpr.2 x1 (lM hx1) (show (x1.at_)=false from by simpa using hc14)).2 (by decide))) li9_6),(6,.call (Ltruth ps a_.bits hps ha.2 (za1.flat x1.f false) (zay (hpr.2 x1 (lM hx1) (show (x1.at_)=false from by simpa using hc14))).1 (Nat.le_trans (zay (hpr.2 x1 (lM hx1) (show (x1.at_)=false from by simpa using hc14))).2 (by decide))) lj10_3)] [(1,(vRs ps)),(5,vp 20 0),(8,.t (.c (.own 21 ((props.take j).map (fun p=>(zaq ps a_ p).1)).length))),(11,vb (za1.tru ps a_.bits (za1.flat x1.f false)).1),(12,vb (za1.tru ps a_.bits (za1.flat x1.f false)).2),(13,.t (.c (.d (.sl 9 (props.map zai.d))))),(14,vN props.length),(15,vN j)] [(20,.box [cIs a_.locs,.d (.sl 1 (a_.bits.map za5))]),(21,.row 4 1 (((props.take j).map (fun p=>(zaq ps a_ p).1)).map za5))] h fun a w h=>?_
   refine za2 (wp_seq (rqk za0 27 [] [(1,(vRs ps)),(5,vp 20 0),(8,.t (.c (.own 21 ((props.take j).map (fun p=>(zaq ps a_ p).1)).length))),(11,vb (za1.tru ps a_.bits (za1.flat x1.f false)).1),(13,.t (.c (.d (.sl 9 (props.map zai.d))))),(14,vN props.length),(15,vN j),(55,vb (!(za1.tru ps a_.bits (za1.flat x1.f false)).2))] h fun a w h=>?_))
   refine zah (!(za1.tru ps a_.bits (za1.flat x1.f false)).2) h rfl (fun hc15=>?_) (fun hc16=>?_)
   ·have hc15':=hc15;(try simp at hc15')
    refine rqk za0 27 [] [(1,(vRs ps)),(5,vp 20 0),(6,.t (.c (.d (.raw zae)))),(7,vb false),(8,.t (.c (.own 21 ((props.take j).map (fun p=>(zaq ps a_ p).1)).length))),(11,vb (za1.tru ps a_.bits (za1.flat x1.f false)).1),(13,.t (.c (.d (.sl 9 (props.map zai.d))))),(14,vN props.length),(15,vN j)] h fun a w h=>?_
    refine wp_ret (za8 (zad (za8 (za8 (zad (za8 ?_))))))
    replace h:=nilDSs 6 0 1 (.t (.c (.d (.raw zae)))) [(1,(vRs ps)),(5,vp 20 0),(6,.t (.c (.d (.sl 1 ([].map za5))))),(7,vb false),(8,.t (.c (.own 21 ((props.take j).map (fun p=>(zaq ps a_ p).1)).length))),(11,vb (za1.tru ps a_.bits (za1.flat x1.f false)).1),(13,.t (.c (.d (.sl 9 (props.map zai.d))))),(14,vN props.length),(15,vN j)] [(20,.box [cIs a_.locs,.d (.sl 1 (a_.bits.map za5))]),(21,.row 4 1 (((props.take j).map (fun p=>(zaq ps a_ p).1)).map za5))] h rfl rfl
    refine zd0 [.c (.d (.sl 1 ([].map za5))),.c (cB false)] h Exit.ret (.inl rfl)  rfl ⟨RV.tmp _ _ rfl,RV.tmp _ _ rfl,trivial⟩ ?_
    have hz:zan props ps a_=([],false):=by unfold zan;rw [zbs hx1 (show (zaq ps a_ x1).2=false from by rw [zg1 (show (x1.at_)=false from by simpa using hc14)];have:=hc15;simpa using this)];rfl
    rw [hz];first | done | rfl
   have hc16':=hc16;(try simp at hc16')
   refine wp_skip (za2 (rn za0 27 [(2,.g (bD 58 ([(za1.tru ps a_.bits (za1.flat x1.f false)).1].map za5) [(57,vb (za1.tru ps a_.bits (za1.flat x1.f false)).1)] zfv (.cons (i:=0) (OV.tmp 57 _) (.nil)) (by kernel_rfl) (by simp [za5]))),(3,.g (aD 59 56 58 21 27 ((props.take j).map (fun p=>(zaq ps a_ p).1)) [(za1.tru ps a_.bits (za1.flat x1.f false)).1] za5 zhh (by simp [za5])))] [(1,(vRs ps)),(5,vp 20 0),(8,.t (.c (.own 27 (((props.take j).map (fun p=>(zaq ps a_ p).1))++[(za1.tru ps a_.bits (za1.flat x1.f false)).1]).length))),(13,.t (.c (.d (.sl 9 (props.map zai.d))))),(14,vN props.length),(15,vN j)] [(20,.box [cIs a_.locs,.d (.sl 1 (a_.bits.map za5))]),(27,.row 4 1 ((((props.take j).map (fun p=>(zaq ps a_ p).1))++[(za1.tru ps a_.bits (za1.flat x1.f false)).1]).map za5))] h fun a w h=>?_))
   refine zaa (za2 (rnk za0 28 [(0,.j1 j)] [(1,(vRs ps)),(5,vp 20 0),(8,.t (.c (.own 27 (((props.take j).map (fun p=>(zaq ps a_ p).1))++[(za1.tru ps a_.bits (za1.flat x1.f false)).1]).length))),(13,.t (.c (.d (.sl 9 (props.map zai.d))))),(14,vN props.length),(15,vI ((j:Int)+1))] h fun a w h=>?_))
   refine za2 ?_
   have hla:zaq ps a_ x1=((za1.tru ps a_.bits (za1.flat x1.f false)).1,((za1.flat x1.f false).tru ps a_.bits).2):=zg1 (show (x1.at_)=false from by simpa using hc14)
   rw [show ((((props.take j).map (fun p=>(zaq ps a_ p).1))++[(za1.tru ps a_.bits (za1.flat x1.f false)).1]):List Bool)=((props.take (j+1)).map (fun p=>(zaq ps a_ p).1)) from (by rw [← zbn (f:=(fun p=>(zaq ps a_ p).1)) hx1];congr 2;rw [hla])] at h
   replace h:=zbz 27 21 [(1,(vRs ps)),(5,vp 20 0),(8,.t (.c (.own 21 ((props.take (j+1)).map (fun p=>(zaq ps a_ p).1)).length))),(13,.t (.c (.d (.sl 9 (props.map zai.d))))),(14,vN props.length),(15,vI ((j:Int)+1))] [(20,.box [cIs a_.locs,.d (.sl 1 (a_.bits.map za5))]),(21,.row 4 1 (((props.take (j+1)).map (fun p=>(zaq ps a_ p).1)).map za5))] h
   refine zaj (x:=j) (y:=j+1) h ?_ ?_
   ·have:=zag hx1
    exact ⟨by omega,zbi hx1 hI2 (show (zaq ps a_ x1).2=true from by rw [hla];have:=hc16;simpa using this)⟩
   show props.length - (j+1)<props.length - j
   have:=zag hx1;omega
  have hc17':=hc17;(try simp at hc17')
  refine wp_skip (za2 (wp_seq (rq za0 28 [] [(1,(vRs ps)),(5,vp 20 0),(8,.t (.c (.own 21 ((props.take j).map (fun p=>(zaq ps a_ p).1)).length))),(11,vb false),(13,.t (.c (.d (.sl 9 (props.map zai.d))))),(14,vN props.length),(15,vN j),(55,vb false)] [(20,.box [cIs a_.locs,.d (.sl 1 (a_.bits.map za5))]),(21,.row 4 1 (((props.take j).map (fun p=>(zaq ps a_ p).1)).map za5))] h fun a w h=>?_)))
  refine zah false h rfl nofun (fun _=>?_)
  refine wp_skip (za2 (rn za0 28 [(2,.g (bD 58 ([false].map za5) [(57,vb false)] zfv (.cons (i:=0) (OV.tmp 57 _) (.nil)) (by kernel_rfl) (by simp [za5]))),(3,.g (aD 59 56 58 21 28 ((props.take j).map (fun p=>(zaq ps a_ p).1)) [false] za5 zhh (by simp [za5])))] [(1,(vRs ps)),(5,vp 20 0),(8,.t (.c (.own 28 (((props.take j).map (fun p=>(zaq ps a_ p).1))++[false]).length))),(13,.t (.c (.d (.sl 9 (props.map zai.d))))),(14,vN props.length),(15,vN j)] [(20,.box [cIs a_.locs,.d (.sl 1 (a_.bits.map za5))]),(28,.row 4 1 ((((props.take j).map (fun p=>(zaq ps a_ p).1))++[false]).map za5))] h fun a w h=>?_))
  refine zaa (za2 (rnk za0 29 [(0,.j1 j)] [(1,(vRs ps)),(5,vp 20 0),(8,.t (.c (.own 28 (((props.take j).map (fun p=>(zaq ps a_ p).1))++[false]).length))),(13,.t (.c (.d (.sl 9 (props.map zai.d))))),(14,vN props.length),(15,vI ((j:Int)+1))] h fun a w h=>?_))
  refine za2 ?_
  have hla:zaq ps a_ x1=(false,true):=by rw [zgc (show (x1.at_)=true from by simpa using hc17),locB_no (.inl (by have:=dF hc13;omega))]
  rw [show ((((props.take j).map (fun p=>(zaq ps a_ p).1))++[false]):List Bool)=((props.take (j+1)).map (fun p=>(zaq ps a_ p).1)) from (by rw [← zbn (f:=(fun p=>(zaq ps a_ p).1)) hx1];congr 2;rw [hla])] at h
  replace h:=zbz 28 21 [(1,(vRs ps)),(5,vp 20 0),(8,.t (.c (.own 21 ((props.take (j+1)).map (fun p=>(zaq ps a_ p).1)).length))),(13,.t (.c (.d (.sl 9 (props.map zai.d))))),(14,vN props.length),(15,vI ((j:Int)+1))] [(20,.box [cIs a_.locs,.d (.sl 1 (a_.bits.map za5))]),(21,.row 4 1 (((props.take (j+1)).map (fun p=>(zaq ps a_ p).1)).map za5))] h
  refine zaj (x:=j) (y:=j+1) h ?_ ?_
  ·have:=zag hx1
   exact ⟨by omega,zbi hx1 hI2 (show (zaq ps a_ x1).2=true from by rw [hla])⟩
  show props.length - (j+1)<props.length - j
  have:=zag hx1;omega
 refine wp_exit (zab (zab (za7 (za2 (rq za0 29 [] [(6,.t (.c (.own 21 ((props.take j).map (fun p=>(zaq ps a_ p).1)).length))),(7,vb true)] [(21,.row 4 1 (((props.take j).map (fun p=>(zaq ps a_ p).1)).map za5))] h fun a w h=>?_)))))
 refine wp_ret ?_
 replace h:=zgn 21 1 4 (((props.take j).map (fun p=>(zaq ps a_ p).1)).map za5) [(6,.t (.c (.d (.sl 1 (((props.take j).map (fun p=>(zaq ps a_ p).1)).map za5))))),(7,vb true)] [] h rfl (show zbt _ [((props.take j).map (fun p=>(zaq ps a_ p).1)).length] from ⟨by first | exact (List.length_map _).symm | (simp;done) | (simp;omega),trivial⟩) trivial
 refine zd0 [.c (.d (.sl 1 (((props.take j).map (fun p=>(zaq ps a_ p).1)).map za5))),.c (cB true)] h Exit.ret (.inl rfl)  rfl ⟨RV.tmp _ _ rfl,RV.tmp _ _ rfl,trivial⟩ ?_
 have hz:zan props ps a_=(((props.take j).map (fun p=>(zaq ps a_ p).1)),true):=by unfold zan;rw [if_pos (zdf (by omega) hI2),List.take_of_length_le (by omega)]
 rw [hz];first | done | rfl
end
section
open Go.RowKit

def zak (n:Int):zac:=⟨⟨[⟨0,ZI.of 1⟩],ZI.of (0 - n)⟩,false⟩
def f0:za1:=⟨0,zR,[]⟩
def atE (r:zac):za1:=⟨2,r,[]⟩
def zda:List zai:=[⟨true,0,0,f0⟩,⟨false,0,0,atE (zak 2)⟩]
def stE:StD:=⟨[0],[ZI.of 5]⟩
def aE:zcx:=⟨[0],[true]⟩
theorem te1:ofA [zak 2] stE=aE:=by kernel_rfl
theorem te2:zao (zak 2)=(zak 2,0):=by kernel_rfl
theorem te3:(atE (zak 2)).flat false=atE (zak 2):=by rw [flat_2f rfl rfl];unfold zav;rw [show (atE (zak 2)).r=zak 2 from rfl,te2];rfl
theorem te4:atR [] (zak 2)=-1:=rfl
theorem te5:cpR (zak 2)=zak 2:=by kernel_rfl
theorem te6:zde zda=[zak 2]:=by
 show zal (zal [] ⟨true,0,0,f0⟩) ⟨false,0,0,atE (zak 2)⟩=_
 unfold zal
 rw [if_neg (by decide),if_pos rfl]
 show ((atE (zak 2)).flat false).gath []=_
 rw [te3,zir rfl (by rw [show (atE (zak 2)).r=zak 2 from rfl,te4];decide)]
 show []++[cpR (zak 2)]=_
 rw [te5];rfl
theorem te7:zcw zda=([zak 2],0):=by unfold zcw;rw [te6];rfl
theorem te8:atR [zak 2] (zak 2)=((0:Nat):Int):=by kernel_rfl
theorem te9:(atE (zak 2)).tru [zak 2] [true]=(true,true):=tru_at rfl te8 rfl
theorem te10:zan zda [zak 2] aE=([true,true],true):=by
 unfold zan zda
 have h1:zaq [zak 2] aE ⟨true,0,0,f0⟩=(true,true):=by rw [zgc rfl];rfl
 have h2:zaq [zak 2] aE ⟨false,0,0,atE (zak 2)⟩=(true,true):=by rw [zg1 rfl];show ((atE (zak 2)).flat false).tru _ _=_;rw [te3];exact te9
 simp [h1,h2]
theorem te11:zan zda [] aE=([],false):=by
 unfold zan zda
 have h2:zaq [] aE ⟨false,0,0,atE (zak 2)⟩=(false,false):=by rw [zg1 rfl];show ((atE (zak 2)).flat false).tru _ _=_;rw [te3];exact tru_no rfl (.inl (by rw [show (atE (zak 2)).r=zak 2 from rfl,te4];decide))
 simp [h2]
theorem te12:(cubeF [zak 2] [false]).holds []=true:=by
 unfold cubeF
 rw [all_holds]
 show ((litF (zak 2) false).holds [] && true)=true
 unfold litF
 rw [if_neg (by decide),deny_holds,atom_holds]
 kernel_rfl
theorem te13:zdk aE aE=0:=by kernel_rfl
theorem te14:zdk aE ⟨[0],[false]⟩=1:=by kernel_rfl
theorem te16:cpR (zak 3)=zak 3:=by kernel_rfl
theorem te17:atR [zak 2] (zak 3)=-1:=by kernel_rfl
theorem te15:zgv [zak 2] (atE (zak 3))=[zak 2,zak 3]:=by
 have h:(atE (zak 3)).gath [zak 2]=[zak 2]++[cpR (zak 3)]:=zir (f:=atE (zak 3)) (ps:=[zak 2]) rfl (by rw [show (atE (zak 3)).r=zak 3 from rfl,te17];decide)
 unfold zgv
 rw [List.map_cons,te5,List.map_nil,h,te16];rfl
theorem Lleast (n:Int) (hn:-1000≤n∧n≤1000):Fn Tryz.prog 29 [] [vI n] (vR (zak n)) []:=by
 refine Fn.body Tryz.func29 rfl 11 rfl fun w H B a h=>?_
 refine rq za0 0 [] [(0,vI n),(2,vp 0 0)] [(0,.box zR0)] h fun a w h=>?_
 refine rq za0 1 [(0,.call (SROf 1 ⟨by omega,by omega⟩) tc_0),(2,.g (bD 5 ([(za4.mk 0 (ZI.of 1))].map za4.d) [(4,.t (.agg ([cI 0]++zi (ZI.of 1))))] tb_9 (.cons (i:=0) (OV.tmp 4 _) (.nil)) (by kernel_rfl) (by simp [za4.d]))),(4,.sub .i64 (m:=0) (n:=n) i6),(5,.call (SROf (0 - n) ⟨by omega,by omega⟩) tc_0)] [(2,vp 0 0)] [(0,.box ([cPs [(za4.mk 0 (ZI.of 1))]]++zi (ZI.of (0 - n))++[cB false]))] h fun a w h=>?_
 refine wp_ret ?_
 refine rA 0 ([cPs [(za4.mk 0 (ZI.of 1))]]++zi (ZI.of (0 - n))++[cB false]) h la_1 rfl rfl rfl rfl rfl ?_
 rfl
end
section
open Go.RowKit
end
section
open Go.RowKit
end
section
open Go.RowKit
end
section
open Go.RowKit
end
section
open Go.RowKit
end
section
open Go.RowKit
end
section
open Go.RowKit
end
section
open Go.RowKit
end
section
open Go.RowKit
end
section
open Go.RowKit

theorem kt_1:za6 Tryz.prog 31:=za6.mk' (by kernel_rfl)
def fewB (L:Nat) (b:BoundD):Bool:=decide ((b.lo.abs.length:Int)≤(L:Int)) && decide ((b.hi.abs.length:Int)≤(L:Int))
def formT (t:zb9):za1:=⟨2,⟨t,false⟩,[]⟩
def fewM (L:Nat) (m:MoveD):Bool:=fewF (formT m.t) 5 L
def fewA (L:Nat) (c:ActD):Bool:=(fewF c.guard 30 L && decide ((c.moves.length:Int)≤20)) && c.moves.all (fewM L)
def fewSys (L:Nat) (s:SysD):Bool:=(decide ((s.vars.length:Int)≤8∧(s.bounds.length:Int)≤20∧(s.procs.length:Int)≤6∧(s.acts.length:Int)≤20) && fewF s.init 30 L) && (s.bounds.all (fewB L) && s.acts.all (fewA L))
def zgz (L:Nat) (x:StD):Bool:=decide ((x.locs.length:Int)≤10∧(x.vals.length:Int)≤10) && x.vals.all fun z=>decide ((z.abs.length:Int)≤(L:Int))
/-- limbs that are limbs -/
structure SysRd (s:SysD):Prop where
  init:s.init.lb
  bnd:∀ b ∈ s.bounds,Lb b.lo.abs∧Lb b.hi.abs
  act:∀ c ∈ s.acts,c.guard.lb∧∀ m ∈ c.moves,TLb m.t
  len:s.bounds.length≤9223372036854775807∧s.acts.length≤9223372036854775807
  mlen:∀ c ∈ s.acts,c.moves.length≤9223372036854775807
def StRd (x:StD):Prop:=(∀ z ∈ x.vals,Lb z.abs)∧x.vals.length≤9223372036854775807
theorem fewF_ok {f:za1} {most:Int} {L:Nat} (h:fewF f most L=true) (hl:f.lb):f.ok L:=by unfold fewF at h;rw [Bool.and_eq_true] at h;exact za1.few_ok f h.2 hl
theorem formT_lb {t:zb9} (h:TLb t):(formT t).lb:=(za1.lb_eq _).2 ⟨⟨h,Nat.zero_le _⟩,fun g hg=>(by cases hg)⟩
theorem formT_ok {t:zb9} {L:Nat} (h:(formT t).ok L):TOk 20 L t:=((za1.ok_eq L _).1 h).1 rfl
theorem few_sys {L:Nat} {s:SysD} (h:fewSys L s=true) (hr:SysRd s):SysOk L s:=by
 unfold fewSys at h
 simp only [Bool.and_eq_true,decide_eq_true_eq,List.all_eq_true] at h
 obtain ⟨⟨⟨h1,h2,h3,h4⟩,h5⟩,h6,h7⟩:=h
 refine ⟨by omega,by omega,by omega,by omega,fun b hb=>?_,⟨hr.init,fewF_ok h5 hr.init⟩,fun c hc=>?_⟩
 ·have:=h6 b hb;unfold fewB at this;simp only [Bool.and_eq_true,decide_eq_true_eq] at this
  exact ⟨⟨(hr.bnd b hb).1,by omega⟩,(hr.bnd b hb).2,by omega⟩
 ·have:=h7 c hc;unfold fewA at this;simp only [Bool.and_eq_true,decide_eq_true_eq,List.all_eq_true] at this
  exact ⟨⟨(hr.act c hc).1,fewF_ok this.1.1 (hr.act c hc).1⟩,by omega,fun m hm=>formT_ok (fewF_ok (this.2 m hm) (formT_lb ((hr.act c hc).2 m hm)))⟩
theorem few_st {L:Nat} {x:StD} (h:zgz L x=true) (hr:StRd x):StOk L x:=by
 unfold zgz at h
 simp only [Bool.and_eq_true,decide_eq_true_eq,List.all_eq_true] at h
 exact ⟨by omega,by omega,fun z hz=>⟨hr.1 z hz,by have:=h.2 z hz;omega⟩⟩
theorem SFewSt (x:StD) (L:Nat) (hr:StRd x):Fn Tryz.prog 8 [] [.t (.agg [cIs x.locs,cZs x.vals]),vN L] (vb (zgz L x)) []:=by
 have lv:=hr.2
 refine Fn.body Tryz.func8 rfl 32 rfl fun w H B a h=>?_
 refine rq za0 0 [] [(1,vN L),(2,vp 0 0),(4,vb false)] [(0,.box [cIs x.locs,cZs x.vals])] h fun a w h=>?_
 refine wp_seq ?_
 rcases Bool.eq_false_or_eq_true (decide ((x.locs.length:Int)>10)) with hc | hc
 ·have hc1:=hc;clear hc
  have hc1':=dT hc1
  refine rqk za0 1 [(2,.len (za9 1 zaw x.locs)),(3,.cmp (op:=.gtr) (m:=(x.locs.length:Int)) (n:=10) (b:=true) .i64 hc1)] [(1,vN L),(2,vp 0 0),(4,vb false),(15,vb true)] h fun a w h=>?_
  refine zah true h rfl (fun _=>?_) nofun
  refine rqk za0 1 [] [(1,vN L),(2,vp 0 0),(4,vb false)] h fun a w h=>?_
  refine wp_ret (za8 ?_)
  refine rT (.c (cB false)) h rfl rfl ?_
  have hz:zgz L x=false:=by unfold zgz;rw [decide_eq_false (p:=(x.locs.length:Int)≤10∧(x.vals.length:Int)≤10) (by have:=dT hc1;omega)];rfl
  rw [hz];first | done | rfl
 have hc2:=hc;clear hc
 have hc2':=dF hc2
 refine rqk za0 1 [(2,.len (za9 1 zaw x.locs)),(3,.cmp (op:=.gtr) (m:=(x.locs.length:Int)) (n:=10) (b:=false) .i64 hc2),(7,.len (za9 2 ziD x.vals))] [(1,vN L),(2,vp 0 0),(4,vb false),(15,vb (decide ((x.vals.length:Int)>10)))] h fun a w h=>?_
 refine zam ((x.vals.length:Int)>10) h rfl (fun hc3 hc3'=>?_) (fun hc4 hc4'=>?_)
 ·refine rqk za0 1 [] [(1,vN L),(2,vp 0 0),(4,vb false)] h fun a w h=>?_
  refine wp_ret (za8 ?_)
  refine rT (.c (cB false)) h rfl rfl ?_
  have hz:zgz L x=false:=by unfold zgz;rw [decide_eq_false (p:=(x.locs.length:Int)≤10∧(x.vals.length:Int)≤10) (by have:=dT hc3;omega)];rfl
  rw [hz];first | done | rfl
 refine wp_skip (za2 (wp_seq (rqk za0 1 [] [(1,vN L),(2,vp 0 0),(4,vb false),(5,vI 0)] h fun a w h=>?_)))
 refine wp_block ?_
 refine zau (ι:=(Nat)) (fun j=>j≤x.vals.length∧(x.vals.take j).all (fun z=>decide ((z.abs.length:Int)≤(L:Int)))=true)
   (fun j=>[(1,vN L),(2,vp 0 0),(5,vN j)])
   (fun j=>[(0,.box [cIs x.locs,cZs x.vals])])
   (fun j=>x.vals.length - j) 0 ?_ h (by kernel_rfl) (by kernel_rfl) ?_
 ·exact ⟨Nat.zero_le _,rfl⟩
 clear h;rintro j a w hI h
 obtain ⟨hI1,hI2⟩:=hI
 refine wp_seq (rqk za0 1 [(3,.len (za9 2 ziD x.vals))] [(1,vN L),(2,vp 0 0),(5,vN j),(20,vb (decide ((j:Int)<(x.vals.length:Int))))] h fun a w h=>?_)
 refine zam ((j:Int)<(x.vals.length:Int)) h rfl (fun hc5 hc5'=>?_) (fun hc8 hc8'=>?_)
 ·refine wp_skip (za2 (wp_seq (wp_block ?_)))
  obtain ⟨x1,hx1⟩:=gl x.vals j
  refine rqk za0 1 [(3,.g (xD 26 24 tt_6 (zaf hx1 (f:=ziD)) (OV.tmp 25 _))),(6,.len (zf6 x1.abs))] [(1,vN L),(2,vp 0 0),(5,vN j),(31,vb (decide ((x1.abs.length:Int)>(L:Int))))] h fun a w h=>?_
  refine zam ((x1.abs.length:Int)>(L:Int)) h rfl (fun hc6 hc6'=>?_) (fun hc7 hc7'=>?_)
  ·refine rqk za0 1 [] [(1,vN L),(2,vp 0 0),(4,vb false),(5,vN j)] h fun a w h=>?_
   refine wp_ret (zad (za8 (za8 (zad (za8 ?_)))))
   refine rT (.c (cB false)) h rfl rfl ?_
   have hz:zgz L x=false:=by unfold zgz;rw [decide_eq_true (p:=(x.locs.length:Int)≤10∧(x.vals.length:Int)≤10) (by have:=dF hc2;have:=dF hc4;omega),Bool.true_and];exact zbs hx1 (decide_eq_false (by have:=dT hc6;omega))
   rw [hz];first | done | rfl
  refine wp_skip (zaa (za2 (rnk za0 1 [(1,.j1 j)] [(1,vN L),(2,vp 0 0),(5,vI ((j:Int)+1))] h fun a w h=>?_)))
  refine za2 ?_
  refine zaj (x:=j) (y:=j+1) h ?_ ?_
  ·exact ⟨by have:=zag hx1;omega,zbi hx1 hI2 (decide_eq_true (by have:=dF hc7;omega))⟩
  show x.vals.length - (j+1)<x.vals.length - j
  have:=zag hx1;omega
 refine wp_exit (zab (zab (za7 (za2 (rq za0 1 [] [(4,vb true)] [] h fun a w h=>?_)))))
 refine wp_ret ?_
 refine rT (.c (cB true)) h rfl rfl ?_
 have hz:zgz L x=true:=by unfold zgz;rw [decide_eq_true (p:=(x.locs.length:Int)≤10∧(x.vals.length:Int)≤10) (by have:=dF hc2;have:=dF hc4;omega),Bool.true_and];exact zdf (dF hc8) hI2
 rw [hz];first | done | rfl
end
section
open Go.RowKit
end
section
open Go.RowKit

mutual
/-- y is x, with nil read as an empty slice here and there -/
inductive Wk:D→D→Prop
  | refl (x:D):Wk x x
  | nil (es:Nat):Wk (.raw zae) (.sl es [])
  | sl (es:Nat) (a b:List (List D)) (h:WkR a b):Wk (.sl es a) (.sl es b)
inductive WkL:List D→List D→Prop
  | nil:WkL [] []
  | cons (x y:D) (xs ys:List D) (h:Wk x y) (hs:WkL xs ys):WkL (x :: xs) (y :: ys)
inductive WkR:List (List D)→List (List D)→Prop
  | nil:WkR [] []
  | cons (x y:List D) (xs ys:List (List D)) (h:WkL x y) (hs:WkR xs ys):WkR (x :: xs) (y :: ys)
end
def WkM (x y:D):Prop:=∀ (H:Im) (v:Value),DR H x v→DR H y v
def WkLM (xs ys:List D):Prop:=xs.length=ys.length∧∀ j (h:j<xs.length) (h':j<ys.length),WkM xs[j] ys[j]
def WkRM (xs ys:List (List D)):Prop:=xs.length=ys.length∧∀ i (h:i<xs.length) (h':i<ys.length),WkLM xs[i] ys[i]
theorem Wk.sound {x y:D} (h:Wk x y):WkM x y:=by
 refine Wk.rec (motive_1:=fun x y _=>WkM x y) (motive_2:=fun x y _=>WkLM x y) (motive_3:=fun x y _=>WkRM x y) ?_ ?_ ?_ ?_ ?_ ?_ ?_ h
 ·intro x H v h;exact h
 ·intro es H v h
  cases h with
  | raw v h=>exact DR.nil _ _ _ (fun _=>rfl) (Nat.zero_le _)
 ·intro es a b _ ih H v h
  cases h with
  | nil es ao c h hc =>
   have:b=[]:=List.length_eq_zero_iff.1 ih.1.symm
   subst this
   exact DR.nil _ _ _ h hc
  | sl es rows bb o c arr ty fz vs hp hb hl hc hes hv hr =>
   rw [ih.1] at hp hl ⊢
   refine DR.sl es b bb o c arr ty fz vs hp hb hl hc (fun i hi=>?_) (fun i hi=>?_) (fun i hi j hj=>?_)
   ·have h0:i<a.length:=by rw [ih.1];exact hi
    rw [← (ih.2 i h0 hi).1];exact hes i h0
   ·exact hv i (by rw [ih.1];exact hi)
   ·have h0:i<a.length:=by rw [ih.1];exact hi
    have hj0:j<a[i].length:=by rw [(ih.2 i h0 hi).1];exact hj
    exact (ih.2 i h0 hi).2 j hj0 hj _ _ (hr i h0 j hj0)
 ·exact ⟨rfl,fun j h=>absurd h (Nat.not_lt_zero j)⟩
 ·intro x y xs ys _ _ h hs
  refine ⟨by simp [hs.1],fun j hj hj'=>?_⟩
  cases j with
  | zero=>exact h
  | succ j=>exact hs.2 j (by simpa using hj) (by simpa using hj')
 ·exact ⟨rfl,fun j h=>absurd h (Nat.not_lt_zero j)⟩
 ·intro x y xs ys _ _ h hs
  refine ⟨by simp [hs.1],fun j hj hj'=>?_⟩
  cases j with
  | zero=>exact h
  | succ j=>exact hs.2 j (by simpa using hj) (by simpa using hj')
inductive WkC:List C→List C→Prop
  | nil:WkC [] []
  | same (x:C) (xs ys:List C) (hs:WkC xs ys):WkC (x :: xs) (x :: ys)
  | d (x y:D) (xs ys:List C) (h:Wk x y) (hs:WkC xs ys):WkC (.d x :: xs) (.d y :: ys)
theorem WkC.sound {H:Im} {B:Bl} {xs ys:List C} (h:WkC xs ys):∀ {vs:List Value}, zba (CR H B) xs vs→zba (CR H B) ys vs:=by
 induction h with
 | nil=>exact fun h=>h
 | same x xs ys _ ih =>
  intro vs k
  cases vs with
  | nil=>exact k.elim
  | cons v vs=>exact ⟨k.1,ih k.2⟩
 | d x y xs ys h _ ih =>
  intro vs k
  cases vs with
  | nil=>exact k.elim
  | cons v vs=>exact ⟨h.sound H v k.1,ih k.2⟩
inductive WkV:V→V→Prop
  | refl (x:V):WkV x x
  | c (x y:D) (h:Wk x y):WkV (.t (.c (.d x))) (.t (.c (.d y)))
  | agg (xs ys:List C) (h:WkC xs ys):WkV (.t (.agg xs)) (.t (.agg ys))
theorem WkV.sound {H:Im} {B:Bl} {x y:V} (h:WkV x y) {v:Value} (k:VR H B x v):VR H B y v:=by
 cases h with
 | refl=>exact k
 | c x y h=>exact h.sound H v k
 | agg xs ys h=>obtain ⟨vs,e,k⟩:=k;exact ⟨vs,e,h.sound k⟩
inductive WkA:List V→List V→Prop
  | nil:WkA [] []
  | cons (x y:V) (xs ys:List V) (h:WkV x y) (hs:WkA xs ys):WkA (x :: xs) (y :: ys)
theorem WkA.sound {H:Im} {B:Bl} {xs ys:List V} (h:WkA xs ys):∀ {vs:List Value}, zba (VR H B) xs vs→zba (VR H B) ys vs:=by
 induction h with
 | nil=>exact fun h=>h
 | cons x y xs ys h _ ih =>
  intro vs k
  cases vs with
  | nil=>exact k.elim
  | cons v vs=>exact ⟨h.sound k.1,ih k.2⟩
theorem Fn.argw {P:Program} {k:FuncId} {ps qs:List (Nat × L)} {args args':List V} {res:V} (h:Fn P k ps args' res qs) (hw:WkA args args'):Fn P k ps args res qs :=
 fun w H B vals pre=>h w H B vals ⟨pre.sat,pre.loc,pre.priv,pre.inj,hw.sound pre.arg⟩
end
section
open Go.RowKit

theorem lm13_0:za6 Tryz.prog 29:=za6.mk' (by kernel_rfl)
theorem lm13_5:za6 Tryz.prog 23:=za6.mk' (by kernel_rfl)
theorem lm13_6:ElZ Tryz.prog 22 62 9:=ElZ.mk' Tryz.underlying22 _ _ rfl rfl (by kernel_rfl) (by kernel_rfl) (by kernel_rfl) (by decide)
theorem lm13_7:za6 Tryz.prog 9:=za6.mk' (by kernel_rfl)
theorem lm13_8:za6 Tryz.prog 11:=za6.mk' (by kernel_rfl)
theorem lm13_10:za6 Tryz.prog 27:=za6.mk' (by kernel_rfl)
theorem lm13_13:za6 Tryz.prog 18:=za6.mk' (by kernel_rfl)
theorem lm13_15:za6 Tryz.prog 20:=za6.mk' (by kernel_rfl)
theorem lea_tok (n:Int) (hn:-1000≤n∧n≤1000):TOk 20 3 (zak n).t:=⟨(show 1≤20 by decide),fun p hp=>by
 rw [List.mem_singleton.1 hp];exact ⟨ZI.lb_of _,show (ZI.of 1).abs.length≤3 from by decide⟩,ZI.lb_of _,Nat.le_trans (ZI.len_of (L:=2) (by have:=pw2;show ((0:Int) - n).natAbs<_;omega)) (by decide)⟩
theorem le2:TOk 20 3 (zak 2).t:=lea_tok 2 (by decide)
theorem le3:TOk 20 3 (zak 3).t:=lea_tok 3 (by decide)
theorem psE_ok:PsOkR [zak 2]:=⟨by decide,fun r hr=>by rw [List.mem_singleton.1 hr];exact le2.mono (by decide) (by decide)⟩
theorem stE_ok:StOk 10 stE:=⟨by decide,by decide,fun z hz=>by rw [List.mem_singleton.1 hz];exact ⟨ZI.lb_of _,show (ZI.of 5).abs.length≤10 from by decide⟩⟩
theorem propsE_ok:zfh zda:=⟨by decide,fun p hp h=>by
 rcases List.mem_cons.1 hp with rfl | hp
 ·cases h
 ·rw [List.mem_singleton.1 hp];exact ⟨zim (le2.mono (by decide) (by decide)),by rw [za1.wid_eq];decide⟩⟩
theorem psE_t:[zak 2].length≤1000000∧∀ p ∈ [zak 2],TOk 200 3000 p.t:=⟨by decide,fun p hp=>by rw [List.mem_singleton.1 hp];exact le2.mono (by decide) (by decide)⟩
theorem nil_t:([]:List zac).length≤1000000∧∀ p ∈ ([]:List zac),TOk 200 3000 p.t:=⟨by decide,fun p hp=>by cases hp⟩
theorem cubeE_ok:(cubeF [zak 2] [false]).lb∧(cubeF [zak 2] [false]).ok 10:=by
 have hz:TLb zR.t:=⟨zg6,fun p hp=>by cases hp⟩
 have ha:(zb8 (zak 2)).cl=zb8 (zak 2):=by rw [cl_at rfl];show za1.mk 2 (cpR (cpR (zak 2))) []=_;rw [cpR_cpR];rfl
 have hd:(denyF (zb8 (zak 2))).cl=denyF (zb8 (zak 2)):=by rw [cl_kids (.inl rfl)];show za1.mk 3 zR [(zb8 (zak 2)).cl.cl]=za1.mk 3 zR [(zb8 (zak 2)).cl];rw [cl_cl]
 have e:cubeF [zak 2] [false]=⟨4,zR,[⟨3,zR,[⟨2,cpR (zak 2),[]⟩]⟩]⟩:=by
  show za1.mk 4 zR [(litF (zak 2) false).cl]=_
  show za1.mk 4 zR [(denyF (zb8 (zak 2))).cl]=_
  rw [hd];show za1.mk 4 zR [za1.mk 3 zR [(zb8 (zak 2)).cl]]=_;rw [ha];rfl
 have hc:TOk 20 4 (cpR (zak 2)).t:=le2.plain (by decide)
 rw [e]
 constructor
 ·rw [za1.lb_eq]
  refine ⟨⟨hz,by decide⟩,fun g hg=>?_⟩
  rw [List.mem_singleton.1 hg,za1.lb_eq]
  refine ⟨⟨hz,by decide⟩,fun g hg=>?_⟩
  rw [List.mem_singleton.1 hg,za1.lb_eq]
  exact ⟨⟨⟨hc.kb,fun p hp=>(hc.ps p hp).1⟩,by decide⟩,fun g hg=>by cases hg⟩
 ·rw [za1.ok_eq]
  refine ⟨fun h=>absurd h (by decide),fun g hg=>?_⟩
  rw [List.mem_singleton.1 (show g ∈ [_] from hg),za1.ok_eq]
  refine ⟨fun h=>absurd h (by decide),fun g hg=>?_⟩
  rw [List.mem_singleton.1 (show g ∈ [_] from hg),za1.ok_eq]
  exact ⟨fun _=>hc.mono (by decide) (by decide),fun g hg=>by cases hg⟩
theorem wkQ:Wk (.sl 9 [[.raw (.bool true),.raw (.int .i64 0),.raw (.int .i64 0),.raw (.int .i64 0),.raw zae,.raw (.bool false),nsl [],.raw (.bool false),.raw zae],[.raw (.bool false),.raw (.int .i64 0),.raw (.int .i64 0),.raw (.int .i64 2),.sl 3 ((zak 2).t.parts.map za4.d),.raw (.bool (zak 2).t.k.neg),nsl (zak 2).t.k.abs,.raw (.bool (zak 2).eq),.raw zae]]) (.sl 9 (zda.map zai.d)):=by
 refine Wk.sl _ _ _ (.cons _ _ _ _ ?_ (.cons _ _ _ _ ?_ .nil))
 all_goals repeat (first | exact WkL.nil | refine WkL.cons _ _ _ _ (by first | exact Wk.refl _ | exact Wk.nil _) ?_)
theorem Ltelling :Fn Tryz.prog 6 [] [] (vb true) []:=by
 refine Fn.body Tryz.func6 rfl 111 rfl fun w H B a h=>?_
 refine rq za0 0 [] [(0,vb false)] [] h fun a w h=>?_
 refine rq za0 0 [(0,.call (Lleast 2 (by decide)) lm13_0),(1,.g (bD 12 ([(zak 2)].map zac.d) [(11,(vR (zak 2)))] kc_5 (.cons (i:=0) (OV.tmp 11 _) (.nil)) (by kernel_rfl) (by simp [zac.d])))] [(0,vb false),(1,(vRs [(zak 2)]))] [] h fun a w h=>?_
 refine rq za0 0 [(1,.g (Op.buildD (d:=14) (len:=1) (rows:=[0].map zaw) (rs:=[]) tb_0 (.cons (i:=0) (OV.const (.int .i64 0) rfl) (.nil)) (by kernel_rfl) rfl (by simp [zaw]) (by decide) (by decide))),(2,.call (SROf 5 ⟨by decide,by decide⟩) tc_0),(3,.g (bD 16 ([(ZI.of 5)].map ziD) [(15,vz (ZI.of 5))] ty_5 (.cons (i:=0) (OV.tmp 15 _) (.nil)) (by kernel_rfl) (by simp [ziD]))),(5,.call (Fn.cast (LabsOf [zak 2] stE psE_ok stE_ok) (show (.t (.agg [cIs (ofA [zak 2] stE).locs,.d (.sl 1 ((ofA [zak 2] stE).bits.map za5))]):V) = .t (.agg [cIs aE.locs,.d (.sl 1 (aE.bits.map za5))]) from by rw [te1])) lm13_5)] [(0,vb false),(1,(vRs [(zak 2)])),(2,vp 0 0)] [(0,.box [cIs aE.locs,.d (.sl 1 (aE.bits.map za5))])] h fun a w h=>?_
 refine rqk za0 1 [(1,.call (Lleast 2 (by decide)) lm13_0),(4,.g (Op.buildD (d:=23) (len:=2) (rows:=[[.raw (.bool true),.raw (.int .i64 0),.raw (.int .i64 0),.raw (.int .i64 0),.raw zae,.raw (.bool false),nsl [],.raw (.bool false),.raw zae],[.raw (.bool false),.raw (.int .i64 0),.raw (.int .i64 0),.raw (.int .i64 2),.sl 3 ((zak 2).t.parts.map za4.d),.raw (.bool (zak 2).t.k.neg),nsl (zak 2).t.k.abs,.raw (.bool (zak 2).eq),.raw zae]]) (rs:=[(19,.t (.agg [cB true,cI 0,cI 0,cI 0,.d (.raw zae),cB false,.d (nsl []),cB false,.d (.raw zae)])),(22,.t (.agg ([cB false,cI 0,cI 0,cI 2,cPs (zak 2).t.parts]++zi (zak 2).t.k++[cB (zak 2).eq,.d (.raw zae)])))]) lm13_6 (.cons (i:=0) (OV.tmp 19 _) (.cons (i:=1) (OV.tmp 22 _) (.nil))) (by kernel_rfl) rfl (by simp) (by decide) (by decide)))] [(0,vb false),(1,(vRs [(zak 2)])),(2,vp 0 0),(3,.t (.c (.d (.sl 9 [[.raw (.bool true),.raw (.int .i64 0),.raw (.int .i64 0),.raw (.int .i64 0),.raw zae,.raw (.bool false),nsl [],.raw (.bool false),.raw zae],[.raw (.bool false),.raw (.int .i64 0),.raw (.int .i64 0),.raw (.int .i64 2),.sl 3 ((zak 2).t.parts.map za4.d),.raw (.bool (zak 2).t.k.neg),nsl (zak 2).t.k.abs,.raw (.bool (zak 2).eq),.raw zae]]))))] h fun a w h=>?_
 refine rqk za0 1 [(1,.call (Fn.argw (Fn.cast (LBase zda propsE_ok) (show (.tup [.c (cRs (zcw zda).1),.c (cI (zcw zda).2)]:V) = .tup [.c (cRs [zak 2]),.c (cI 0)] from by rw [te7])) (.cons _ _ _ _ (.c _ _ wkQ) .nil)) lm13_7)] [(0,vb false),(1,(vRs [(zak 2)])),(2,vp 0 0),(3,.t (.c (.d (.sl 9 [[.raw (.bool true),.raw (.int .i64 0),.raw (.int .i64 0),.raw (.int .i64 0),.raw zae,.raw (.bool false),nsl [],.raw (.bool false),.raw zae],[.raw (.bool false),.raw (.int .i64 0),.raw (.int .i64 0),.raw (.int .i64 2),.sl 3 ((zak 2).t.parts.map za4.d),.raw (.bool (zak 2).t.k.neg),nsl (zak 2).t.k.abs,.raw (.bool (zak 2).eq),.raw zae]])))),(4,(vRs [zak 2])),(5,vI 0)] h fun a w h=>?_
 refine rqk za0 1 [(3,.call (Fn.argw (Fn.cast (LLetter zda [zak 2] aE propsE_ok psE_t (by decide)) (show (.tup [.c (.d (.sl 1 ((zan zda [zak 2] aE).1.map za5))),.c (cB (zan zda [zak 2] aE).2)]:V) = .tup [.c (.d (.sl 1 ([true,true].map za5))),.c (cB true)] from by rw [te10])) (.cons _ _ _ _ (.c _ _ wkQ) (.cons _ _ _ _ (.refl _) (.cons _ _ _ _ (.refl _) .nil)))) lm13_8)] [(0,vb false),(1,(vRs [(zak 2)])),(2,vp 0 0),(3,.t (.c (.d (.sl 9 [[.raw (.bool true),.raw (.int .i64 0),.raw (.int .i64 0),.raw (.int .i64 0),.raw zae,.raw (.bool false),nsl [],.raw (.bool false),.raw zae],[.raw (.bool false),.raw (.int .i64 0),.raw (.int .i64 0),.raw (.int .i64 2),.sl 3 ((zak 2).t.parts.map za4.d),.raw (.bool (zak 2).t.k.neg),nsl (zak 2).t.k.abs,.raw (.bool (zak 2).eq),.raw zae]])))),(4,(vRs [zak 2])),(5,vI 0),(6,.t (.c (.d (.sl 1 ([true,true].map za5))))),(7,vb true)] h fun a w h=>?_
 refine rqk za0 1 [(2,.call (Fn.argw (Fn.cast (LLetter zda [] aE propsE_ok nil_t (by decide)) (show (.tup [.c (.d (.sl 1 ((zan zda [] aE).1.map za5))),.c (cB (zan zda [] aE).2)]:V) = .tup [.c (.d (.sl 1 ([].map za5))),.c (cB false)] from by rw [te11])) (.cons _ _ _ _ (.c _ _ wkQ) (.cons _ _ _ _ (.c _ _ (.nil _)) (.cons _ _ _ _ (.refl _) .nil)))) lm13_8)] [(0,vb false),(1,(vRs [(zak 2)])),(2,vp 0 0),(4,(vRs [zak 2])),(5,vI 0),(6,.t (.c (.d (.sl 1 ([true,true].map za5))))),(7,vb true),(9,vb false)] h fun a w h=>?_
 refine rq za0 1 [(1,.g (Op.buildD (d:=43) (len:=1) (rows:=[false].map za5) (rs:=[]) zfv (.cons (i:=0) (OV.const (.bool false) rfl) (.nil)) (by kernel_rfl) rfl (by simp [za5]) (by decide) (by decide))),(2,.call (LCube [zak 2] [false] psE_ok (by decide)) lm13_10)] [(0,vb false),(1,(vRs [(zak 2)])),(2,vp 0 0),(4,(vRs [zak 2])),(5,vI 0),(6,.t (.c (.d (.sl 1 ([true,true].map za5))))),(7,vb true),(9,vb false),(10,vp 1 0)] [(0,.box [cIs aE.locs,.d (.sl 1 (aE.bits.map za5))]),(1,.box (zF (cubeF [zak 2] [false])))] h fun a w h=>?_
 refine rq za0 2 [(2,.len (za9 1 za5 aE.bits)),(3,.cmp (op:=.eql) (m:=(aE.bits.length:Int)) (n:=1) (b:=true) .i64 (show ((aE.bits.length:Int) == 1)=true from by decide)),(7,.g (xD 52 51 zfu (zaf (show aE.bits[0]?=some true from rfl) (f:=za5)) (OV.const (.int .i64 0) rfl))),(12,.cmp (op:=.eql) (m:=0) (n:=0) (b:=true) .i64 (show ((0:Int) == 0)=true from by decide)),(16,.len (za9 4 zac.d ([zak 2]))),(17,.cmp (op:=.eql) (m:=([zak 2].length:Int)) (n:=1) (b:=true) .i64 (show (([zak 2].length:Int) == 1)=true from by decide)),(24,.len (za9 1 za5 ([true,true]))),(25,.cmp (op:=.eql) (m:=([true,true].length:Int)) (n:=2) (b:=true) .i64 (show (([true,true].length:Int) == 2)=true from by decide)),(29,.g (xD 74 73 zfu (zaf (show [true,true][0]?=some true from rfl) (f:=za5)) (OV.const (.int .i64 0) rfl))),(34,.g (xD 79 78 zfu (zaf (show [true,true][1]?=some true from rfl) (f:=za5)) (OV.const (.int .i64 1) rfl))),(43,.call (Fn.argw (Fn.cast (SRHolds [] (L:=10) (M:=10) (by decide) ⟨by decide,fun z hz=>by cases hz⟩ (cubeF [zak 2] [false]) cubeE_ok.1 cubeE_ok.2) (show (vb ((cubeF [zak 2] [false]).holds []):V)=vb true from by rw [te12])) (.cons _ _ _ _ (.refl _) (.cons _ _ _ _ (.c _ _ (.nil _)) .nil))) ke_10),(48,.call (Fn.cast (LSameA aE aE (by decide) (by decide)) (show (vb (zdk aE aE == 0):V)=vb true from by rw [te13];rfl)) lm13_13),(52,.g (Op.buildD (d:=97) (len:=1) (rows:=[0].map zaw) (rs:=[]) tb_0 (.cons (i:=0) (OV.const (.int .i64 0) rfl) (.nil)) (by kernel_rfl) rfl (by simp [zaw]) (by decide) (by decide))),(53,.g (Op.buildD (d:=98) (len:=1) (rows:=[false].map za5) (rs:=[]) zfv (.cons (i:=0) (OV.const (.bool false) rfl) (.nil)) (by kernel_rfl) rfl (by simp [za5]) (by decide) (by decide))),(55,.call (Fn.cast (LCmpA aE (zcx.mk [0] [false]) (by decide) (by decide)) (show (vI (zdk aE (zcx.mk [0] [false])):V)=vI 1 from by rw [te14])) lf6_13),(56,.cmp (op:=.eql) (m:=1) (n:=1) (b:=true) .i64 (show ((1:Int) == 1)=true from by decide)),(60,.call (Lleast 3 (by decide)) lm13_0),(62,.call (Fn.argw (Fn.cast (LGather [zak 2] (atE (zak 3)) (fun r hr=>by rw [List.mem_singleton.1 hr];exact le2.mono (by decide) (by decide)) (okA_atom (le3.mono (by decide) (by decide))) (by rw [za1.nodes_eq];decide)) (show ((vRs (zgv [zak 2] (atE (zak 3)))):V)=(vRs [zak 2,zak 3]) from by rw [te15])) (.cons _ _ _ _ (.refl _) (.cons _ _ _ _ (.agg _ _ (.same _ _ _ (.same _ _ _ (.same _ _ _ (.same _ _ _ (.same _ _ _ (.d _ _ _ _ (.nil _) .nil))))))) .nil))) lm13_15),(63,.len (za9 4 zac.d ([zak 2,zak 3]))),(64,.cmp (op:=.eql) (m:=([zak 2,zak 3].length:Int)) (n:=2) (b:=true) .i64 (show (([zak 2,zak 3].length:Int) == 2)=true from by decide))] [(0,vb true)] [] h fun a w h=>?_
 refine wp_ret ?_
 refine rT (.c (cB true)) h rfl rfl ?_
 rfl
end
section
open Go.RowKit
end
section
open Go.RowKit

theorem ln14_4:SlT Tryz.prog 77 27 2:=SlT.mk' Tryz.underlying77 (by kernel_rfl)
def zfw (props:List zai) (ps:List zac) (xs:List zcx):Bool:=props.all (fun p=>fewF p.f 20 3) && (xs.all (fun a=>decide (a.locs.length≤20∧a.bits.length≤40)) && (decide (props.length≤6) && zem ps 30 3))
theorem LFewRs (rs:List zac) (most L:Int) (hl:rs.length≤9223372036854775807):Fn Tryz.prog 32 [] [(vRs rs),vi .i64 most,vi .i64 L] (vb (zem rs most L)) []:=SFewRs rs most L hl
theorem LfewA (props:List zai) (ps:List zac) (xs:List zcx) (hpl:∀ p ∈ props,p.f.lb) (hlp:props.length≤9223372036854775807) (hl:ps.length≤9223372036854775807) (hlx:xs.length≤9223372036854775807):Fn Tryz.prog 7 [] [.t (.c (.d (.sl 9 (props.map zai.d)))),(vRs ps),.t (.c (.d (.sl 2 (xs.map zcx.d))))] (vb (zfw props ps xs)) []:=by
 refine Fn.body Tryz.func7 rfl 46 rfl fun w H B a h=>?_
 refine rq za0 0 [] [(0,.t (.c (.d (.sl 9 (props.map zai.d))))),(1,(vRs ps)),(2,.t (.c (.d (.sl 2 (xs.map zcx.d))))),(6,vb false)] [] h fun a w h=>?_
 refine wp_seq (rq za0 0 [(1,.len (za9 9 zai.d props))] [(0,.t (.c (.d (.sl 9 (props.map zai.d))))),(1,(vRs ps)),(2,.t (.c (.d (.sl 2 (xs.map zcx.d))))),(6,vb false),(11,.t (.c (.d (.sl 9 (props.map zai.d))))),(12,vN props.length),(13,vI 0)] [] h fun a w h=>?_)
 refine wp_block ?_
 refine zau (ι:=(Nat)) (fun j=>j≤props.length∧(props.take j).all (fun p=>fewF p.f 20 3)=true)
   (fun j=>[(0,.t (.c (.d (.sl 9 (props.map zai.d))))),(1,(vRs ps)),(2,.t (.c (.d (.sl 2 (xs.map zcx.d))))),(11,.t (.c (.d (.sl 9 (props.map zai.d))))),(12,vN props.length),(13,vN j)])
   (fun j=>[])
   (fun j=>props.length - j) 0 ?_ h (by kernel_rfl) (by kernel_rfl) ?_
 ·exact ⟨Nat.zero_le _,rfl⟩
 clear h;rintro j a w hI h
 obtain ⟨hP1,hP2⟩:=hI
 refine rq za0 0 [] [(0,.t (.c (.d (.sl 9 (props.map zai.d))))),(1,(vRs ps)),(2,.t (.c (.d (.sl 2 (xs.map zcx.d))))),(11,.t (.c (.d (.sl 9 (props.map zai.d))))),(12,vN props.length),(13,vN j),(14,vb (decide ((j:Int)<(props.length:Int))))] [] h fun a w h=>?_
 refine wp_seq ?_
 refine zam ((j:Int)<(props.length:Int)) h rfl (fun hc1 hc1'=>?_) (fun hc4 hc4'=>?_)
 ·refine wp_skip (za2 (wp_seq (wp_block ?_)))
  obtain ⟨x1,hx1⟩:=gl props j
  refine rq za0 0 [(0,.g (xD 15 11 li9_5 (zaf hx1 (f:=zai.d)) (OV.tmp 13 _)))] [(0,.t (.c (.d (.sl 9 (props.map zai.d))))),(1,(vRs ps)),(2,.t (.c (.d (.sl 2 (xs.map zcx.d))))),(8,vp 0 0),(11,.t (.c (.d (.sl 9 (props.map zai.d))))),(12,vN props.length),(13,vN j)] [(0,.box ([cB x1.at_,cI x1.proc,cI x1.loc,cI x1.f.kind,cPs x1.f.r.t.parts]++zi x1.f.r.t.k++[cB x1.f.r.eq,cFs x1.f.kids]))] h fun a w h=>?_
  refine rq za0 1 [(2,.call (SFewF x1.f 20 3 (hpl x1 (lM hx1)) (by decide) (by decide)) kt_1)] [(0,.t (.c (.d (.sl 9 (props.map zai.d))))),(1,(vRs ps)),(2,.t (.c (.d (.sl 2 (xs.map zcx.d))))),(11,.t (.c (.d (.sl 9 (props.map zai.d))))),(12,vN props.length),(13,vN j),(20,vb (!(fewF x1.f 20 3)))] [] h fun a w h=>?_
  refine zah (!(fewF x1.f 20 3)) h rfl (fun hc2=>?_) (fun hc3=>?_)
  ·have hc2':=hc2;(try simp at hc2')
   refine rq za0 1 [] [(0,.t (.c (.d (.sl 9 (props.map zai.d))))),(1,(vRs ps)),(2,.t (.c (.d (.sl 2 (xs.map zcx.d))))),(6,vb false),(11,.t (.c (.d (.sl 9 (props.map zai.d))))),(12,vN props.length),(13,vN j)] [] h fun a w h=>?_
   refine wp_ret (zad (za8 (za8 (zad (za8 ?_)))))
   refine rT (.c (cB false)) h rfl rfl ?_
   have hz:zfw props ps xs=false:=by unfold zfw;rw [zbs (q:=(fun p=>fewF p.f 20 3)) hx1 (show (fewF x1.f 20 3)=false from by simpa using hc2)];rfl
   rw [hz];first | done | rfl
  have hc3':=hc3;(try simp at hc3')
  refine wp_skip (zaa (za2 (rn za0 1 [(0,.j1 j)] [(0,.t (.c (.d (.sl 9 (props.map zai.d))))),(1,(vRs ps)),(2,.t (.c (.d (.sl 2 (xs.map zcx.d))))),(11,.t (.c (.d (.sl 9 (props.map zai.d))))),(12,vN props.length),(13,vI ((j:Int)+1))] [] h fun a w h=>?_)))
  refine za2 ?_
  refine zaj (x:=j) (y:=j+1) h ?_ ?_
  ·exact ⟨by have:=zag hx1;omega,zbi hx1 hP2 (show (fewF x1.f 20 3)=true from by simpa using hc3)⟩
  show props.length - (j+1)<props.length - j
  have:=zag hx1;omega
 refine wp_exit (zab (zab (za7 (za2 (wp_seq (rq za0 1 [(1,.len (za9 2 zcx.d xs))] [(0,.t (.c (.d (.sl 9 (props.map zai.d))))),(1,(vRs ps)),(22,.t (.c (.d (.sl 2 (xs.map zcx.d))))),(23,vN xs.length),(24,vI 0)] [] h fun a w h=>?_))))))
 refine wp_block ?_
 refine zau (ι:=(Nat)) (fun i=>i≤xs.length∧(xs.take i).all (fun a=>decide (a.locs.length≤20∧a.bits.length≤40))=true)
   (fun i=>[(0,.t (.c (.d (.sl 9 (props.map zai.d))))),(1,(vRs ps)),(22,.t (.c (.d (.sl 2 (xs.map zcx.d))))),(23,vN xs.length),(24,vN i)])
   (fun i=>[])
   (fun i=>xs.length - i) 0 ?_ h (by kernel_rfl) (by kernel_rfl) ?_
 ·exact ⟨Nat.zero_le _,rfl⟩
 clear h;rintro i a w hI h
 obtain ⟨hA1,hA2⟩:=hI
 refine rq za0 1 [] [(0,.t (.c (.d (.sl 9 (props.map zai.d))))),(1,(vRs ps)),(22,.t (.c (.d (.sl 2 (xs.map zcx.d))))),(23,vN xs.length),(24,vN i),(25,vb (decide ((i:Int)<(xs.length:Int))))] [] h fun a w h=>?_
 refine wp_seq ?_
 refine zam ((i:Int)<(xs.length:Int)) h rfl (fun hc5 hc5'=>?_) (fun hc10 hc10'=>?_)
 ·refine wp_skip (za2 (wp_seq (wp_block ?_)))
  obtain ⟨x3,hx3⟩:=gl xs i
  refine rq za0 1 [(0,.g (xD 26 22 ln14_4 (zaf hx3 (f:=zcx.d)) (OV.tmp 24 _)))] [(0,.t (.c (.d (.sl 9 (props.map zai.d))))),(1,(vRs ps)),(10,vp 1 0),(22,.t (.c (.d (.sl 2 (xs.map zcx.d))))),(23,vN xs.length),(24,vN i)] [(1,.box [cIs x3.locs,.d (.sl 1 (x3.bits.map za5))])] h fun a w h=>?_
  rcases Bool.eq_false_or_eq_true (decide ((x3.locs.length:Int)>20)) with hc | hc
  ·have hc6:=hc;clear hc
   have hc6':=dT hc6
   refine rq za0 2 [(2,.len (za9 1 zaw x3.locs)),(3,.cmp (op:=.gtr) (m:=(x3.locs.length:Int)) (n:=20) (b:=true) .i64 hc6)] [(0,.t (.c (.d (.sl 9 (props.map zai.d))))),(1,(vRs ps)),(22,.t (.c (.d (.sl 2 (xs.map zcx.d))))),(23,vN xs.length),(24,vN i),(37,vb true)] [] h fun a w h=>?_
   refine zah true h rfl (fun _=>?_) nofun
   refine rq za0 2 [] [(0,.t (.c (.d (.sl 9 (props.map zai.d))))),(1,(vRs ps)),(6,vb false),(22,.t (.c (.d (.sl 2 (xs.map zcx.d))))),(23,vN xs.length),(24,vN i)] [] h fun a w h=>?_
   refine wp_ret (zad (za8 (za8 (zad (za8 ?_)))))
   refine rT (.c (cB false)) h rfl rfl ?_
   have hz:zfw props ps xs=false:=by unfold zfw;rw [zbs (q:=(fun a=>decide (a.locs.length≤20∧a.bits.length≤40))) hx3 (decide_eq_false (by have:=dT hc6;omega))];simp
   rw [hz];first | done | rfl
  have hc7:=hc;clear hc
  have hc7':=dF hc7
  refine rq za0 2 [(2,.len (za9 1 zaw x3.locs)),(3,.cmp (op:=.gtr) (m:=(x3.locs.length:Int)) (n:=20) (b:=false) .i64 hc7),(7,.len (za9 1 za5 x3.bits))] [(0,.t (.c (.d (.sl 9 (props.map zai.d))))),(1,(vRs ps)),(22,.t (.c (.d (.sl 2 (xs.map zcx.d))))),(23,vN xs.length),(24,vN i),(37,vb (decide ((x3.bits.length:Int)>40)))] [] h fun a w h=>?_
  refine zam ((x3.bits.length:Int)>40) h rfl (fun hc8 hc8'=>?_) (fun hc9 hc9'=>?_)
  ·refine rq za0 2 [] [(0,.t (.c (.d (.sl 9 (props.map zai.d))))),(1,(vRs ps)),(6,vb false),(22,.t (.c (.d (.sl 2 (xs.map zcx.d))))),(23,vN xs.length),(24,vN i)] [] h fun a w h=>?_
   refine wp_ret (zad (za8 (za8 (zad (za8 ?_)))))
   refine rT (.c (cB false)) h rfl rfl ?_
   have hz:zfw props ps xs=false:=by unfold zfw;rw [zbs (q:=(fun a=>decide (a.locs.length≤20∧a.bits.length≤40))) hx3 (decide_eq_false (by have:=dT hc8;omega))];simp
   rw [hz];first | done | rfl
  refine wp_skip (zaa (za2 (rn za0 2 [(0,.j1 i)] [(0,.t (.c (.d (.sl 9 (props.map zai.d))))),(1,(vRs ps)),(22,.t (.c (.d (.sl 2 (xs.map zcx.d))))),(23,vN xs.length),(24,vI ((i:Int)+1))] [] h fun a w h=>?_)))
  refine za2 ?_
  refine zaj (x:=i) (y:=i+1) h ?_ ?_
  ·exact ⟨by have:=zag hx3;omega,zbi hx3 hA2 (decide_eq_true (by have:=dF hc7;have:=dF hc9;omega))⟩
  show xs.length - (i+1)<xs.length - i
  have:=zag hx3;omega
 refine wp_exit (zab (zab (za7 (za2 ?_))))
 rcases Bool.eq_false_or_eq_true (decide ((props.length:Int)≤6)) with hc | hc
 ·have hc11:=hc;clear hc
  have hc11':=dT hc11
  refine rq za0 2 [(1,.len (za9 9 zai.d props)),(2,.cmp (op:=.leq) (m:=(props.length:Int)) (n:=6) (b:=true) .i64 hc11),(5,.call (LFewRs ps 30 3 hl) kc_6)] [(6,vb (zem ps 30 3))] [] h fun a w h=>?_
  refine wp_ret ?_
  refine rT (.c (cB (zem ps 30 3))) h rfl rfl ?_
  have hz:zfw props ps xs=(zem ps 30 3):=by unfold zfw;rw [zdf (dF hc4) hP2,zdf (dF hc10) hA2,decide_eq_true (p:=props.length≤6) (by have:=dT hc11;omega)];simp
  rw [hz];first | done | rfl
 have hc12:=hc;clear hc
 have hc12':=dF hc12
 refine rq za0 2 [(1,.len (za9 9 zai.d props)),(2,.cmp (op:=.leq) (m:=(props.length:Int)) (n:=6) (b:=false) .i64 hc12)] [(6,vb false)] [] h fun a w h=>?_
 refine wp_ret ?_
 refine rT (.c (cB false)) h rfl rfl ?_
 have hz:zfw props ps xs=(false):=by unfold zfw;rw [decide_eq_false (p:=props.length≤6) (by have:=dF hc12;omega)];simp
 rw [hz];first | done | rfl
end
section
open Go.RowKit

theorem lo15_0:za6 Tryz.prog 6:=za6.mk' (by kernel_rfl)
theorem lo15_1:za6 Tryz.prog 7:=za6.mk' (by kernel_rfl)
theorem lo15_2:za6 Tryz.prog 8:=za6.mk' (by kernel_rfl)
end
section
open Go.RowKit
end
section
open Go.RowKit
end
section
open Go.RowKit
end
section
open Go.RowKit

section
variable {w:World} {n:Nat}
theorem rep_ZIl:zfr w n 28 (slD 2 ziD) (fun xs=>xs.length≤maxLen∧∀ x ∈ xs,Lb x.abs) :=
 zd9 (k:=2) Tryz.underlying28 (by kernel_rfl) (by decide) (fun _=>rfl) rep_ZI
theorem rep_Rel:zfr w n 57 zac.d (fun r=>TLb r.t) :=
 ((zcm (n:=n) Tryz.underlying57 (by kernel_rfl) (.cons (k0:=3) rfl (by kernel_rfl) rep_Term (.cons (k0:=1) rfl (by kernel_rfl) (zik Tryz.underlying4) .nil))).map (fun p=>⟨p.1,p.2.1⟩) (fun _=>rfl) fun _ h=>h.1).mono (Nat.le_succ n)
theorem rep_Form:∀ {n:Nat}, zfr w n 60 za1.d za1.lb
 | 0=>zfr.zero
 | n+1=>(zcm (n:=n) Tryz.underlying60 (by kernel_rfl) (.cons (k0:=1) rfl (by kernel_rfl) (rep_i64 Tryz.underlying3) (.cons (k0:=4) rfl (by kernel_rfl) rep_Rel (.cons (k0:=1) rfl (by kernel_rfl) (zd9 (k:=6) Tryz.underlying58 (by kernel_rfl) (by decide) za1.d_len rep_Form) .nil)))).map (fun p=>⟨p.1,p.2.1,p.2.2.1⟩) (fun _=>(za1.d_eq _).trans rfl) fun _ h=>(za1.lb_eq _).2 ⟨⟨h.2.1,Nat.le_trans h.2.2.1.1 (by decide)⟩,h.2.2.1.2⟩
theorem rep_State:zfr w n 30 StD.d StRd :=
 ((zcm (n:=n) Tryz.underlying30 (by kernel_rfl) (.cons (k0:=1) rfl (by kernel_rfl) rep_ints (.cons (k0:=1) rfl (by kernel_rfl) rep_ZIl .nil))).map (fun p=>⟨p.1,p.2.1⟩) (fun _=>rfl) fun _ h=>⟨h.2.1.2,Nat.le_trans h.2.1.1 (by decide)⟩).mono (Nat.le_succ n)
end
end
section
open Go.RowKit

section
variable {w:World} {n:Nat}
theorem rep_RelsL:zfr w n 23 (slD 4 zac.d) (fun xs=>xs.length≤maxLen∧∀ x ∈ xs,TLb x.t) :=
 zd9 (k:=4) Tryz.underlying23 (by kernel_rfl) (by decide) (fun _=>rfl) rep_Rel
theorem rep_bools:zfr w n 25 (slD 1 za5) (fun xs=>xs.length≤maxLen∧∀ x ∈ xs,True) :=
 zd9 (k:=1) Tryz.underlying25 (by kernel_rfl) (by decide) (fun _=>rfl) (zik Tryz.underlying4)
end
end
section
open Go.RowKit
end
section
open Go.RowKit
end
section
open Go.RowKit

theorem zdd (a:Int):zbc a a=0:=by unfold zbc;split <;> (try split) <;> omega
theorem cmpRl_cp (r:zac):zbx (cpR r) r=0:=by
 unfold zbx cpR
 rw [show zfx (za3 r.t) r.t=0 from cmpT_eq (zbp _),show zdn ⟨za3 r.t,r.eq⟩=zdn r from rfl,zdd];rfl
def za1.fl (f:za1):Prop:=f.fold fun k _ _ hs=>(k=0∨k=1∨k=2∨k=4∨k=5)∧∀ h ∈ hs,h
theorem za1.fl_eq (f:za1):f.fl ↔ (f.kind=0∨f.kind=1∨f.kind=2∨f.kind=4∨f.kind=5)∧∀ g ∈ f.kids,g.fl:=by
 have:=za1.fold_eq (fun k _ _ (hs:List Prop)=>(k=0∨k=1∨k=2∨k=4∨k=5)∧∀ h ∈ hs,h) f
 unfold za1.fl
 rw [this]
 refine and_congr_right fun _=>⟨fun h g hg=>h _ (List.mem_map.2 ⟨g,hg,rfl⟩),fun h p hp=>?_⟩
 obtain ⟨g,hg,rfl⟩:=List.mem_map.1 hp
 exact h g hg
theorem fl_tru (b:Bool):(zcf b).fl:=by rw [za1.fl_eq];exact ⟨by cases b;exact .inr (.inl rfl);exact .inl rfl,fun g hg=>by cases hg⟩
theorem fl_tight (r:zac):(zav r).fl:=by
 unfold zav;split
 ·rw [za1.fl_eq];exact ⟨.inr (.inr (.inl rfl)),fun g hg=>by cases hg⟩
 ·exact fl_tru _
theorem zfa {k:Int} (hk:k=4∨k=5):∀ (fs out:List za1),(∀ g ∈ out,g.fl)→(∀ g ∈ fs,g.fl)→(zbe k fs out).fl
 | [],out,h,_=>by
  unfold zbe
  match out with
  | []=>exact fl_tru _
  | [g]=>exact h g (List.mem_cons_self ..)
  | g :: q :: l=>rw [za1.fl_eq];exact ⟨by rcases hk with hk | hk <;> subst hk;exact .inr (.inr (.inr (.inl rfl)));exact .inr (.inr (.inr (.inr rfl))),h⟩
 | f :: fs,out,h,h2=>by
  rw [zbe]
  have hf:=h2 f (List.mem_cons_self ..)
  have hfs:∀ g ∈ fs,g.fl:=fun g hg=>h2 g (List.mem_cons_of_mem _ hg)
  split
  ·exact hf
  ·split
   ·exact zfa hk fs out h hfs
   ·split
    ·exact zfa hk fs _ (fun g hg=>(List.mem_append.1 hg).elim (h g) fun hg=>((za1.fl_eq _).1 hf).2 g hg) hfs
    ·exact zfa hk fs _ (fun g hg=>(List.mem_append.1 hg).elim (h g) fun hg=>by rw [List.mem_singleton.1 hg];exact hf) hfs
theorem flat_fl (f:za1):∀ d,(f.flat d).fl :=
 za1.ind (P:=fun f=>∀ d,(f.flat d).fl) (fun k r ks ih d=>by
  rw [za1.flat_eq]
  show (zge k r (ks.map za1.flat) d).fl
  unfold zge
  split
  ·exact fl_tru _
  ·split
   ·split
    ·refine zfa (.inr rfl) _ [] (fun g hg=>by cases hg) fun g hg=>?_
     obtain ⟨q,hq,rfl⟩:=List.mem_map.1 hg
     exact fl_tight q
    ·exact fl_tight r
   ·split
    ·cases ks with
     | nil=>exact fl_tru _
     | cons g gs=>exact ih g (List.mem_cons_self ..) (!d)
    ·split
     ·rename_i h4
      refine zfa (by cases d <;> simp <;> omega) _ [] (fun g hg=>by cases hg) fun g hg=>?_
      rw [List.map_map] at hg
      obtain ⟨q,hq,rfl⟩:=List.mem_map.1 hg
      exact ih q hq d
     ·exact fl_tru _) f
theorem gath_allP {n L:Nat} {P:zac→Prop} (hP:∀ r,TOk n L r.t→P (cpR r)) (f:za1):f.okA n L→∀ ps,(∀ r ∈ ps,P r)→∀ r ∈ f.gath ps,P r :=
 za1.ind (P:=fun f=>f.okA n L→∀ ps,(∀ r ∈ ps,P r)→∀ r ∈ f.gath ps,P r) (fun k r ks ih hf ps hps=>by
  obtain ⟨h1,h2⟩:=(za1.okA_eq _ _ _).1 hf
  rw [za1.gath_eq]
  split
  ·rename_i e
   intro q hq
   rcases List.mem_append.1 hq with hq | hq
   ·exact hps q hq
   ·rw [List.mem_singleton.1 hq];exact hP r (h1 e.1)
  ·have:∀ (xs:List za1),(∀ g ∈ xs,g ∈ ks)→∀ qs:List zac,(∀ r ∈ qs,P r)→∀ r ∈ xs.foldl (fun a g=>g.gath a) qs,P r:=fun xs=>by
    induction xs with
    | nil=>intro _ qs h;exact h
    | cons x xs ihx =>
     intro hx qs h
     rw [List.foldl_cons]
     exact ihx (fun g hg=>hx g (List.mem_cons_of_mem _ hg)) _ (ih x (hx x (List.mem_cons_self ..)) (h2 x (hx x (List.mem_cons_self ..))) qs h)
   exact this ks (fun g hg=>hg) ps hps) f
theorem sizeGo_ge {lim:Int}:∀ (ks:List za1) (n:Int),n≤zcl lim (ks.map za1.size) n
 | [],n=>Int.le_refl _
 | g :: ks,n=>by
  rw [List.map_cons,zcl]
  split
  ·rename_i h
   have h1:=sizeGo_ge (lim:=lim) ks (n+g.size (lim - n))
   have h2:=(g.size_bd (lim - n) (by omega)).1
   omega
  ·exact Int.le_refl _
theorem size_wid (f:za1):∀ lim:Int,0≤lim→f.size lim≤lim→(f.wid:Int)≤3*f.size lim :=
 za1.ind (P:=fun f=>∀ lim:Int,0≤lim→f.size lim≤lim→(f.wid:Int)≤3*f.size lim) (fun k r ks ih lim hl h=>by
  rw [za1.size_eq] at h ⊢
  rw [za1.wid_eq]
  have key:∀ (xs:List za1),(∀ g ∈ xs,g ∈ ks)→∀ n:Int,zcl lim (xs.map za1.size) n≤lim→(((xs.map za1.wid).sum:Nat):Int)≤3*(zcl lim (xs.map za1.size) n - n):=fun xs=>by
   induction xs with
   | nil=>intro _ n _;show (0:Int)≤3*(n - n);omega
   | cons x xs ihx =>
    intro hx n hn
    rw [List.map_cons,zcl] at hn
    rw [List.map_cons,List.map_cons,List.sum_cons,zcl]
    split at hn
    ·rename_i e
     rw [if_pos e]
     have h1:=sizeGo_ge (lim:=lim) xs (n+x.size (lim - n))
     have h2:=ih x (hx x (List.mem_cons_self ..)) (lim - n) (by omega) (by omega)
     have h3:=ihx (fun g hg=>hx g (List.mem_cons_of_mem _ hg)) _ hn
     omega
    ·omega
  have:=key (cnt k ks) (fun g hg=>zce hg) 1 h
  show (((3+((cnt k ks).map za1.wid).sum:Nat)):Int)≤3*zcl lim ((cnt k ks).map za1.size) 1
  omega) f
theorem ok_okB {L:Nat} (f:za1):f.ok L→f.lb→f.wid≤1000000→f.okB 20 L :=
 za1.ind (P:=fun f=>f.ok L→f.lb→f.wid≤1000000→f.okB 20 L) (fun k r ks ih h1 h2 h3=>by
  rw [za1.okB_eq]
  have o1:=(za1.ok_eq _ _).1 h1
  have o2:=(za1.lb_eq _).1 h2
  refine ⟨⟨o1.1,o2.1.2,?_⟩,fun g hg=>ih g (zce hg) (o1.2 g hg) (o2.2 g (zce hg)) (Nat.le_trans (wid_kid hg) h3)⟩
  rw [za1.wid_eq] at h3
  have:∀ xs:List za1,xs.length≤(xs.map za1.wid).sum:=fun xs=>by
   induction xs with
   | nil=>exact Nat.le_refl _
   | cons x xs ih=>rw [List.map_cons,List.sum_cons,List.length_cons,za1.wid_eq];omega
  have:=this (cnt k ks)
  change 3+((cnt k ks).map za1.wid).sum≤1000000 at h3
  show (cnt k ks).length≤1000000
  omega) f
theorem fewF_okB {f:za1} (h:fewF f 20 3=true) (hl:f.lb):f.okB 20 3∧f.wid≤60:=by
 have ho:f.ok 3:=fewF_ok (L:=3) h hl
 unfold fewF at h
 rw [Bool.and_eq_true] at h
 have h1:f.size 20≤20:=by have:=h.1;simpa using this
 have hw:=size_wid f 20 (by decide) h1
 have hw:f.wid≤60:=by omega
 exact ⟨ok_okB f ho hl (by omega),hw⟩
theorem few21_props {props:List zai} {ps:List zac} {xs:List zcx} (h:zfw props ps xs=true) (hl:∀ p ∈ props,p.f.lb):props.length≤6∧∀ p ∈ props,p.f.okB 20 3∧p.f.wid≤60:=by
 unfold zfw at h
 simp only [Bool.and_eq_true,List.all_eq_true,decide_eq_true_eq] at h
 exact ⟨h.2.2.1,fun p hp=>fewF_okB (h.1 p hp) (hl p hp)⟩
theorem props_ok {props:List zai} (h:props.length≤6∧∀ p ∈ props,p.f.okB 20 3∧p.f.wid≤60):zfh props :=
 ⟨by omega,fun p hp _=>⟨za1.okB_mono (by decide) (by decide) _ (h.2 p hp).1,Nat.le_trans (h.2 p hp).2 (by decide)⟩⟩
theorem base_tok {props:List zai} (h:∀ p ∈ props,p.f.okB 20 3∧p.f.wid≤60):∀ r ∈ zde props,TOk 20 33 r.t:=by
 have key:∀ (xs:List zai),(∀ p ∈ xs,p.f.okB 20 3∧p.f.wid≤60)→∀ a:List zac,(∀ r ∈ a,TOk 20 33 r.t)→∀ r ∈ xs.foldl zal a,TOk 20 33 r.t:=fun xs=>by
  induction xs with
  | nil=>intro _ a ha;exact ha
  | cons x xs ih =>
   intro hx a ha
   rw [List.foldl_cons]
   refine ih (fun p hp=>hx p (List.mem_cons_of_mem _ hp)) _ ?_
   unfold zal
   split
   ·exact ha
   ·exact gath_allP (n:=20) (L:=32) (P:=fun r=>TOk 20 33 r.t) (fun r hr=>hr.plain (by decide)) _ (flat_okA (by decide) x.f (hx x (List.mem_cons_self ..)).1 false) a ha
 exact key props h [] (fun r hr=>by cases hr)
end
section
open Go.RowKit
end
section
open Go.RowKit

section
variable {w:World} {n:Nat} {H:Type} {enc:TypeId × Value→H} {base fuel:Nat} {spare:Nat→Bool} {held:Bool}
theorem rep_Prop:zfr w n 62 zai.d (fun p=>p.f.lb) :=
 ((zcm (n:=n) Tryz.underlying62 (by kernel_rfl) (.cons (k0:=1) rfl (by kernel_rfl) (zik Tryz.underlying4) (.cons (k0:=1) rfl (by kernel_rfl) (rep_i64 Tryz.underlying3) (.cons (k0:=1) rfl (by kernel_rfl) (rep_i64 Tryz.underlying3) (.cons (k0:=6) rfl (by kernel_rfl) rep_Form .nil))))).map (fun p=>⟨p.1,p.2.1,p.2.2.1,p.2.2.2.1⟩) (fun _=>by rw [za1.d_eq];rfl) fun _ h=>h.2.2.2.1).mono (Nat.le_succ n)
theorem rep_Props:zfr w n 22 (slD 9 zai.d) (fun xs=>xs.length≤maxLen∧∀ x ∈ xs,x.f.lb) :=
 zd9 (k:=9) Tryz.underlying22 (by kernel_rfl) (by decide) (fun _=>rfl) rep_Prop
end
end
section
open Go.RowKit

theorem lq17_14:za6 Tryz.prog 16:=za6.mk' (by kernel_rfl)
def PsOkW (ps:List zac):Prop:=ps.length≤1000∧∀ r ∈ ps,TokR 100 r
theorem same_end {xs ys:List Bool} {j:Nat} (h:xs.length≤j) (hl:xs.length=ys.length) (hI:xs.take j=ys.take j):xs=ys:=by rwa [List.take_of_length_le h,List.take_of_length_le (by omega)] at hI
theorem same_at {xs ys:List Bool} {j:Nat} {x y:Bool} (hx:xs[j]?=some x) (hy:ys[j]?=some y) (hI:xs.take j=ys.take j) (e:x=y):xs.take (j+1)=ys.take (j+1):=by rw [List.take_add_one,List.take_add_one,hx,hy,hI,e]
theorem same_no {xs ys:List Bool} {j:Nat} {x y:Bool} (hx:xs[j]?=some x) (hy:ys[j]?=some y) (e:x≠y):xs≠ys:=fun h=>by subst h;rw [hx] at hy;injection hy with hy;exact e hy
theorem LabsOfW (ps:List zac) (x:StD) (hps:PsOkW ps) (hx:StOk 10 x):Fn Tryz.prog 23 [] [(vRs ps),.t (.agg [cIs x.locs,cZs x.vals])] (.t (.agg [cIs (ofA ps x).locs,.d (.sl 1 ((ofA ps x).bits.map za5))])) []:=by
 have lps:=hps.1
 have lxl:=hx.locs
 refine Fn.body Tryz.func23 rfl 29 rfl fun w H B a h=>?_
 refine rq za0 5 [] [(0,(vRs ps)),(3,vp 5 0),(4,vp 6 0)] [(5,.box [cIs x.locs,cZs x.vals]),(6,.box [.d (.raw zae),.d (.raw zae)])] h fun a w h=>?_
 refine rq za0 7 [(2,.call (SCloneI x.locs (by omega)) le5_0)] [(0,(vRs ps)),(3,vp 5 0),(4,vp 6 0),(5,vp 7 0)] [(5,.box [cIs x.locs,cZs x.vals]),(6,.box [.d (.raw zae),.d (.raw zae)]),(0,.row 3 1 (x.locs.map zaw)),(7,.box [.own 0 x.locs.length,.d (.raw zae)])] h fun a w h=>?_
 refine wp_seq (rqk za0 8 [(1,.len (za9 4 zac.d ps))] [(3,vp 5 0),(4,vp 6 0),(5,vp 7 0),(12,(vRs ps)),(13,vN ps.length),(14,vI 0)] h fun a w h=>?_)
 refine wp_block ?_
 replace h:=ze7 7 1 8 1 4 [.own 0 x.locs.length,.d (.raw zae)] [(3,vp 5 0),(4,vp 6 0),(5,vp 7 0),(12,(vRs ps)),(13,vN ps.length),(14,vI 0)] [(5,.box [cIs x.locs,cZs x.vals]),(6,.box [.d (.raw zae),.d (.raw zae)]),(0,.row 3 1 (x.locs.map zaw)),(7,.box [.own 0 x.locs.length,.own 8 0]),(8,.row 4 1 ([].map za5))] h (by kernel_rfl) rfl rfl
 refine zau (ι:=(Nat)) (fun j=>j≤ps.length)
   (fun j=>[(3,vp 5 0),(4,vp 6 0),(5,vp 7 0),(12,(vRs ps)),(13,vN ps.length),(14,vN j)])
   (fun j=>[(5,.box [cIs x.locs,cZs x.vals]),(6,.box [.d (.raw zae),.d (.raw zae)]),(0,.row 3 1 (x.locs.map zaw)),(7,.box [.own 0 x.locs.length,.own 8 ((ps.take j).map (zar x.vals)).length]),(8,.row 4 1 (((ps.take j).map (zar x.vals)).map za5))])
   (fun j=>ps.length - j) 0 ?_ h (by kernel_rfl) (by kernel_rfl) ?_
 ·exact Nat.zero_le _
 clear h;rintro j a w hI h
 have lmj:((ps.take j).map (zar x.vals)).length≤j:=by rw [List.length_map,List.length_take];omega
 refine rqk za0 9 [] [(3,vp 5 0),(4,vp 6 0),(5,vp 7 0),(12,(vRs ps)),(13,vN ps.length),(14,vN j),(15,vb (decide ((j:Int)<(ps.length:Int))))] h fun a w h=>?_
 refine wp_seq ?_
 refine zam ((j:Int)<(ps.length:Int)) h rfl (fun hc1 hc1'=>?_) (fun hc2 hc2'=>?_)
 ·refine wp_skip (za2 (wp_seq (wp_block ?_)))
  obtain ⟨x2,hx2⟩:=gl ps j
  refine rq za0 9 [(0,.g (xD 16 12 kc_3 (zaf hx2 (f:=zac.d)) (OV.tmp 14 _)))] [(3,vp 5 0),(4,vp 6 0),(5,vp 7 0),(7,vp 9 0),(12,(vRs ps)),(13,vN ps.length),(14,vN j)] [(5,.box [cIs x.locs,cZs x.vals]),(6,.box [.d (.raw zae),.d (.raw zae)]),(0,.row 3 1 (x.locs.map zaw)),(7,.box [.own 0 x.locs.length,.own 8 ((ps.take j).map (zar x.vals)).length]),(8,.row 4 1 (((ps.take j).map (zar x.vals)).map za5)),(9,.box (zR_ x2))] h fun a w h=>?_
  refine rn za0 10 [(5,.call (SrelHolds x2 x.vals (L:=100) (M:=10) (by decide) hx.vok (hps.2 x2 (lM hx2))) ke_11),(6,.g (bD 24 ([zar x.vals x2].map za5) [(23,vb (zar x.vals x2))] zfv (.cons (i:=0) (OV.tmp 23 _) (.nil)) (by kernel_rfl) (by simp [za5]))),(7,.g (aD 25 19 24 8 10 ((ps.take j).map (zar x.vals)) [zar x.vals x2] za5 zhh (by simp [za5])))] [(3,vp 5 0),(4,vp 6 0),(5,vp 7 0),(12,(vRs ps)),(13,vN ps.length),(14,vN j)] [(5,.box [cIs x.locs,cZs x.vals]),(6,.box [.d (.raw zae),.d (.raw zae)]),(0,.row 3 1 (x.locs.map zaw)),(7,.box ([.own 0 x.locs.length,.own 10 (((ps.take j).map (zar x.vals))++[zar x.vals x2]).length])),(10,.row 4 1 ((((ps.take j).map (zar x.vals))++[zar x.vals x2]).map za5))] h fun a w h=>?_
  refine zaa (za2 (rnk za0 11 [(0,.j1 j)] [(3,vp 5 0),(4,vp 6 0),(5,vp 7 0),(12,(vRs ps)),(13,vN ps.length),(14,vI ((j:Int)+1))] h fun a w h=>?_))
  refine za2 ?_
  rw [show ((((ps.take j).map (zar x.vals))++[zar x.vals x2]):List Bool)=((ps.take (j+1)).map (zar x.vals)) from (zbn hx2)] at h
  replace h:=zbz 10 8 [(3,vp 5 0),(4,vp 6 0),(5,vp 7 0),(12,(vRs ps)),(13,vN ps.length),(14,vI ((j:Int)+1))] [(5,.box [cIs x.locs,cZs x.vals]),(6,.box [.d (.raw zae),.d (.raw zae)]),(0,.row 3 1 (x.locs.map zaw)),(7,.box [.own 0 x.locs.length,.own 8 ((ps.take (j+1)).map (zar x.vals)).length]),(8,.row 4 1 (((ps.take (j+1)).map (zar x.vals)).map za5))] h
  refine zaj (x:=j) (y:=j+1) h ?_ ?_
  ·have:=zag hx2
   show j+1≤ps.length
   omega
  show ps.length - (j+1)<ps.length - j
  have:=zag hx2;omega
 refine wp_exit (zab (zab (za7 (za2 (rq za0 11 [] [(4,vp 6 0)] [(6,.box [.own 0 x.locs.length,.own 8 ((ps.take j).map (zar x.vals)).length]),(0,.row 3 1 (x.locs.map zaw)),(8,.row 4 1 (((ps.take j).map (zar x.vals)).map za5))] h fun a w h=>?_)))))
 refine wp_ret ?_
 rw [show (((ps.take j).map (zar x.vals)):List Bool)=(ps.map (zar x.vals)) from (by rw [List.take_of_length_le (by omega)])] at h
 replace h:=zgn 0 1 3 (x.locs.map zaw) [(4,vp 6 0)] [(6,.box [cIs x.locs,.own 8 (ps.map (zar x.vals)).length]),(8,.row 4 1 ((ps.map (zar x.vals)).map za5))] h rfl trivial (show zbt _ [x.locs.length] from ⟨by first | exact (List.length_map _).symm | (simp;done) | (simp;omega),trivial⟩)
 replace h:=zgn 8 1 4 ((ps.map (zar x.vals)).map za5) [(4,vp 6 0)] [(6,.box [cIs x.locs,.d (.sl 1 ((ps.map (zar x.vals)).map za5))])] h rfl trivial (show zbt _ [(ps.map (zar x.vals)).length] from ⟨by first | exact (List.length_map _).symm | (simp;done) | (simp;omega),trivial⟩)
 refine rA 6 [cIs x.locs,.d (.sl 1 ((ps.map (zar x.vals)).map za5))] h le5_5 rfl rfl rfl rfl rfl ?_
 rfl
theorem LSameBits (xs ys:List Bool) (hx:xs.length≤9223372036854775807) (hy:ys.length≤9223372036854775807):Fn Tryz.prog 16 [] [.t (.c (.d (.sl 1 (xs.map za5)))),.t (.c (.d (.sl 1 (ys.map za5))))] (vb (decide (xs=ys))) []:=by
 refine Fn.body Tryz.func16 rfl 26 rfl fun w H B a h=>?_
 refine rq za0 0 [] [(0,.t (.c (.d (.sl 1 (xs.map za5))))),(1,.t (.c (.d (.sl 1 (ys.map za5))))),(4,vb false)] [] h fun a w h=>?_
 refine wp_seq (rq za0 0 [(1,.len (za9 1 za5 xs)),(3,.len (za9 1 za5 ys))] [(0,.t (.c (.d (.sl 1 (xs.map za5))))),(1,.t (.c (.d (.sl 1 (ys.map za5))))),(4,vb false),(10,vb ((xs.length:Int) != (ys.length:Int)))] [] h fun a w h=>?_)
 refine zah ((xs.length:Int) != (ys.length:Int)) h rfl (fun hc1=>?_) (fun hc2=>?_)
 ·have hc1':=hc1;(try simp at hc1')
  refine rq za0 0 [] [(0,.t (.c (.d (.sl 1 (xs.map za5))))),(1,.t (.c (.d (.sl 1 (ys.map za5))))),(4,vb false)] [] h fun a w h=>?_
  refine wp_ret (za8 ?_)
  refine rT (.c (cB false)) h rfl rfl ?_
  have hz:decide (xs=ys)=false:=decide_eq_false (fun e=>by have:=hc1;subst e;simp at this)
  rw [hz];first | done | rfl
 have hc2':=hc2;(try simp at hc2')
 refine wp_skip (za2 (wp_seq (rq za0 0 [] [(0,.t (.c (.d (.sl 1 (xs.map za5))))),(1,.t (.c (.d (.sl 1 (ys.map za5))))),(4,vb false),(5,vI 0)] [] h fun a w h=>?_)))
 refine wp_block ?_
 refine zau (ι:=(Nat)) (fun j=>j≤xs.length∧xs.take j=ys.take j)
   (fun j=>[(0,.t (.c (.d (.sl 1 (xs.map za5))))),(1,.t (.c (.d (.sl 1 (ys.map za5))))),(5,vN j)])
   (fun j=>[])
   (fun j=>xs.length - j) 0 ?_ h (by kernel_rfl) (by kernel_rfl) ?_
 ·exact ⟨Nat.zero_le _,rfl⟩
 clear h;rintro j a w hI h
 obtain ⟨hI1,hI2⟩:=hI
 refine wp_seq (rq za0 0 [(2,.len (za9 1 za5 xs))] [(0,.t (.c (.d (.sl 1 (xs.map za5))))),(1,.t (.c (.d (.sl 1 (ys.map za5))))),(5,vN j),(14,vb (decide ((j:Int)<(xs.length:Int))))] [] h fun a w h=>?_)
 refine zam ((j:Int)<(xs.length:Int)) h rfl (fun hc3 hc3'=>?_) (fun hc6 hc6'=>?_)
 ·refine wp_skip (za2 (wp_seq (wp_block ?_)))
  obtain ⟨x1,hx1⟩:=gl xs j
  obtain ⟨x2,hx2⟩:=gl ys j
  refine rq za0 0 [(2,.g (xD 19 17 zfu (zaf hx1 (f:=za5)) (OV.tmp 18 _))),(6,.g (xD 23 21 zfu (zaf hx2 (f:=za5)) (OV.tmp 22 _)))] [(0,.t (.c (.d (.sl 1 (xs.map za5))))),(1,.t (.c (.d (.sl 1 (ys.map za5))))),(5,vN j),(25,vb (x1 != x2))] [] h fun a w h=>?_
  refine zah (x1 != x2) h rfl (fun hc4=>?_) (fun hc5=>?_)
  ·have hc4':=hc4;(try simp at hc4')
   refine rq za0 0 [] [(0,.t (.c (.d (.sl 1 (xs.map za5))))),(1,.t (.c (.d (.sl 1 (ys.map za5))))),(4,vb false),(5,vN j)] [] h fun a w h=>?_
   refine wp_ret (zad (za8 (za8 (zad (za8 ?_)))))
   refine rT (.c (cB false)) h rfl rfl ?_
   have hz:decide (xs=ys)=false:=decide_eq_false (same_no hx1 hx2 (by have:=hc4;simpa using this))
   rw [hz];first | done | rfl
  have hc5':=hc5;(try simp at hc5')
  refine wp_skip (zaa (za2 (rn za0 0 [(1,.j1 j)] [(0,.t (.c (.d (.sl 1 (xs.map za5))))),(1,.t (.c (.d (.sl 1 (ys.map za5))))),(5,vI ((j:Int)+1))] [] h fun a w h=>?_)))
  refine za2 ?_
  refine zaj (x:=j) (y:=j+1) h ?_ ?_
  ·exact ⟨by have:=zag hx1;omega,same_at hx1 hx2 hI2 (by have:=hc5;simpa using this)⟩
  show xs.length - (j+1)<xs.length - j
  have:=zag hx1;omega
 refine wp_exit (zab (zab (za7 (za2 (rq za0 0 [] [(4,vb true)] [] h fun a w h=>?_)))))
 refine wp_ret ?_
 refine rT (.c (cB true)) h rfl rfl ?_
 have hz:decide (xs=ys)=true:=decide_eq_true (same_end (by omega) (by have:=hc2;simp at this;omega) hI2)
 rw [hz];first | done | rfl
end
end Go.Proofs.YtcppcnfmgpphcaaGreat.S
section
namespace Go.Proofs
open Go.Shelf

end Go.Proofs
end
namespace Go.Proofs.YtcppcnfmgpphcaaGreat.S
section
open Go.RowKit
end
section
open Go.RowKit
end
section
open Go.RowKit
end
section
open Go.RowKit
end
section
open Go.RowKit
end
section
open Go.RowKit Go.Sort
end
section
open Go.RowKit
end
end Go.Proofs.YtcppcnfmgpphcaaGreat.S
section
namespace Go.Proofs.YtcppcnfmgpphcaaGreat
open Go.RowKit

end Go.Proofs.YtcppcnfmgpphcaaGreat
end
section
namespace Go.Proofs.YtcppcnfmgpphcaaGreat
open Go.RowKit

end Go.Proofs.YtcppcnfmgpphcaaGreat
end
section
namespace Go.Proofs.YtcppcnfmgpphcaaGreat
open Go.RowKit

end Go.Proofs.YtcppcnfmgpphcaaGreat
end
section
namespace Go.Proofs.YtcppcnfmgpphcaaGreat
open Go.RowKit

theorem zgl {x y:Int} (hx:-1≤x∧x≤1) (hy:-1≤y∧y≤1):-1≤x*y∧x*y≤1:=by
 have h1:x=-1∨x=0∨x=1:=by omega
 rcases h1 with rfl | rfl | rfl <;> omega

end Go.Proofs.YtcppcnfmgpphcaaGreat
end
section
namespace Go.Proofs.YtcppcnfmgpphcaaGreat
open Go.RowKit

theorem val_two (x:Nat):val [x % 4294967296,x / 4294967296]=x:=by simp only [val];omega
end Go.Proofs.YtcppcnfmgpphcaaGreat
end
section
namespace Go.Proofs.YtcppcnfmgpphcaaGreat
open Go.RowKit

end Go.Proofs.YtcppcnfmgpphcaaGreat
end
namespace Go.Proofs.YtcppcnfmgpphcaaGreat.S
section
open Go.RowKit
end
section
open Go.RowKit
end
section
open Go.RowKit
end
section
open Go.RowKit
end
section
open Go.RowKit

theorem hg_5:za6 Tryz.prog 38:=za6.mk' (by kernel_rfl)
def RkOk (r:zac):Prop:=TOk 200 200 r.t
theorem SR4Same (r:zac) (hr:RkOk r):Fn Tryz.prog 38 [] [(vR r),(vR r)] (vb true) []:=by
 refine Fn.body Tryz.func38 rfl 17 rfl fun w H B a h=>?_
 refine rq za0 0 [] [(2,vp 0 0),(3,vp 1 0),(4,vb false)] [(0,.box (zR_ r)),(1,.box (zR_ r))] h fun a w h=>?_
 refine rq za0 2 [(4,.cmpb .eql (m:=r.eq) (n:=r.eq) (b:=true) (.inl ⟨rfl,(show (r.eq == r.eq)=true from by simp).symm⟩)),(10,.call (SRTSame r.t (n:=200) (L:=200) hr (by decide)) tn_5)] [(4,vb true)] [] h fun a w h=>?_
 refine wp_ret ?_
 refine rT (.c (cB true)) h rfl rfl ?_
 first | rfl | (cases r.eq <;> rfl)
theorem SRSameAll (rs:List zac) (hrk:∀ r ∈ rs,RkOk r) (hl:rs.length≤9223372036854775807):Fn Tryz.prog 15 [] [(vRs rs),(vRs rs)] (vb true) []:=by
 refine Fn.body Tryz.func15 rfl 27 rfl fun w H B a h=>?_
 refine rq za0 0 [] [(0,(vRs rs)),(1,(vRs rs)),(4,vb false)] [] h fun a w h=>?_
 refine wp_seq (rq za0 0 [(1,.len (za9 4 zac.d rs)),(3,.len (za9 4 zac.d rs)),(4,.cmp (op:=.neq) (m:=(rs.length:Int)) (n:=(rs.length:Int)) (b:=false) .i64 (show ((rs.length:Int) != (rs.length:Int))=false from by simp))] [(0,(vRs rs)),(1,(vRs rs)),(4,vb false),(10,vb false)] [] h fun a w h=>?_)
 refine zah false h rfl nofun (fun _=>?_)
 refine wp_skip (za2 (wp_seq (rq za0 0 [] [(0,(vRs rs)),(1,(vRs rs)),(4,vb false),(5,vI 0)] [] h fun a w h=>?_)))
 refine wp_block ?_
 refine zau (ι:=(Nat)) (fun j=>j≤rs.length)
   (fun j=>[(0,(vRs rs)),(1,(vRs rs)),(5,vN j)])
   (fun j=>[])
   (fun j=>rs.length - j) 0 ?_ h (by kernel_rfl) (by kernel_rfl) ?_
 ·exact Nat.zero_le _
 clear h;rintro j a w hI h
 refine wp_seq (rq za0 0 [(2,.len (za9 4 zac.d rs))] [(0,(vRs rs)),(1,(vRs rs)),(5,vN j),(14,vb (decide ((j:Int)<(rs.length:Int))))] [] h fun a w h=>?_)
 refine zam ((j:Int)<(rs.length:Int)) h rfl (fun hc1 hc1'=>?_) (fun hc2 hc2'=>?_)
 ·refine wp_skip (za2 (wp_seq (wp_block ?_)))
  obtain ⟨x1,hx1⟩:=gl rs j
  refine rq za0 0 [(2,.g (xD 19 17 kc_3 (zaf hx1 (f:=zac.d)) (OV.tmp 18 _))),(6,.g (xD 23 21 kc_3 (zaf hx1 (f:=zac.d)) (OV.tmp 22 _))),(8,.call (SR4Same x1 (hrk x1 (lM hx1))) hg_5)] [(0,(vRs rs)),(1,(vRs rs)),(5,vN j),(26,vb false)] [] h fun a w h=>?_
  refine zah false h rfl nofun (fun _=>?_)
  refine wp_skip (zaa (za2 (rn za0 0 [(1,.j1 j)] [(0,(vRs rs)),(1,(vRs rs)),(5,vI ((j:Int)+1))] [] h fun a w h=>?_)))
  refine za2 ?_
  refine zaj (x:=j) (y:=j+1) h ?_ ?_
  ·have:=zag hx1
   show j+1≤rs.length
   omega
  show rs.length - (j+1)<rs.length - j
  have:=zag hx1;omega
 refine wp_exit (zab (zab (za7 (za2 (rq za0 0 [] [(4,vb true)] [] h fun a w h=>?_)))))
 refine wp_ret ?_
 refine rT (.c (cB true)) h rfl rfl ?_
 rfl
theorem SRSameAll2 {rs qs:List zac} (e:qs=rs) (hrk:∀ r ∈ rs,RkOk r) (hl:rs.length≤9223372036854775807):Fn Tryz.prog 15 [] [(vRs qs),(vRs rs)] (vb true) []:=by subst e;exact SRSameAll qs hrk hl
end
section
open Go.RowKit
end
section
open Go.RowKit
end
section
open Go.RowKit
end
section
open Go.RowKit
end
section
open Go.RowKit
end
section
open Go.RowKit
end
section
open Go.RowKit
end
section
open Go.RowKit
end
section
open Go.RowKit
end
section
open Go.RowKit

theorem hT_3:za6 Tryz.prog 152:=za6.mk' (by kernel_rfl)
theorem hT_10:za6 Tryz.prog 102:=za6.mk' (by kernel_rfl)
theorem hT_11:za6 Tryz.prog 125:=za6.mk' (by kernel_rfl)
theorem SRboth (xs ys:List za4) (ha:xs.length≤1000) (hb:ys.length≤1000):Fn Tryz.prog 152 [] [(vPs xs),(vPs ys)] (vPs (xs++ys)) []:=by
 refine Fn.body Tryz.func152 rfl 36 rfl fun w H B a h=>?_
 refine rq za0 0 [] [(0,(vPs xs)),(1,(vPs ys)),(4,.t (.c (.d (.raw zae))))] [] h fun a w h=>?_
 refine rq za0 0 [(0,.g (Op.buildE (d:=8) (n:=0) tb_9))] [(0,(vPs xs)),(1,(vPs ys)),(4,.t (.c (.d (.raw zae)))),(5,.t (.c (.own 0 0)))] [(0,.row 100 3 ([].map za4.d))] h fun a w h=>?_
 refine wp_seq (rqk za0 1 [] [(0,(vPs xs)),(1,(vPs ys)),(4,.t (.c (.d (.raw zae)))),(5,.t (.c (.own 0 0))),(6,vI 0)] h fun a w h=>?_)
 refine wp_block ?_
 refine zau (ι:=(Nat) × (List za4)) (fun (j1,out1)=>out1=[]++xs.take j1∧j1≤xs.length)
   (fun (j1,out1)=>[(0,(vPs xs)),(1,(vPs ys)),(4,.t (.c (.d (.raw zae)))),(5,.t (.c (.own 0 out1.length))),(6,vN j1)])
   (fun (j1,out1)=>[(0,.row 100 3 (out1.map za4.d))])
   (fun (j1,out1)=>xs.length - j1) (0,[]) ?_ h (by kernel_rfl) (by kernel_rfl) ?_
 ·exact ⟨by simp,Nat.zero_le _⟩
 clear h;rintro ⟨j1,out1⟩ a w hI h
 dsimp only at h
 obtain ⟨hI1a,hI1b⟩:=hI
 have lo1:out1.length≤1000:=by rw [hI1a];simp;omega
 refine wp_seq (rqk za0 1 [(2,.len (za9 3 za4.d xs))] [(0,(vPs xs)),(1,(vPs ys)),(4,.t (.c (.d (.raw zae)))),(5,.t (.c (.own 0 out1.length))),(6,vN j1),(12,vb (decide ((j1:Int)<(xs.length:Int))))] h fun a w h=>?_)
 refine zam ((j1:Int)<(xs.length:Int)) h rfl (fun hc1 hc1'=>?_) (fun hc2 hc2'=>?_)
 ·refine wp_skip (za2 (wp_seq (wp_block ?_)))
  obtain ⟨x1,hx1⟩:=gl xs j1
  refine rn za0 1 [(3,.g (xD 18 16 zc3 (zaf hx1 (f:=za4.d)) (OV.tmp 17 _))),(5,.g (bD 20 ([x1].map za4.d) [(19,.t (.agg ([cI x1.v]++zi x1.c)))] tb_9 (.cons (i:=0) (OV.tmp 19 _) (.nil)) (by kernel_rfl) (by simp [za4.d]))),(6,.g (aD 21 15 20 0 1 out1 [x1] za4.d zf2 (by simp [za4.d])))] [(0,(vPs xs)),(1,(vPs ys)),(4,.t (.c (.d (.raw zae)))),(5,.t (.c (.own 1 (out1++[x1]).length))),(6,vN j1)] [(1,.row 100 3 ((out1++[x1]).map za4.d))] h fun a w h=>?_
  refine zaa (za2 (rnk za0 2 [(1,.add .i64 (m:=(j1:Int)) (n:=1) i6)] [(0,(vPs xs)),(1,(vPs ys)),(4,.t (.c (.d (.raw zae)))),(5,.t (.c (.own 1 (out1++[x1]).length))),(6,vI ((j1:Int)+1))] h fun a w h=>?_))
  refine za2 ?_
  replace h:=zbz 1 0 [(0,(vPs xs)),(1,(vPs ys)),(4,.t (.c (.d (.raw zae)))),(5,.t (.c (.own 0 (out1++[x1]).length))),(6,vI ((j1:Int)+1))] [(0,.row 100 3 ((out1++[x1]).map za4.d))] h
  refine zaj (x:=(j1,out1)) (y:=(j1+1,(out1++[x1]))) h ?_ ?_
  ·refine ⟨?_,by have:=zag hx1;omega⟩
   rw [List.take_add_one,hx1,hI1a];simp
  (try simp);omega
 refine wp_exit (zab (zab (za7 (za2 (wp_seq (rqk za0 2 [] [(1,(vPs ys)),(4,.t (.c (.d (.raw zae)))),(5,.t (.c (.own 0 out1.length))),(7,vI 0)] h fun a w h=>?_))))))
 refine wp_block ?_
 refine zau (ι:=(Nat) × (List za4)) (fun (j2,out2)=>out2=out1++ys.take j2∧j2≤ys.length)
   (fun (j2,out2)=>[(1,(vPs ys)),(4,.t (.c (.d (.raw zae)))),(5,.t (.c (.own 0 out2.length))),(7,vN j2)])
   (fun (j2,out2)=>[(0,.row 100 3 (out2.map za4.d))])
   (fun (j2,out2)=>ys.length - j2) (0,out1) ?_ h (by kernel_rfl) (by kernel_rfl) ?_
 ·exact ⟨by simp,Nat.zero_le _⟩
 clear h;rintro ⟨j2,out2⟩ a w hI h
 dsimp only at h
 obtain ⟨hI2a,hI2b⟩:=hI
 have lo2:out2.length≤2000:=by rw [hI2a];simp;omega
 refine wp_seq (rqk za0 2 [(2,.len (za9 3 za4.d ys))] [(1,(vPs ys)),(4,.t (.c (.d (.raw zae)))),(5,.t (.c (.own 0 out2.length))),(7,vN j2),(25,vb (decide ((j2:Int)<(ys.length:Int))))] h fun a w h=>?_)
 refine zam ((j2:Int)<(ys.length:Int)) h rfl (fun hc3 hc3'=>?_) (fun hc4 hc4'=>?_)
 ·refine wp_skip (za2 (wp_seq (wp_block ?_)))
  obtain ⟨x2,hx2⟩:=gl ys j2
  refine rn za0 2 [(3,.g (xD 31 29 zc3 (zaf hx2 (f:=za4.d)) (OV.tmp 30 _))),(5,.g (bD 33 ([x2].map za4.d) [(32,.t (.agg ([cI x2.v]++zi x2.c)))] tb_9 (.cons (i:=0) (OV.tmp 32 _) (.nil)) (by kernel_rfl) (by simp [za4.d]))),(6,.g (aD 34 28 33 0 2 out2 [x2] za4.d zf2 (by simp [za4.d])))] [(1,(vPs ys)),(4,.t (.c (.d (.raw zae)))),(5,.t (.c (.own 2 (out2++[x2]).length))),(7,vN j2)] [(2,.row 100 3 ((out2++[x2]).map za4.d))] h fun a w h=>?_
  refine zaa (za2 (rnk za0 3 [(1,.add .i64 (m:=(j2:Int)) (n:=1) i6)] [(1,(vPs ys)),(4,.t (.c (.d (.raw zae)))),(5,.t (.c (.own 2 (out2++[x2]).length))),(7,vI ((j2:Int)+1))] h fun a w h=>?_))
  refine za2 ?_
  replace h:=zbz 2 0 [(1,(vPs ys)),(4,.t (.c (.d (.raw zae)))),(5,.t (.c (.own 0 (out2++[x2]).length))),(7,vI ((j2:Int)+1))] [(0,.row 100 3 ((out2++[x2]).map za4.d))] h
  refine zaj (x:=(j2,out2)) (y:=(j2+1,(out2++[x2]))) h ?_ ?_
  ·refine ⟨?_,by have:=zag hx2;omega⟩
   rw [List.take_add_one,hx2,hI2a];simp
  (try simp);omega
 refine wp_exit (zab (zab (za7 (za2 (rqk za0 3 [] [(4,.t (.c (.own 0 out2.length)))] h fun a w h=>?_)))))
 refine wp_ret ?_
 replace h:=zgn 0 3 100 (out2.map za4.d) [(4,(vPs out2))] [] h rfl (show zbt _ [out2.length] from ⟨by first | exact (List.length_map _).symm | (simp;done) | (simp;omega),trivial⟩) trivial
 refine rT (.c (cPs out2)) h rfl rfl ?_
 have h1:j1=xs.length:=by have:=hc2';omega
 have h2:j2=ys.length:=by have:=hc4';omega
 subst h1 h2
 rw [hI2a,hI1a,List.take_length,List.take_length];first | done | rfl
theorem SRTAdd (s t:zb9) (hs:TOk 400 15000 s) (ht:TOk 400 15000 t):Fn Tryz.prog 125 [] [(vT s),(vT t)] (vd (addT s t).d) []:=by
 have ks:=hs.kl
 have kt:=ht.kl
 refine Fn.body Tryz.func125 rfl 17 rfl fun w H B a h=>?_
 refine rq za0 0 [] [(2,vp 0 0),(3,vp 1 0),(4,vp 2 0)] [(0,.box (zT s)),(1,.box (zT t)),(2,.box zT0)] h fun a w h=>?_
 obtain ⟨r2,er2,vr2,or2,lr2⟩:=mkZ (v:=s.k.val+t.k.val) (m:=s.k.abs.length+t.k.abs.length+1) (zcr hs.kb ht.kb)
 refine rq za0 3 [(4,.call (SRboth s.parts t.parts (by have:=hs.len;omega) (by have:=ht.len;omega)) hT_3),(9,.call (Fn.cast (SRAdd s.k t.k hs.kb ht.kb (by omega) (by omega)) (congrArg vz er2.symm)) ib_5),(11,.call (SRPlain' (zb9.mk (s.parts++t.parts) r2) (TOk.add hs ht r2 or2 (by have:=hs.kl;have:=ht.kl;omega)) (by decide) (by decide)) tc_2)] [(4,vp 2 0)] [(2,.box (zT (za3 (zb9.mk (s.parts++t.parts) r2))))] h fun a w h=>?_
 refine wp_ret ?_
 refine rA 2 (zT (za3 (zb9.mk (s.parts++t.parts) r2))) h zf1 rfl rfl rfl rfl rfl ?_
 rw [er2];first | done | rfl
theorem SRNumber (k:ZI) (hk:Lb k.abs) (lk:k.abs.length≤40000):Fn Tryz.prog 103 [] [vz k] (vd (zgo k).d) []:=by
 refine Fn.body Tryz.func103 rfl 6 rfl fun w H B a h=>?_
 refine rq za0 0 [] [(1,vp 0 0),(2,vp 1 0)] [(0,.box (zi k)),(1,.box zT0)] h fun a w h=>?_
 obtain ⟨r1,er1,vr1,or1,lr1⟩:=mkZ (v:=k.val) (m:=k.abs.length) (zcd hk)
 refine rq za0 2 [(1,.call (Fn.cast (SRClean k hk (by omega)) (congrArg vz er1.symm)) tb_7)] [(2,vp 1 0)] [(1,.box ([.d (.raw zae)]++zi r1))] h fun a w h=>?_
 refine wp_ret ?_
 replace h:=zbo 1 0 3 ([.d (.raw zae)]++zi r1) [(2,vp 1 0)] [(1,.box ([cPs []]++zi r1))] h rfl rfl
 refine rA 1 ([cPs []]++zi r1) h zf1 rfl rfl rfl rfl rfl ?_
 rw [er1];first | done | rfl
theorem SRScale (t:zb9) (q:ZI) {n L M:Nat} (ht:TOk n L t) (hn:n≤1000) (hq:Lb q.abs) (lq:q.abs.length≤M) (hL:L+M≤40000):Fn Tryz.prog 102 [] [(vT t),vz q] (vd (zb7 t q).d) []:=by
 have kt:=ht.kl
 have nt:=ht.len
 refine Fn.body Tryz.func102 rfl 41 rfl fun w H B a h=>?_
 refine rq za0 0 [] [(2,vp 0 0),(3,vp 1 0),(4,vp 2 0)] [(0,.box (zT t)),(1,.box (zi q)),(2,.box zT0)] h fun a w h=>?_
 obtain ⟨r1,er1,vr1,or1,lr1⟩:=mkZ (v:=t.k.val*q.val) (m:=t.k.abs.length+q.abs.length) (zej ht.kb hq)
 refine rq za0 3 [(3,.call (Fn.cast (SRMul t.k q ht.kb hq (by omega) (by omega)) (congrArg vz er1.symm)) zs_18)] [(2,vp 0 0),(3,vp 1 0),(4,vp 2 0),(5,vp 3 0)] [(0,.box (zT t)),(1,.box (zi q)),(2,.box zT0),(3,.box ([.d (.raw zae)]++zi r1))] h fun a w h=>?_
 refine wp_seq ?_
 replace h:=ze7 3 0 4 3 100 ([.d (.raw zae)]++zi r1) [(2,vp 0 0),(3,vp 1 0),(4,vp 2 0),(5,vp 3 0)] [(0,.box (zT t)),(1,.box (zi q)),(2,.box zT0),(3,.box ([.own 4 0]++zi r1)),(4,.row 100 3 ([].map za4.d))] h (by kernel_rfl) rfl rfl
 refine rqk za0 5 [] [(2,vp 0 0),(3,vp 1 0),(4,vp 2 0),(5,vp 3 0),(6,vI 0)] h fun a w h=>?_
 refine wp_block ?_
 refine zau (ι:=(Nat) × (List za4)) (fun (j,out)=>out=(t.parts.take j).map (fun p=>za4.mk p.v (ZI.of (p.c.val*q.val)))∧j≤t.parts.length∧out.length≤j)
   (fun (j,out)=>[(2,vp 0 0),(3,vp 1 0),(4,vp 2 0),(5,vp 3 0),(6,vN j)])
   (fun (j,out)=>[(0,.box (zT t)),(1,.box (zi q)),(2,.box zT0),(3,.box ([.own 4 out.length]++zi r1)),(4,.row 100 3 (out.map za4.d))])
   (fun (j,out)=>t.parts.length - j) (0,[]) ?_ h (by kernel_rfl) (by kernel_rfl) ?_
 ·exact ⟨by simp,Nat.zero_le _,Nat.zero_le _⟩
 clear h;rintro ⟨j,out⟩ a w hI h
 dsimp only at h
 obtain ⟨hI1,hI2,hI3⟩:=hI
 refine wp_seq (rqk za0 5 [(3,.len (za9 3 za4.d t.parts))] [(2,vp 0 0),(3,vp 1 0),(4,vp 2 0),(5,vp 3 0),(6,vN j),(16,vb (decide ((j:Int)<(t.parts.length:Int))))] h fun a w h=>?_)
 refine zam ((j:Int)<(t.parts.length:Int)) h rfl (fun hc1 hc1'=>?_) (fun hc2 hc2'=>?_)
 ·refine wp_skip (za2 (wp_seq (wp_block ?_)))
  obtain ⟨x2,hx2⟩:=gl t.parts j
  obtain ⟨ox2,lx2⟩:=ht.get hx2
  obtain ⟨r3,er3,vr3,or3,lr3⟩:=mkZ (v:=x2.c.val*q.val) (m:=x2.c.abs.length+q.abs.length) (zej ox2 hq)
  refine rn za0 5 [(5,.g (xD 24 22 zc3 (zaf hx2 (f:=za4.d)) (OV.tmp 23 _))),(11,.g (xD 30 28 zc3 (zaf hx2 (f:=za4.d)) (OV.tmp 29 _))),(15,.call (Fn.cast (SRMul x2.c q ox2 hq (by omega) (by omega)) (congrArg vz er3.symm)) zs_18),(17,.g (bD 36 ([(za4.mk x2.v r3)].map za4.d) [(35,.t (.agg ([cI x2.v]++zi r3)))] tb_9 (.cons (i:=0) (OV.tmp 35 _) (.nil)) (by kernel_rfl) (by simp [za4.d]))),(18,.g (aD 37 20 36 4 5 out [(za4.mk x2.v r3)] za4.d zf2 (by simp [za4.d])))] [(2,vp 0 0),(3,vp 1 0),(4,vp 2 0),(5,vp 3 0),(6,vN j)] [(0,.box (zT t)),(1,.box (zi q)),(2,.box zT0),(3,.box ([.own 5 (out++[(za4.mk x2.v r3)]).length]++zi r1)),(5,.row 100 3 ((out++[(za4.mk x2.v r3)]).map za4.d))] h fun a w h=>?_
  refine zaa (za2 (rnk za0 6 [(1,.j1 j)] [(2,vp 0 0),(3,vp 1 0),(4,vp 2 0),(5,vp 3 0),(6,vI ((j:Int)+1))] h fun a w h=>?_))
  refine za2 ?_
  replace h:=zbz 5 4 [(2,vp 0 0),(3,vp 1 0),(4,vp 2 0),(5,vp 3 0),(6,vI ((j:Int)+1))] [(0,.box (zT t)),(1,.box (zi q)),(2,.box zT0),(3,.box ([.own 4 (out++[(za4.mk x2.v r3)]).length]++zi r1)),(4,.row 100 3 ((out++[(za4.mk x2.v r3)]).map za4.d))] h
  refine zaj (x:=(j,out)) (y:=(j+1,(out++[(za4.mk x2.v r3)]))) h ?_ ?_
  ·refine ⟨?_,by have:=zag hx2;omega,by simp;omega⟩
   rw [zih hx2,← hI1,er3]
  (try simp);omega
 refine wp_exit (zab (zab (za7 (za2 ?_))))
 have hj:j=t.parts.length:=by have:=hc2';omega
 rw [hj,List.take_length] at hI1
 have hq2:zb9.mk out r1=mulT t q:=by rw [hI1,er1];first | done | rfl
 replace h:=zgn 4 3 100 (out.map za4.d) [(2,vp 0 0),(3,vp 1 0),(4,vp 2 0),(5,vp 3 0),(6,vN j),(16,vb (decide ((j:Int)<(t.parts.length:Int))))] [(0,.box (zT t)),(1,.box (zi q)),(2,.box zT0),(3,.box ([cPs out]++zi r1))] h rfl trivial (show zbt _ [out.length] from ⟨by first | exact (List.length_map _).symm | (simp;done) | (simp;omega),trivial⟩)
 refine rq za0 6 [(1,.call ((show Fn _ _ _ [vd (zb9.mk out r1).d] _ _ from by rw [hq2];exact SRPlain' (mulT t q) (TOk.mul ht hq lq) (by omega) (by omega))) tc_2)] [(4,vp 2 0)] [(2,.box (zT (zb7 t q)))] h fun a w h=>?_
 refine wp_ret ?_
 refine rA 2 (zT (zb7 t q)) h zf1 rfl rfl rfl rfl rfl ?_
 rfl
theorem SRTSub (s t:zb9) (hs:TOk 400 10000 s) (ht:TOk 400 10000 t):Fn Tryz.prog 104 [] [(vT s),(vT t)] (vd (zhz s t).d) []:=by
 refine Fn.body Tryz.func104 rfl 10 rfl fun w H B a h=>?_
 refine rq za0 0 [] [(2,vp 0 0),(3,vp 1 0),(4,vp 2 0)] [(0,.box (zT s)),(1,.box (zT t)),(2,.box zT0)] h fun a w h=>?_
 obtain ⟨r1,er1,vr1,or1,lr1⟩:=mkZ (v:=(-1)) (m:=2) (ZI.len_of (by have:=pw2;omega))
 refine rq za0 3 [(2,.call (Fn.cast (SROf (-1) ⟨by omega,by omega⟩) (congrArg vz er1.symm)) tc_0),(3,.call (SRScale t r1 ht (by decide) or1 lr1 (by decide)) hT_10),(4,.call (SRTAdd s (zb7 t r1) (hs.mono (by decide) (by decide)) (((TOk.mul ht or1 lr1).plain (by decide)).mono (by decide) (by decide))) hT_11)] [(4,vp 2 0)] [(2,.box (zT (addT s (zb7 t r1))))] h fun a w h=>?_
 refine wp_ret ?_
 refine rA 2 (zT (addT s (zb7 t r1))) h zf1 rfl rfl rfl rfl rfl ?_
 rw [er1];first | done | rfl
end
end Go.Proofs.YtcppcnfmgpphcaaGreat.S
