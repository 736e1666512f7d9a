/-
  Contracts of the statements' helper counting.
-/
import Derived.Test.YtehbfobfkpejoaaIntG
namespace Go.Proofs.Ytehbfobfkpejoaa
open Go.RowKit

set_option maxRecDepth 100000 in
set_option maxHeartbeats 4000000 in
theorem counting_any (w : World) : Calls Try.prog 19 #[] w (GotP (.bool true) w) := by
  go_enter Try.func19, Try.ntmps19
  go_wp2_with fail
  refine (ZOf_any (-5) _ ⟨by omega, by omega⟩).mono ?_
  rintro e w1 ⟨r1s, r1a, r1c, r1z, r1B, rfl, r1b, r1o, r1k, r1v, r1l, xx⟩
  try simp at r1b
  try simp only [List.length_cons, List.length_nil] at r1l
  have hE : Ext w w1 := Ext.trans (Ext.refl _) xx
  have hz1 : w.heap.size ≤ w1.heap.size := (by have hq := Ext.size xx; (try simp at hq); omega)
  clear xx
  go_wp2_with fail
  refine (ZSmall_any r1s _ _ _ r1z _ (-5) true rfl r1o.rd (by first | omega | (simp; done) | (simp; omega)) (by rw [r1v.out]; decide)).mono ?_
  rintro e w2 ⟨rfl, xx⟩
  replace hE := Ext.trans hE xx
  have hz2 : w1.heap.size ≤ w2.heap.size := (by have hq := Ext.size xx; (try simp at hq); omega)
  clear xx
  go_wp2_with fail
  refine (ZSmall_any false _ _ _ [0, 0, 1] _ 0 false rfl (row3b _ (w2.heap.size) _ _ _ 0 0 1 (by simp) rfl rfl rfl (by omega) (by omega) (by omega)).rd (by first | omega | (simp; done) | (simp; omega)) (by decide)).mono ?_
  rintro e w3 ⟨rfl, xx⟩
  replace hE := Ext.trans (hE.alloc _) xx
  have hz3 : w2.heap.size + 1 ≤ w3.heap.size := (by have hq := Ext.size xx; (try simp at hq); omega)
  clear xx
  go_wp2_with fail
  refine (ZOf_any (-7) _ ⟨by omega, by omega⟩).mono ?_
  rintro e w4 ⟨r4s, r4a, r4c, r4z, r4B, rfl, r4b, r4o, r4k, r4v, r4l, xx⟩
  try simp at r4b
  try simp only [List.length_cons, List.length_nil] at r4l
  replace hE := Ext.trans hE xx
  have hz4 : w3.heap.size ≤ w4.heap.size := (by have hq := Ext.size xx; (try simp at hq); omega)
  clear xx
  go_wp2_with fail
  refine (is_yes r4s _ _ _ r4z (-7) _ rfl r4o.rd (by first | omega | (simp; done) | (simp; omega)) r4k.out (by rw [r4v.out]; try rfl) ⟨by omega, by omega⟩).mono ?_
  rintro e w5 ⟨rfl, xx⟩
  replace hE := Ext.trans hE xx
  have hz5 : w4.heap.size ≤ w5.heap.size := (by have hq := Ext.size xx; (try simp at hq); omega)
  clear xx
  go_wp2_with fail
  refine (ZOf_any 3 _ ⟨by omega, by omega⟩).mono ?_
  rintro e w6 ⟨r6s, r6a, r6c, r6z, r6B, rfl, r6b, r6o, r6k, r6v, r6l, xx⟩
  try simp at r6b
  try simp only [List.length_cons, List.length_nil] at r6l
  replace hE := Ext.trans hE xx
  have hz6 : w5.heap.size ≤ w6.heap.size := (by have hq := Ext.size xx; (try simp at hq); omega)
  clear xx
  go_wp2_with fail
  refine (ZNeg_any r6s _ _ _ r6z _ rfl r6o.rd (by first | omega | (simp; done) | (simp; omega))).mono ?_
  rintro e w7 ⟨r7s, r7a, r7c, r7z, r7B, rfl, r7b, r7o, r7k, r7v, r7l, xx⟩
  try simp at r7b
  try simp only [List.length_cons, List.length_nil] at r7l
  replace hE := Ext.trans hE xx
  have hz7 : w6.heap.size ≤ w7.heap.size := (by have hq := Ext.size xx; (try simp at hq); omega)
  clear xx
  go_wp2_with fail
  refine (is_yes r7s _ _ _ r7z (-3) _ rfl r7o.rd (by first | omega | (simp; done) | (simp; omega)) r7k.out (by rw [r7v.out, r6v.out]; try rfl) ⟨by omega, by omega⟩).mono ?_
  rintro e w8 ⟨rfl, xx⟩
  replace hE := Ext.trans hE xx
  have hz8 : w7.heap.size ≤ w8.heap.size := (by have hq := Ext.size xx; (try simp at hq); omega)
  clear xx
  go_wp2_with fail
  refine (ZOf_any (-3) _ ⟨by omega, by omega⟩).mono ?_
  rintro e w9 ⟨r9s, r9a, r9c, r9z, r9B, rfl, r9b, r9o, r9k, r9v, r9l, xx⟩
  try simp at r9b
  try simp only [List.length_cons, List.length_nil] at r9l
  replace hE := Ext.trans hE xx
  have hz9 : w8.heap.size ≤ w9.heap.size := (by have hq := Ext.size xx; (try simp at hq); omega)
  clear xx
  go_wp2_with fail
  refine (ZAbs_any r9s _ _ _ r9z _ rfl r9o.rd (by first | omega | (simp; done) | (simp; omega))).mono ?_
  rintro e w10 ⟨r10s, r10a, r10c, r10z, r10B, rfl, r10b, r10o, r10k, r10v, r10l, xx⟩
  try simp at r10b
  try simp only [List.length_cons, List.length_nil] at r10l
  replace hE := Ext.trans hE xx
  have hz10 : w9.heap.size ≤ w10.heap.size := (by have hq := Ext.size xx; (try simp at hq); omega)
  clear xx
  go_wp2_with fail
  refine (is_yes r10s _ _ _ r10z 3 _ rfl r10o.rd (by first | omega | (simp; done) | (simp; omega)) r10k.out (by rw [r10v.out, r9v.out]; try rfl) ⟨by omega, by omega⟩).mono ?_
  rintro e w11 ⟨rfl, xx⟩
  replace hE := Ext.trans hE xx
  have hz11 : w10.heap.size ≤ w11.heap.size := (by have hq := Ext.size xx; (try simp at hq); omega)
  clear xx
  go_wp2_with fail
  refine (ZOf_any (-9) _ ⟨by omega, by omega⟩).mono ?_
  rintro e w12 ⟨r12s, r12a, r12c, r12z, r12B, rfl, r12b, r12o, r12k, r12v, r12l, xx⟩
  try simp at r12b
  try simp only [List.length_cons, List.length_nil] at r12l
  replace hE := Ext.trans hE xx
  have hz12 : w11.heap.size ≤ w12.heap.size := (by have hq := Ext.size xx; (try simp at hq); omega)
  clear xx
  go_wp2_with fail
  refine (ZSign_any r12s _ _ _ r12z _ (-1) rfl r12o.rd (by first | omega | (simp; done) | (simp; omega)) (by rw [r12v.out]; decide)).mono ?_
  rintro e w13 ⟨rfl, xx⟩
  replace hE := Ext.trans hE xx
  have hz13 : w12.heap.size ≤ w13.heap.size := (by have hq := Ext.size xx; (try simp at hq); omega)
  clear xx
  go_wp2_with fail
  refine (ZSign_any true _ _ _ [] _ 0 rfl (Rd.nil _) (by first | omega | (simp; done) | (simp; omega)) (by decide)).mono ?_
  rintro e w14 ⟨rfl, xx⟩
  replace hE := Ext.trans hE xx
  have hz14 : w13.heap.size ≤ w14.heap.size := (by have hq := Ext.size xx; (try simp at hq); omega)
  clear xx
  go_wp2_with fail
  refine (ZOf_any (-2) _ ⟨by omega, by omega⟩).mono ?_
  rintro e w15 ⟨r15s, r15a, r15c, r15z, r15B, rfl, r15b, r15o, r15k, r15v, r15l, xx⟩
  try simp at r15b
  try simp only [List.length_cons, List.length_nil] at r15l
  replace hE := Ext.trans hE xx
  have hz15 : w14.heap.size ≤ w15.heap.size := (by have hq := Ext.size xx; (try simp at hq); omega)
  clear xx
  go_wp2_with fail
  refine (ZOf_any 1 _ ⟨by omega, by omega⟩).mono ?_
  rintro e w16 ⟨r16s, r16a, r16c, r16z, r16B, rfl, r16b, r16o, r16k, r16v, r16l, xx⟩
  try simp at r16b
  try simp only [List.length_cons, List.length_nil] at r16l
  replace hE := Ext.trans hE xx
  have hz16 : w15.heap.size ≤ w16.heap.size := (by have hq := Ext.size xx; (try simp at hq); omega)
  replace r15o := Own.ext r15o xx
  clear xx
  go_wp2_with fail
  refine (ZCmp_any r15s _ _ _ r15z r16s _ _ _ r16z _ (-1) rfl rfl r15o.rd r16o.rd (by first | omega | (simp; done) | (simp; omega)) (by first | omega | (simp; done) | (simp; omega)) (by rw [r15v.out, r16v.out]; decide)).mono ?_
  rintro e w17 ⟨rfl, xx⟩
  replace hE := Ext.trans hE xx
  have hz17 : w16.heap.size ≤ w17.heap.size := (by have hq := Ext.size xx; (try simp at hq); omega)
  clear xx
  go_wp2_with fail
  refine (ZOf_any 2 _ ⟨by omega, by omega⟩).mono ?_
  rintro e w18 ⟨r18s, r18a, r18c, r18z, r18B, rfl, r18b, r18o, r18k, r18v, r18l, xx⟩
  try simp at r18b
  try simp only [List.length_cons, List.length_nil] at r18l
  replace hE := Ext.trans hE xx
  have hz18 : w17.heap.size ≤ w18.heap.size := (by have hq := Ext.size xx; (try simp at hq); omega)
  clear xx
  go_wp2_with fail
  refine (ZOf_any (-5) _ ⟨by omega, by omega⟩).mono ?_
  rintro e w19 ⟨r19s, r19a, r19c, r19z, r19B, rfl, r19b, r19o, r19k, r19v, r19l, xx⟩
  try simp at r19b
  try simp only [List.length_cons, List.length_nil] at r19l
  replace hE := Ext.trans hE xx
  have hz19 : w18.heap.size ≤ w19.heap.size := (by have hq := Ext.size xx; (try simp at hq); omega)
  replace r18o := Own.ext r18o xx
  clear xx
  go_wp2_with fail
  refine (ZAdd_any r18s _ _ _ r18z r19s _ _ _ r19z _ rfl rfl r18o.rd r19o.rd (by first | omega | (simp; done) | (simp; omega)) (by first | omega | (simp; done) | (simp; omega))).mono ?_
  rintro e w20 ⟨r20s, r20a, r20c, r20z, r20B, rfl, r20b, r20o, r20k, r20v, r20l, xx⟩
  try simp at r20b
  try simp only [List.length_cons, List.length_nil] at r20l
  replace hE := Ext.trans hE xx
  have hz20 : w19.heap.size ≤ w20.heap.size := (by have hq := Ext.size xx; (try simp at hq); omega)
  clear xx
  go_wp2_with fail
  refine (is_yes r20s _ _ _ r20z (-3) _ rfl r20o.rd (by first | omega | (simp; done) | (simp; omega)) r20k.out (by rw [r20v.out, r18v.out, r19v.out]; try rfl) ⟨by omega, by omega⟩).mono ?_
  rintro e w21 ⟨rfl, xx⟩
  replace hE := Ext.trans hE xx
  have hz21 : w20.heap.size ≤ w21.heap.size := (by have hq := Ext.size xx; (try simp at hq); omega)
  clear xx
  go_wp2_with fail
  refine (ZOf_any 2 _ ⟨by omega, by omega⟩).mono ?_
  rintro e w22 ⟨r22s, r22a, r22c, r22z, r22B, rfl, r22b, r22o, r22k, r22v, r22l, xx⟩
  try simp at r22b
  try simp only [List.length_cons, List.length_nil] at r22l
  replace hE := Ext.trans hE xx
  have hz22 : w21.heap.size ≤ w22.heap.size := (by have hq := Ext.size xx; (try simp at hq); omega)
  clear xx
  go_wp2_with fail
  refine (ZOf_any 5 _ ⟨by omega, by omega⟩).mono ?_
  rintro e w23 ⟨r23s, r23a, r23c, r23z, r23B, rfl, r23b, r23o, r23k, r23v, r23l, xx⟩
  try simp at r23b
  try simp only [List.length_cons, List.length_nil] at r23l
  replace hE := Ext.trans hE xx
  have hz23 : w22.heap.size ≤ w23.heap.size := (by have hq := Ext.size xx; (try simp at hq); omega)
  replace r22o := Own.ext r22o xx
  clear xx
  go_wp2_with fail
  refine (ZSub_any r22s _ _ _ r22z r23s _ _ _ r23z _ rfl rfl r22o.rd r23o.rd (by first | omega | (simp; done) | (simp; omega)) (by first | omega | (simp; done) | (simp; omega))).mono ?_
  rintro e w24 ⟨r24s, r24a, r24c, r24z, r24B, rfl, r24b, r24o, r24k, r24v, r24l, xx⟩
  try simp at r24b
  try simp only [List.length_cons, List.length_nil] at r24l
  replace hE := Ext.trans hE xx
  have hz24 : w23.heap.size ≤ w24.heap.size := (by have hq := Ext.size xx; (try simp at hq); omega)
  clear xx
  go_wp2_with fail
  refine (is_yes r24s _ _ _ r24z (-3) _ rfl r24o.rd (by first | omega | (simp; done) | (simp; omega)) r24k.out (by rw [r24v.out, r22v.out, r23v.out]; try rfl) ⟨by omega, by omega⟩).mono ?_
  rintro e w25 ⟨rfl, xx⟩
  replace hE := Ext.trans hE xx
  have hz25 : w24.heap.size ≤ w25.heap.size := (by have hq := Ext.size xx; (try simp at hq); omega)
  clear xx
  go_wp2_with fail
  refine (ZOf_any (-2) _ ⟨by omega, by omega⟩).mono ?_
  rintro e w26 ⟨r26s, r26a, r26c, r26z, r26B, rfl, r26b, r26o, r26k, r26v, r26l, xx⟩
  try simp at r26b
  try simp only [List.length_cons, List.length_nil] at r26l
  replace hE := Ext.trans hE xx
  have hz26 : w25.heap.size ≤ w26.heap.size := (by have hq := Ext.size xx; (try simp at hq); omega)
  clear xx
  go_wp2_with fail
  refine (ZOf_any 5 _ ⟨by omega, by omega⟩).mono ?_
  rintro e w27 ⟨r27s, r27a, r27c, r27z, r27B, rfl, r27b, r27o, r27k, r27v, r27l, xx⟩
  try simp at r27b
  try simp only [List.length_cons, List.length_nil] at r27l
  replace hE := Ext.trans hE xx
  have hz27 : w26.heap.size ≤ w27.heap.size := (by have hq := Ext.size xx; (try simp at hq); omega)
  replace r26o := Own.ext r26o xx
  clear xx
  go_wp2_with fail
  refine (ZMul_any r26s _ _ _ r26z r27s _ _ _ r27z _ rfl rfl r26o.rd r27o.rd (by first | omega | (simp; done) | (simp; omega)) (by first | omega | (simp; done) | (simp; omega))).mono ?_
  rintro e w28 ⟨r28s, r28a, r28c, r28z, r28B, rfl, r28b, r28o, r28k, r28v, r28l, xx⟩
  try simp at r28b
  try simp only [List.length_cons, List.length_nil] at r28l
  replace hE := Ext.trans hE xx
  have hz28 : w27.heap.size ≤ w28.heap.size := (by have hq := Ext.size xx; (try simp at hq); omega)
  clear xx
  go_wp2_with fail
  refine (is_yes r28s _ _ _ r28z (-10) _ rfl r28o.rd (by first | omega | (simp; done) | (simp; omega)) r28k.out (by rw [r28v.out, r26v.out, r27v.out]; try rfl) ⟨by omega, by omega⟩).mono ?_
  rintro e w29 ⟨rfl, xx⟩
  replace hE := Ext.trans hE xx
  have hz29 : w28.heap.size ≤ w29.heap.size := (by have hq := Ext.size xx; (try simp at hq); omega)
  clear xx
  go_wp2_with fail
  refine (ZOf_any 1 _ ⟨by omega, by omega⟩).mono ?_
  rintro e w30 ⟨r30s, r30a, r30c, r30z, r30B, rfl, r30b, r30o, r30k, r30v, r30l, xx⟩
  try simp at r30b
  try simp only [List.length_cons, List.length_nil] at r30l
  replace hE := Ext.trans hE xx
  have hz30 : w29.heap.size ≤ w30.heap.size := (by have hq := Ext.size xx; (try simp at hq); omega)
  clear xx
  go_wp2_with fail
  refine (ZOf_any 2 _ ⟨by omega, by omega⟩).mono ?_
  rintro e w31 ⟨r31s, r31a, r31c, r31z, r31B, rfl, r31b, r31o, r31k, r31v, r31l, xx⟩
  try simp at r31b
  try simp only [List.length_cons, List.length_nil] at r31l
  replace hE := Ext.trans hE xx
  have hz31 : w30.heap.size ≤ w31.heap.size := (by have hq := Ext.size xx; (try simp at hq); omega)
  replace r30o := Own.ext r30o xx
  clear xx
  go_wp2_with fail
  refine (ZMin_any r30s _ _ _ r30z r31s _ _ _ r31z _ rfl rfl r30o.rd r31o.rd (by first | omega | (simp; done) | (simp; omega)) (by first | omega | (simp; done) | (simp; omega))).mono ?_
  rintro e w32 ⟨r32s, r32a, r32c, r32z, r32B, rfl, r32b, r32o, r32k, r32v, r32l, xx⟩
  try simp at r32b
  try simp only [List.length_cons, List.length_nil] at r32l
  replace hE := Ext.trans hE xx
  have hz32 : w31.heap.size ≤ w32.heap.size := (by have hq := Ext.size xx; (try simp at hq); omega)
  clear xx
  go_wp2_with fail
  refine (is_yes r32s _ _ _ r32z 1 _ rfl r32o.rd (by first | omega | (simp; done) | (simp; omega)) r32k.out (by rw [r32v.out, r30v.out, r31v.out]; try rfl) ⟨by omega, by omega⟩).mono ?_
  rintro e w33 ⟨rfl, xx⟩
  replace hE := Ext.trans hE xx
  have hz33 : w32.heap.size ≤ w33.heap.size := (by have hq := Ext.size xx; (try simp at hq); omega)
  clear xx
  go_wp2_with fail
  refine (ZOf_any 1 _ ⟨by omega, by omega⟩).mono ?_
  rintro e w34 ⟨r34s, r34a, r34c, r34z, r34B, rfl, r34b, r34o, r34k, r34v, r34l, xx⟩
  try simp at r34b
  try simp only [List.length_cons, List.length_nil] at r34l
  replace hE := Ext.trans hE xx
  have hz34 : w33.heap.size ≤ w34.heap.size := (by have hq := Ext.size xx; (try simp at hq); omega)
  clear xx
  go_wp2_with fail
  refine (ZOf_any 2 _ ⟨by omega, by omega⟩).mono ?_
  rintro e w35 ⟨r35s, r35a, r35c, r35z, r35B, rfl, r35b, r35o, r35k, r35v, r35l, xx⟩
  try simp at r35b
  try simp only [List.length_cons, List.length_nil] at r35l
  replace hE := Ext.trans hE xx
  have hz35 : w34.heap.size ≤ w35.heap.size := (by have hq := Ext.size xx; (try simp at hq); omega)
  replace r34o := Own.ext r34o xx
  clear xx
  go_wp2_with fail
  refine (ZMax_any r34s _ _ _ r34z r35s _ _ _ r35z _ rfl rfl r34o.rd r35o.rd (by first | omega | (simp; done) | (simp; omega)) (by first | omega | (simp; done) | (simp; omega))).mono ?_
  rintro e w36 ⟨r36s, r36a, r36c, r36z, r36B, rfl, r36b, r36o, r36k, r36v, r36l, xx⟩
  try simp at r36b
  try simp only [List.length_cons, List.length_nil] at r36l
  replace hE := Ext.trans hE xx
  have hz36 : w35.heap.size ≤ w36.heap.size := (by have hq := Ext.size xx; (try simp at hq); omega)
  clear xx
  go_wp2_with fail
  refine (is_yes r36s _ _ _ r36z 2 _ rfl r36o.rd (by first | omega | (simp; done) | (simp; omega)) r36k.out (by rw [r36v.out, r34v.out, r35v.out]; try rfl) ⟨by omega, by omega⟩).mono ?_
  rintro e w37 ⟨rfl, xx⟩
  replace hE := Ext.trans hE xx
  have hz37 : w36.heap.size ≤ w37.heap.size := (by have hq := Ext.size xx; (try simp at hq); omega)
  clear xx
  go_wp2_with fail
  refine (From_any true _ _ _ [4] _ rfl (row1b _ (w37.heap.size) _ 4 (by simp) rfl (by omega)).rd (by first | omega | (simp; done) | (simp; omega))).mono ?_
  rintro e w38 ⟨r38s, r38a, r38c, r38z, r38B, rfl, r38b, r38o, r38k, r38v, r38l, xx⟩
  try simp at r38b
  try simp only [List.length_cons, List.length_nil] at r38l
  replace hE := Ext.trans (hE.alloc _) xx
  have hz38 : w37.heap.size + 1 ≤ w38.heap.size := (by have hq := Ext.size xx; (try simp at hq); omega)
  clear xx
  go_wp2_with fail
  refine (is_yes r38s _ _ _ r38z (-4) _ rfl r38o.rd (by first | omega | (simp; done) | (simp; omega)) r38k.out (by rw [r38v.out]; try rfl) ⟨by omega, by omega⟩).mono ?_
  rintro e w39 ⟨rfl, xx⟩
  replace hE := Ext.trans hE xx
  have hz39 : w38.heap.size ≤ w39.heap.size := (by have hq := Ext.size xx; (try simp at hq); omega)
  clear xx
  go_wp2_with fail
  go_ret
  exact ⟨rfl, hE⟩
end Go.Proofs.Ytehbfobfkpejoaa
