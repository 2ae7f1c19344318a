/- What this text proves: the constant part of the statements on alloc. -/
import Derived.Test.YtgpnceaplakemaaAlF
namespace Go.Proofs.Ytgpnceaplakemaa.Hp
open Go Go.RowKit Go.ChangeShapes Go.Maps Go.Proofs.Ytgpnceaplakemaa.Base Go.Proofs.Ytgpnceaplakemaa.Own
set_option linter.unusedSimpArgs false

theorem lit_ints (l m : List Int) (n k : Nat) (cs : Array Value) (A : Option Addr) (c : Nat) (w : World) (h : IntArg w A l) (hl : l.length = n) (hk : m.length = k) (hcs : cs = (ints m).toArray) (hn : n ≤ 1000000) :
    Calls Try.prog 20 #[.slice A n c, .slice (some ⟨w.heap.size, 0, none⟩) k k] (w.alloc (.cells cs 3)) fun e w' => e = .returned (.bool (decide (l = m))) ∧ Below w.heap.size w w' := by
  subst hcs
  have hb := bel_alloc (Below.refl w.heap.size w) (.cells (ints m).toArray 3)
  exact (ints_calls A (some ⟨w.heap.size, 0, none⟩) c k n k l m _ (h.below hb) (intArg_new w m 3) hl hk hn).mono fun e w' ⟨he, hl⟩ => ⟨he, bel_then hb hl⟩
theorem rowOf_new (w : World) (l : List Int) (cs : Array Value) (n : Nat) (hcs : cs = (ints l).toArray) : RowOf (w.alloc (.cells cs 3)) (some ⟨w.heap.size, 0, none⟩) n l := by
  subst hcs
  exact ⟨intArg_new w l 3, (fun h => by cases h), (fun a h => ⟨_, _, by injection h with h; exact h.symm⟩)⟩
set_option maxHeartbeats 3200000 in
set_option maxRecDepth 100000 in
theorem wakes25_calls (w : World) : Calls Try.prog 23 #[] w fun e w' => e = .returned (.bool true) ∧ Below w.heap.size w w' := by
  have L1 := Lib.hid (bel_alloc (bel_alloc (Below.refl w.heap.size w) (.cells #[.int .i64 3, .int .i64 5] 3)) (.cells #[.slice (some ⟨w.heap.size, 0, none⟩) 2 2, .int .i64 8, .int .i64 9] 41))
  have B1 := Lib.hid (Blk.new (w.alloc (.cells #[.int .i64 3, .int .i64 5] 3)) 41 [.slice (some ⟨w.heap.size, 0, none⟩) 2 2, .int .i64 8, .int .i64 9])
  have R1 := Lib.hid ((rowOf_new w [3, 5] #[.int .i64 3, .int .i64 5] 2 rfl).below (bel_alloc (Below.refl _ _) (.cells #[.slice (some ⟨w.heap.size, 0, none⟩) 2 2, .int .i64 8, .int .i64 9] 41)))
  rw [show (w.alloc (.cells #[.int .i64 3, .int .i64 5] 3)).heap.size = w.heap.size + 1 by simp] at B1
  go_enter Try.func23, Try.ntmps23
  go_upto_region 2 with fail
  generalize (w.alloc (.cells #[.int .i64 3, .int .i64 5] 3)).alloc (.cells #[.slice (some ⟨w.heap.size, 0, none⟩) 2 2, .int .i64 8, .int .i64 9] 41) = W1 at *
  have c0 := B1.out.cell 0; have c1 := B1.out.cell 1; have c2 := B1.out.cell 2
  have CT1 : Calls Try.prog 24 #[.agg #[.slice (some ⟨w.heap.size, 0, none⟩) 2 2, .int .i64 8, .int .i64 9], .int .i64 3] W1 fun e w' => ∃ v u, e = .returned (.tuple #[.agg #[v, .int .i64 9, .int .i64 9], u, .bool true]) ∧ w'.ownsRow W1.heap.size 3 1 v 0 (ints []) ∧ w'.ownsRow W1.heap.size 3 1 u 3 (ints [3, 5, 8]) ∧ Below W1.heap.size W1 w' :=
    take_yes (some ⟨w.heap.size, 0, none⟩) 2 [3, 5] 8 9 3 W1 R1.out (by decide)
  have C := Lib.hid CT1
  clear CT1
  go_wp2_with fail
  ((with_reducible refine C.out.mono ?_); rintro e w2 ⟨v, u, rfl, hv, hu, hl⟩)
  obtain ⟨Av, cv, rfl⟩ := own_form hv
  obtain ⟨Au, cu, rfl⟩ := own_form hu
  have B2 := Lib.hid ((B1.out.step hl).alloc (.cells #[.slice Av 0 cv, .int .i64 9, .int .i64 9] 41))
  have T2 := Lib.hid (Blk.new w2 41 [.slice Av 0 cv, .int .i64 9, .int .i64 9])
  have R2 := Lib.hid ((R1.out.below hl).below (bel_alloc (Below.refl _ _) (.cells #[.slice Av 0 cv, .int .i64 9, .int .i64 9] 41)))
  have U2 := Lib.hid ((own_intArg hu).below (bel_alloc (Below.refl _ _) (.cells #[.slice Av 0 cv, .int .i64 9, .int .i64 9] 41)))
  have L2 := Lib.hid (bel_alloc (bel_then L1.out hl) (.cells #[.slice Av 0 cv, .int .i64 9, .int .i64 9] 41))
  clear C hv hu hl B1 R1 L1 c0 c1 c2
  go_upto_region 3 with fail
  generalize hg2 : w2.heap.size = g2 at *
  generalize w2.alloc (.cells #[.slice Av 0 cv, .int .i64 9, .int .i64 9] 41) = W2 at *
  clear hg2
  have c0 := B2.out.cell 0; have c1 := B2.out.cell 1; have c2 := B2.out.cell 2
  have CT2 := take_no (some ⟨w.heap.size, 0, none⟩) 2 [3, 5] 8 9 4 W2 R2.out (by decide) (by decide) (by decide)
  unfold NoPost at CT2
  rw [show (([3, 5] : List Int).length) = 2 from rfl] at CT2
  have C := Lib.hid CT2
  clear CT2
  go_wp2_with fail
  ((with_reducible refine C.out.mono ?_); rintro e w3 ⟨rfl, hl⟩)
  have B3 := Lib.hid ((B2.out.step hl).alloc (.cells #[.slice none 0 0, .int .i64 0, .int .i64 0] 41))
  have T3 := Lib.hid ((T2.out.step hl).alloc (.cells #[.slice none 0 0, .int .i64 0, .int .i64 0] 41))
  have R3 := Lib.hid ((R2.out.below hl).below (bel_alloc (Below.refl _ _) (.cells #[.slice none 0 0, .int .i64 0, .int .i64 0] 41)))
  have U3 := Lib.hid ((U2.out.below hl).below (bel_alloc (Below.refl _ _) (.cells #[.slice none 0 0, .int .i64 0, .int .i64 0] 41)))
  have L3 := Lib.hid (bel_alloc (bel_then L2.out hl) (.cells #[.slice none 0 0, .int .i64 0, .int .i64 0] 41))
  clear C hl B2 T2 R2 U2 L2 c0 c1 c2
  go_upto_region 4 with fail
  generalize hg3 : w3.heap.size = g3 at *
  generalize w3.alloc (.cells #[.slice none 0 0, .int .i64 0, .int .i64 0] 41) = W3 at *
  clear hg3
  have c0 := B3.out.cell 0; have c1 := B3.out.cell 1; have c2 := B3.out.cell 2
  have hb := bel_alloc (Below.refl W3.heap.size W3) (.cells #[.int .i64 0, .int .i64 1, .int .i64 2, .int .i64 4] 3)
  have CL := lists_good (some ⟨w.heap.size, 0, none⟩) (some ⟨W3.heap.size, 0, none⟩) 2 4 [3, 5] [0, 1, 2, 4] 8 9 (W3.alloc (.cells #[.int .i64 0, .int .i64 1, .int .i64 2, .int .i64 4] 3)) (R3.out.below hb) (rowOf_new W3 [0, 1, 2, 4] _ 4 rfl) (by decide) (by decide) (by decide)
  rw [show lsGo 9 (fuelL [3, 5] 8 9) [3, 5] 8 [0, 1, 2, 4] [] = some ([5], 8, [0, 1, 2, 4, 3], [3]) by decide +kernel] at CL
  have CL' : Calls Try.prog 26 #[.agg #[.slice (some ⟨w.heap.size, 0, none⟩) 2 2, .int .i64 8, .int .i64 9], .slice (some ⟨W3.heap.size, 0, none⟩) 4 4] (W3.alloc (.cells #[.int .i64 0, .int .i64 1, .int .i64 2, .int .i64 4] 3)) fun e w' => ∃ v l t, e = .returned (.tuple #[.agg #[v, .int .i64 8, .int .i64 9], l, t, .bool true]) ∧ w'.ownsRow (W3.heap.size + 1) 3 1 v 1 (ints [5]) ∧ w'.ownsRow (W3.heap.size + 1) 3 1 l 1 (ints [3]) ∧ w'.ownsRow (W3.heap.size + 1) 3 1 t 3 (ints [5, 6, 7]) ∧ Below W3.heap.size W3 w' := by
    refine CL.mono fun e w' ⟨v, l, t, he, h1, h2, h3, h4⟩ => ⟨v, l, t, he, ?_, ?_, ?_, bel_then hb h4⟩
    · simpa using h1
    · simpa using h2
    · rw [show leftL [0, 1, 2, 4, 3] 8 = [5, 6, 7] by decide +kernel] at h3
      simpa using h3
  have C := Lib.hid CL'
  clear CL' CL hb
  go_wp2_with fail
  ((with_reducible refine C.out.mono ?_); rintro e w4 ⟨v4, l4, t4, rfl, hv, hlv, htv, hl⟩)
  obtain ⟨Av4, cv4, rfl⟩ := own_form hv
  obtain ⟨Al4, cl4, rfl⟩ := own_form hlv
  obtain ⟨At4, ct4, rfl⟩ := own_form htv
  have B4 := Lib.hid ((B3.out.step hl).alloc (.cells #[.slice Av4 1 cv4, .int .i64 8, .int .i64 9] 41))
  have T4 := Lib.hid ((T3.out.step hl).alloc (.cells #[.slice Av4 1 cv4, .int .i64 8, .int .i64 9] 41))
  have V4 := Lib.hid (Blk.new w4 41 [.slice Av4 1 cv4, .int .i64 8, .int .i64 9])
  have hbb := bel_alloc (Below.refl w4.heap.size w4) (.cells #[.slice Av4 1 cv4, .int .i64 8, .int .i64 9] 41)
  have R4 := Lib.hid ((R3.out.below hl).below hbb)
  have U4 := Lib.hid ((U3.out.below hl).below hbb)
  have X4 := Lib.hid ((own_intArg hv).below hbb)
  have Y4 := Lib.hid ((own_intArg hlv).below hbb)
  have Z4 := Lib.hid ((own_intArg htv).below hbb)
  have L4 := Lib.hid (bel_alloc (bel_then L3.out hl) (.cells #[.slice Av4 1 cv4, .int .i64 8, .int .i64 9] 41))
  clear C hl hv hlv htv hbb B3 T3 R3 U3 L3 c0 c1 c2
  go_upto_region 5 with fail
  generalize hg4 : w4.heap.size = g4 at *
  generalize w4.alloc (.cells #[.slice Av4 1 cv4, .int .i64 8, .int .i64 9] 41) = W4 at *
  clear hg4
  have hC := lit_ints [3, 5, 8] [3, 5, 8] 3 3 #[.int .i64 3, .int .i64 5, .int .i64 8] Au cu W4 U4.out rfl rfl rfl (by omega)
  rw [show decide (([3, 5, 8] : List Int) = [3, 5, 8]) = true by decide] at hC
  have C := Lib.hid hC
  clear hC
  have b0 := B4.out.cell 0
  have b1 := B4.out.cell 1
  have b2 := B4.out.cell 2
  have t0 := T4.out.cell 0
  have t1 := T4.out.cell 1
  have t2 := T4.out.cell 2
  have v0 := V4.out.cell 0
  have v1 := V4.out.cell 1
  have v2 := V4.out.cell 2
  go_wp2_with fail
  ((with_reducible refine C.out.mono ?_); rintro e W5 ⟨rfl, hl⟩)
  have B5 := Lib.hid (B4.out.step hl)
  have T5 := Lib.hid (T4.out.step hl)
  have V5 := Lib.hid (V4.out.step hl)
  have R5 := Lib.hid (R4.out.below hl)
  have U5 := Lib.hid (U4.out.below hl)
  have X5 := Lib.hid (X4.out.below hl)
  have Y5 := Lib.hid (Y4.out.below hl)
  have Z5 := Lib.hid (Z4.out.below hl)
  have L5 := Lib.hid (bel_then L4.out hl)
  clear C hl B4 T4 V4 R4 U4 X4 Y4 Z4 L4
  clear b0 b1 b2 t0 t1 t2 v0 v1 v2
  have hC := lit_ints [3] [3] 1 1 #[.int .i64 3] Al4 cl4 W5 Y5.out rfl rfl rfl (by omega)
  rw [show decide (([3] : List Int) = [3]) = true by decide] at hC
  have C := Lib.hid hC
  clear hC
  have b0 := B5.out.cell 0
  have b1 := B5.out.cell 1
  have b2 := B5.out.cell 2
  have t0 := T5.out.cell 0
  have t1 := T5.out.cell 1
  have t2 := T5.out.cell 2
  have v0 := V5.out.cell 0
  have v1 := V5.out.cell 1
  have v2 := V5.out.cell 2
  go_wp2_with fail
  ((with_reducible refine C.out.mono ?_); rintro e W6 ⟨rfl, hl⟩)
  have B6 := Lib.hid (B5.out.step hl)
  have T6 := Lib.hid (T5.out.step hl)
  have V6 := Lib.hid (V5.out.step hl)
  have R6 := Lib.hid (R5.out.below hl)
  have U6 := Lib.hid (U5.out.below hl)
  have X6 := Lib.hid (X5.out.below hl)
  have Y6 := Lib.hid (Y5.out.below hl)
  have Z6 := Lib.hid (Z5.out.below hl)
  have L6 := Lib.hid (bel_then L5.out hl)
  clear C hl B5 T5 V5 R5 U5 X5 Y5 Z5 L5
  clear b0 b1 b2 t0 t1 t2 v0 v1 v2
  have hC := lit_ints [5, 6, 7] [5, 6, 7] 3 3 #[.int .i64 5, .int .i64 6, .int .i64 7] At4 ct4 W6 Z6.out rfl rfl rfl (by omega)
  rw [show decide (([5, 6, 7] : List Int) = [5, 6, 7]) = true by decide] at hC
  have C := Lib.hid hC
  clear hC
  have b0 := B6.out.cell 0
  have b1 := B6.out.cell 1
  have b2 := B6.out.cell 2
  have t0 := T6.out.cell 0
  have t1 := T6.out.cell 1
  have t2 := T6.out.cell 2
  have v0 := V6.out.cell 0
  have v1 := V6.out.cell 1
  have v2 := V6.out.cell 2
  go_wp2_with fail
  ((with_reducible refine C.out.mono ?_); rintro e W7 ⟨rfl, hl⟩)
  have B7 := Lib.hid (B6.out.step hl)
  have T7 := Lib.hid (T6.out.step hl)
  have V7 := Lib.hid (V6.out.step hl)
  have R7 := Lib.hid (R6.out.below hl)
  have U7 := Lib.hid (U6.out.below hl)
  have X7 := Lib.hid (X6.out.below hl)
  have Y7 := Lib.hid (Y6.out.below hl)
  have Z7 := Lib.hid (Z6.out.below hl)
  have L7 := Lib.hid (bel_then L6.out hl)
  clear C hl B6 T6 V6 R6 U6 X6 Y6 Z6 L6
  clear b0 b1 b2 t0 t1 t2 v0 v1 v2
  have hC := lit_ints [5] [5] 1 1 #[.int .i64 5] Av4 cv4 W7 X7.out rfl rfl rfl (by omega)
  rw [show decide (([5] : List Int) = [5]) = true by decide] at hC
  have C := Lib.hid hC
  clear hC
  have b0 := B7.out.cell 0
  have b1 := B7.out.cell 1
  have b2 := B7.out.cell 2
  have t0 := T7.out.cell 0
  have t1 := T7.out.cell 1
  have t2 := T7.out.cell 2
  have v0 := V7.out.cell 0
  have v1 := V7.out.cell 1
  have v2 := V7.out.cell 2
  go_wp2_with fail
  ((with_reducible refine C.out.mono ?_); rintro e W8 ⟨rfl, hl⟩)
  have B8 := Lib.hid (B7.out.step hl)
  have T8 := Lib.hid (T7.out.step hl)
  have V8 := Lib.hid (V7.out.step hl)
  have R8 := Lib.hid (R7.out.below hl)
  have U8 := Lib.hid (U7.out.below hl)
  have X8 := Lib.hid (X7.out.below hl)
  have Y8 := Lib.hid (Y7.out.below hl)
  have Z8 := Lib.hid (Z7.out.below hl)
  have L8 := Lib.hid (bel_then L7.out hl)
  clear C hl B7 T7 V7 R7 U7 X7 Y7 Z7 L7
  clear b0 b1 b2 t0 t1 t2 v0 v1 v2
  have hC := good_calls (some ⟨w.heap.size, 0, none⟩) 2 [3, 5] 8 9 W8 R8.out (by decide)
  rw [show aGood [3, 5] 8 9 = true by decide, show (([3, 5] : List Int).length) = 2 from rfl] at hC
  have C := Lib.hid hC
  clear hC
  have b0 := B8.out.cell 0
  have b1 := B8.out.cell 1
  have b2 := B8.out.cell 2
  have t0 := T8.out.cell 0
  have t1 := T8.out.cell 1
  have t2 := T8.out.cell 2
  have v0 := V8.out.cell 0
  have v1 := V8.out.cell 1
  have v2 := V8.out.cell 2
  go_wp2_with fail
  ((with_reducible refine C.out.mono ?_); rintro e W9 ⟨rfl, hl⟩)
  have L9 := Lib.hid (bel_then L8.out hl)
  clear hl
  have hC := good_calls none 0 [] 1 9 W9 ⟨fun j hj => absurd hj (by simp), fun _ => ⟨rfl, rfl⟩, fun a ha => by cases ha⟩ (by decide)
  rw [show aGood [] 1 9 = false by decide, show (([] : List Int).length) = 0 from rfl] at hC
  have C := Lib.hid hC
  clear hC
  go_wp2_with fail
  ((with_reducible refine C.out.mono ?_); rintro e W10 ⟨rfl, hl⟩)
  have L10 := Lib.hid (bel_then L9.out hl)
  go_wp2_with fail
  go_ret
  exact ⟨rfl, L10.out⟩
end Go.Proofs.Ytgpnceaplakemaa.Hp
