/- What this text proves: the law's page of one byte, and what the law's constant part comes to. -/
import Derived.Test.YtlipbpdigffajaaDoorSupDec
namespace Go.Proofs.YtlipbpdigffajaaDoor.Sup
open Go Go.RowKit Go.Proofs.YtlipbpdigffajaaDoor.Base Go.Proofs.YtlipbpdigffajaaDoor.Ext

/-! ### Fill: a page of one byte -/
def pageL (v : UInt8) : List UInt8 := List.replicate 256 v
theorem pageL_length (v : UInt8) : (pageL v).length = 256 := List.length_replicate
theorem map_const_range (n : Nat) (c : Int) (v : UInt8) (h : UInt8.ofNat c.toNat = v) : ((List.range n).map (fun _ => c)).map (fun n => UInt8.ofNat n.toNat) = List.replicate n v := by
  apply List.ext_getElem <;> simp [h]
theorem pageL_row (v : UInt8) : strOfNums ((List.range 256).map (fun _ => (v.toNat : Int))) = bs (pageL v) := by
  rw [strOfNums_bs, map_const_range 256 _ v (by simp)]
  rfl
set_option maxHeartbeats 800000 in
set_option maxRecDepth 100000 in
theorem fill_calls (v : UInt8) (w : World) :
    Calls Tryd.prog 7 #[.int .u8 v.toNat] w fun e w' => e = .returned (.string (bs (pageL v))) ∧ Below w.heap.size w w' := by
  obtain ⟨i0, hi, hz0, hz1, hz2⟩ := info_parts info5
  have hmk := run_make (P := Tryd.prog) w 39 5 i0 _ Tryd.underlying39 hi hz0 .i64 .i64 256 256 (by omega) (by omega) (by rw [hz2]; omega) (by omega)
  rw [hz1, Nat.mul_one] at hmk
  have hv := pageL_row v
  obtain ⟨f, hf⟩ : ∃ f : Nat → Int, (fun _ => (v.toNat : Int)) = f := ⟨_, rfl⟩
  have HF := Lib.hid (fun k => show f k = (v.toNat : Int) by rw [← hf])
  rw [hf, ← row_full] at hv
  have HV := Lib.hid hv
  clear hf hv
  have HB := Lib.hid (bel_alloc (Below.refl w.heap.size w) (.cells (madeCells #[Value.int .u8 0] 256) 5))
  have hb := Blk.new w 5 (byt (row f 256 0))
  rw [row_zero, ← madeCells_u8, ← row_zero f] at hb
  have HK := Lib.hid hb
  clear hb
  go_enter Tryd.func7, Tryd.ntmps7
  go_wp2
  go_loopw [4] (fun i wr => ∃ k : Nat, k ≤ 256 ∧ i = .int .i64 k ∧ Blk wr w.heap.size 5 (byt (row f 256 k)) ∧ Below w.heap.size w wr) (fun i _ => 256 - (intOf i).toNat)
  case atStart => exact ⟨0, Nat.zero_le _, rfl, HK.out, HB.out⟩
  case round =>
    obtain ⟨k, hk, rfl, hb, hB⟩ := hrel
    clear HB HK
    by_cases hlt : k < 256
    · have hc := hb.cell k
      rw [byt_get _ _ (by rw [row_length]; exact hlt)] at hc
      have hf := hb.frozen k
      go_wp2
      rw [← HF.out k]
      exact ⟨⟨k + 1, by omega, by go_num, by rw [← byt_row_set]; exact hb.set_ k _, bel_set hB (Nat.le_refl _) _ _⟩, by simp [intOf]; omega⟩
    · obtain rfl : k = 256 := by omega
      have hs := hb.string (P := Tryd.prog) Tryd.underlying39 Tryd.underlying5 Tryd.underlying9 256 256 (row_length _ _ _)
      rw [HV.out] at hs
      go_wp2
      go_ret
      exact ⟨rfl, hB⟩

/-! ### Choose -/
set_option maxHeartbeats 1600000 in
theorem choose_ff (a b : List UInt8) (x0 x1 x2 x3 x4 x5 y0 y1 y2 y3 y4 y5 : Int) (ha : decB a = (⟨x0, x1, x2, x3, x4, x5⟩, false)) (hb : decB b = (⟨y0, y1, y2, y3, y4, y5⟩, false)) (w : World) (hG : Glob w) :
    Calls Tryd.prog 11 #[.string (bs a), .string (bs b)] w fun e w' => e = .returned (.tuple #[.agg #[.int .i64 0, .int .i64 0, .int .i64 0, .int .i64 0, .int .i64 0, .int .i64 0], .int .i64 0, .bool false]) ∧ Below w.heap.size w w' := by
  have hA := fun W hW => decode_calls a W hW
  have hB := fun W hW => decode_calls b W hW
  rw [ha] at hA
  rw [hb] at hB
  unfold S6.val at hA hB
  simp only at hA hB
  have HA := Lib.hid hA
  have HB := Lib.hid hB
  clear hA hB ha hb
  have h0 := Lib.hid (Blk.new w 23 [.int .i64 0, .int .i64 0, .int .i64 0, .int .i64 0, .int .i64 0, .int .i64 0])
  go_enter Tryd.func11, Tryd.ntmps11
  go_wp2_with fail
  ((with_reducible refine (HA.out _ (hG.below (bel_alloc (Below.refl _ _) _))).mono ?_); rintro e w1 ⟨rfl, hb1⟩)
  have hW1 := Lib.hid (bel_then (bel_alloc (Below.refl w.heap.size w) _) hb1)
  have h1 := Lib.hid (h0.out.below hb1 h0.out.lt)
  clear hb1 h0
  go_wp2_with fail
  ((with_reducible refine (HB.out _ (hG.below (bel_alloc hW1.out _))).mono ?_); rintro e w2 ⟨rfl, hb2⟩)
  have hW2 := Lib.hid (bel_then (bel_alloc hW1.out _) hb2)
  have g1 := Lib.hid ((Blk.new w1 23 [.int .i64 x0, .int .i64 x1, .int .i64 x2, .int .i64 x3, .int .i64 x4, .int .i64 x5]).below hb2 (by simp))
  have h2 := Lib.hid ((h1.out.alloc _).below hb2 (Nat.lt_of_lt_of_le h1.out.lt (by simp)))
  clear hb2 h1 hW1 HA HB
  have B1 := g1.out.alloc (.cells #[.int .i64 y0, .int .i64 y1, .int .i64 y2, .int .i64 y3, .int .i64 y4, .int .i64 y5] 23)
  have B2 := Blk.new w2 23 [.int .i64 y0, .int .i64 y1, .int .i64 y2, .int .i64 y3, .int .i64 y4, .int .i64 y5]
  have B0 := h2.out.alloc (.cells #[.int .i64 y0, .int .i64 y1, .int .i64 y2, .int .i64 y3, .int .i64 y4, .int .i64 y5] 23)
  have BB := Lib.hid (bel_alloc hW2.out (.cells #[.int .i64 y0, .int .i64 y1, .int .i64 y2, .int .i64 y3, .int .i64 y4, .int .i64 y5] 23))
  clear hW2 h2 g1
  have c0 := B1.cell 0; have c1 := B1.cell 1; have c2 := B1.cell 2; have c3 := B1.cell 3; have c4 := B1.cell 4; have c5 := B1.cell 5
  have d0 := B2.cell 0; have d1 := B2.cell 1; have d2 := B2.cell 2; have d3 := B2.cell 3; have d4 := B2.cell 4; have d5 := B2.cell 5
  have z0 := B0.cell 0; have z1 := B0.cell 1; have z2 := B0.cell 2; have z3 := B0.cell 3; have z4 := B0.cell 4; have z5 := B0.cell 5
  have f0 := B0.frozen 0; have f1 := B0.frozen 1; have f2 := B0.frozen 2; have f3 := B0.frozen 3; have f4 := B0.frozen 4; have f5 := B0.frozen 5
  go_wp2
  have hk3 := blk_set6 B0 (.int .i64 0) (.int .i64 0) (.int .i64 0) (.int .i64 0) (.int .i64 0) (.int .i64 0)
  have q0 := hk3.cell 0; have q1 := hk3.cell 1; have q2 := hk3.cell 2; have q3 := hk3.cell 3; have q4 := hk3.cell 4; have q5 := hk3.cell 5
  unfold wset6 at q0 q1 q2 q3 q4 q5
  refine bodyPost_ret (v := .tuple #[.agg #[.int .i64 0, .int .i64 0, .int .i64 0, .int .i64 0, .int .i64 0, .int .i64 0], .int .i64 0, .bool false]) (by simp [results, Tryd.results11, go_sem, q0, q1, q2, q3, q4, q5]) rfl ⟨rfl, bel_set6 BB.out (Nat.le_refl _) _ _ _ _ _ _⟩

set_option maxHeartbeats 1600000 in
theorem choose_tf (a b : List UInt8) (x0 x1 x2 x3 x4 x5 y0 y1 y2 y3 y4 y5 : Int) (ha : decB a = (⟨x0, x1, x2, x3, x4, x5⟩, true)) (hb : decB b = (⟨y0, y1, y2, y3, y4, y5⟩, false)) (w : World) (hG : Glob w) :
    Calls Tryd.prog 11 #[.string (bs a), .string (bs b)] w fun e w' => e = .returned (.tuple #[.agg #[.int .i64 x0, .int .i64 x1, .int .i64 x2, .int .i64 x3, .int .i64 x4, .int .i64 x5], .int .i64 0, .bool true]) ∧ Below w.heap.size w w' := by
  have hA := fun W hW => decode_calls a W hW
  have hB := fun W hW => decode_calls b W hW
  rw [ha] at hA
  rw [hb] at hB
  unfold S6.val at hA hB
  simp only at hA hB
  have HA := Lib.hid hA
  have HB := Lib.hid hB
  clear hA hB ha hb
  have h0 := Lib.hid (Blk.new w 23 [.int .i64 0, .int .i64 0, .int .i64 0, .int .i64 0, .int .i64 0, .int .i64 0])
  go_enter Tryd.func11, Tryd.ntmps11
  go_wp2_with fail
  ((with_reducible refine (HA.out _ (hG.below (bel_alloc (Below.refl _ _) _))).mono ?_); rintro e w1 ⟨rfl, hb1⟩)
  have hW1 := Lib.hid (bel_then (bel_alloc (Below.refl w.heap.size w) _) hb1)
  have h1 := Lib.hid (h0.out.below hb1 h0.out.lt)
  clear hb1 h0
  go_wp2_with fail
  ((with_reducible refine (HB.out _ (hG.below (bel_alloc hW1.out _))).mono ?_); rintro e w2 ⟨rfl, hb2⟩)
  have hW2 := Lib.hid (bel_then (bel_alloc hW1.out _) hb2)
  have g1 := Lib.hid ((Blk.new w1 23 [.int .i64 x0, .int .i64 x1, .int .i64 x2, .int .i64 x3, .int .i64 x4, .int .i64 x5]).below hb2 (by simp))
  have h2 := Lib.hid ((h1.out.alloc _).below hb2 (Nat.lt_of_lt_of_le h1.out.lt (by simp)))
  clear hb2 h1 hW1 HA HB
  have B1 := g1.out.alloc (.cells #[.int .i64 y0, .int .i64 y1, .int .i64 y2, .int .i64 y3, .int .i64 y4, .int .i64 y5] 23)
  have B2 := Blk.new w2 23 [.int .i64 y0, .int .i64 y1, .int .i64 y2, .int .i64 y3, .int .i64 y4, .int .i64 y5]
  have B0 := h2.out.alloc (.cells #[.int .i64 y0, .int .i64 y1, .int .i64 y2, .int .i64 y3, .int .i64 y4, .int .i64 y5] 23)
  have BB := Lib.hid (bel_alloc hW2.out (.cells #[.int .i64 y0, .int .i64 y1, .int .i64 y2, .int .i64 y3, .int .i64 y4, .int .i64 y5] 23))
  clear hW2 h2 g1
  have c0 := B1.cell 0; have c1 := B1.cell 1; have c2 := B1.cell 2; have c3 := B1.cell 3; have c4 := B1.cell 4; have c5 := B1.cell 5
  have d0 := B2.cell 0; have d1 := B2.cell 1; have d2 := B2.cell 2; have d3 := B2.cell 3; have d4 := B2.cell 4; have d5 := B2.cell 5
  have z0 := B0.cell 0; have z1 := B0.cell 1; have z2 := B0.cell 2; have z3 := B0.cell 3; have z4 := B0.cell 4; have z5 := B0.cell 5
  have f0 := B0.frozen 0; have f1 := B0.frozen 1; have f2 := B0.frozen 2; have f3 := B0.frozen 3; have f4 := B0.frozen 4; have f5 := B0.frozen 5
  go_wp2
  have hk3 := blk_set6 B0 (.int .i64 x0) (.int .i64 x1) (.int .i64 x2) (.int .i64 x3) (.int .i64 x4) (.int .i64 x5)
  have q0 := hk3.cell 0; have q1 := hk3.cell 1; have q2 := hk3.cell 2; have q3 := hk3.cell 3; have q4 := hk3.cell 4; have q5 := hk3.cell 5
  unfold wset6 at q0 q1 q2 q3 q4 q5
  refine bodyPost_ret (v := .tuple #[.agg #[.int .i64 x0, .int .i64 x1, .int .i64 x2, .int .i64 x3, .int .i64 x4, .int .i64 x5], .int .i64 0, .bool true]) (by simp [results, Tryd.results11, go_sem, q0, q1, q2, q3, q4, q5]) rfl ⟨rfl, bel_set6 BB.out (Nat.le_refl _) _ _ _ _ _ _⟩

set_option maxHeartbeats 1600000 in
theorem choose_tt (a b : List UInt8) (x0 x1 x2 x3 x4 x5 y0 y1 y2 y3 y4 y5 : Int) (ha : decB a = (⟨x0, x1, x2, x3, x4, x5⟩, true)) (hb : decB b = (⟨y0, y1, y2, y3, y4, y5⟩, true)) (hq : x0 < y0) (w : World) (hG : Glob w) :
    Calls Tryd.prog 11 #[.string (bs a), .string (bs b)] w fun e w' => e = .returned (.tuple #[.agg #[.int .i64 y0, .int .i64 y1, .int .i64 y2, .int .i64 y3, .int .i64 y4, .int .i64 y5], .int .i64 1, .bool true]) ∧ Below w.heap.size w w' := by
  have hA := fun W hW => decode_calls a W hW
  have hB := fun W hW => decode_calls b W hW
  rw [ha] at hA
  rw [hb] at hB
  unfold S6.val at hA hB
  simp only at hA hB
  have HA := Lib.hid hA
  have HB := Lib.hid hB
  clear hA hB ha hb
  have e1 : (y0 == x0) = false := beq_eq_false_iff_ne.2 (by omega)
  have e2 : decide (x0 < y0) = true := decide_eq_true hq
  clear hq
  have h0 := Lib.hid (Blk.new w 23 [.int .i64 0, .int .i64 0, .int .i64 0, .int .i64 0, .int .i64 0, .int .i64 0])
  go_enter Tryd.func11, Tryd.ntmps11
  go_wp2_with fail
  ((with_reducible refine (HA.out _ (hG.below (bel_alloc (Below.refl _ _) _))).mono ?_); rintro e w1 ⟨rfl, hb1⟩)
  have hW1 := Lib.hid (bel_then (bel_alloc (Below.refl w.heap.size w) _) hb1)
  have h1 := Lib.hid (h0.out.below hb1 h0.out.lt)
  clear hb1 h0
  go_wp2_with fail
  ((with_reducible refine (HB.out _ (hG.below (bel_alloc hW1.out _))).mono ?_); rintro e w2 ⟨rfl, hb2⟩)
  have hW2 := Lib.hid (bel_then (bel_alloc hW1.out _) hb2)
  have g1 := Lib.hid ((Blk.new w1 23 [.int .i64 x0, .int .i64 x1, .int .i64 x2, .int .i64 x3, .int .i64 x4, .int .i64 x5]).below hb2 (by simp))
  have h2 := Lib.hid ((h1.out.alloc _).below hb2 (Nat.lt_of_lt_of_le h1.out.lt (by simp)))
  clear hb2 h1 hW1 HA HB
  have B1 := g1.out.alloc (.cells #[.int .i64 y0, .int .i64 y1, .int .i64 y2, .int .i64 y3, .int .i64 y4, .int .i64 y5] 23)
  have B2 := Blk.new w2 23 [.int .i64 y0, .int .i64 y1, .int .i64 y2, .int .i64 y3, .int .i64 y4, .int .i64 y5]
  have B0 := h2.out.alloc (.cells #[.int .i64 y0, .int .i64 y1, .int .i64 y2, .int .i64 y3, .int .i64 y4, .int .i64 y5] 23)
  have BB := Lib.hid (bel_alloc hW2.out (.cells #[.int .i64 y0, .int .i64 y1, .int .i64 y2, .int .i64 y3, .int .i64 y4, .int .i64 y5] 23))
  clear hW2 h2 g1
  have c0 := B1.cell 0; have c1 := B1.cell 1; have c2 := B1.cell 2; have c3 := B1.cell 3; have c4 := B1.cell 4; have c5 := B1.cell 5
  have d0 := B2.cell 0; have d1 := B2.cell 1; have d2 := B2.cell 2; have d3 := B2.cell 3; have d4 := B2.cell 4; have d5 := B2.cell 5
  have z0 := B0.cell 0; have z1 := B0.cell 1; have z2 := B0.cell 2; have z3 := B0.cell 3; have z4 := B0.cell 4; have z5 := B0.cell 5
  have f0 := B0.frozen 0; have f1 := B0.frozen 1; have f2 := B0.frozen 2; have f3 := B0.frozen 3; have f4 := B0.frozen 4; have f5 := B0.frozen 5
  go_wp2
  have hk3 := blk_set6 B0 (.int .i64 y0) (.int .i64 y1) (.int .i64 y2) (.int .i64 y3) (.int .i64 y4) (.int .i64 y5)
  have q0 := hk3.cell 0; have q1 := hk3.cell 1; have q2 := hk3.cell 2; have q3 := hk3.cell 3; have q4 := hk3.cell 4; have q5 := hk3.cell 5
  unfold wset6 at q0 q1 q2 q3 q4 q5
  refine bodyPost_ret (v := .tuple #[.agg #[.int .i64 y0, .int .i64 y1, .int .i64 y2, .int .i64 y3, .int .i64 y4, .int .i64 y5], .int .i64 1, .bool true]) (by simp [results, Tryd.results11, go_sem, q0, q1, q2, q3, q4, q5]) rfl ⟨rfl, bel_set6 BB.out (Nat.le_refl _) _ _ _ _ _ _⟩
end Go.Proofs.YtlipbpdigffajaaDoor.Sup
