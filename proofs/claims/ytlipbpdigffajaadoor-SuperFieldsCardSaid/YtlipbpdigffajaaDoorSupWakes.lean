/- What this text proves: the law's constant part answers true. -/
import Derived.Test.YtlipbpdigffajaaDoorSupLaw
namespace Go.Proofs.YtlipbpdigffajaaDoor.Sup
open Go Go.RowKit Go.Proofs.YtlipbpdigffajaaDoor.Base Go.Proofs.YtlipbpdigffajaaDoor.Ext

/-! ### The superblock of a superblock's page -/
theorem enc_drop (s : S6) (i : Nat) (hi : i < 6) : ((enc s).drop (off i)).take (wid i) = ((secH s).drop (off i)).take (wid i) := by
  have h : off i + wid i ≤ 60 := by
    have e : i = 0 ∨ i = 1 ∨ i = 2 ∨ i = 3 ∨ i = 4 ∨ i = 5 := by omega
    rcases e with rfl | rfl | rfl | rfl | rfl | rfl <;> decide
  unfold enc sec
  rw [List.append_assoc, List.drop_append_of_le_length (by rw [secH_length]; omega), List.take_append_of_le_length (by rw [List.length_drop, secH_length]; omega)]
theorem enc_field {s : S6} (h : goodB s = true) (i : Nat) (hi : i < 6) : fieldL (enc s) i = fld s i := by
  unfold fieldL
  rw [enc_drop s i hi, num_field h i hi]
  have := (fld_lt h i hi).1
  omega
theorem enc_fields {s : S6} (h : goodB s = true) : fields (enc s) = s := by
  unfold fields
  rw [enc_field h 0 (by omega), enc_field h 1 (by omega), enc_field h 2 (by omega), enc_field h 3 (by omega), enc_field h 4 (by omega), enc_field h 5 (by omega)]
  rfl
theorem enc_take (s : S6) : (enc s).take 64 = sec s := by
  unfold enc
  rw [List.take_append_of_le_length (by rw [sec_length]; omega), List.take_of_length_le (by rw [sec_length]; omega)]
theorem dec_enc {s : S6} (h : goodB s = true) : decB (enc s) = (s, true) := by
  unfold decB
  rw [enc_fields h, if_pos ⟨enc_length s, h, (enc_take s).symm⟩]
theorem enc_mark (s : S6) : (enc s).take 4 = [85, 77, 66, 49] := by
  unfold enc sec secH
  simp
theorem numL_rep (n : Nat) : numL (List.replicate n 0) = 0 := by
  induction n with
  | zero => rfl
  | succ n ih => rw [List.replicate_succ', numL_snoc, ih]; rfl
theorem field_page0 (i : Nat) : fieldL (pageL 0) i = 0 := by
  unfold fieldL pageL
  rw [List.drop_replicate, List.take_replicate, numL_rep]
  rfl
theorem dec_page0 : decB (pageL 0) = (Z6, false) := by
  have : fields (pageL 0) = Z6 := by
    unfold fields
    rw [field_page0, field_page0, field_page0, field_page0, field_page0, field_page0]
    rfl
  unfold decB
  rw [this, if_neg (fun h => absurd h.2.1 (by decide))]
theorem dec_nil : decB [] = (Z6, false) := by
  unfold decB
  rw [if_neg (by simp)]

def s0 : S6 := ⟨5, 4, 9, 3, 0, 2⟩
def t0 : S6 := ⟨6, 4, 9, 3, 0, 2⟩
set_option maxHeartbeats 3200000 in
theorem wakes_calls (w : World) (hG : Glob w) :
    Calls Tryd.prog 6 #[] w fun e w' => e = .returned (.bool true) ∧ Below w.heap.size w w' := by
  have gs : goodB s0 = true := by decide
  have gt : goodB t0 = true := by decide
  obtain ⟨A, hA⟩ : ∃ A, enc s0 = A := ⟨_, rfl⟩
  obtain ⟨B, hB⟩ : ∃ B, enc t0 = B := ⟨_, rfl⟩
  have EA : ∀ W, Glob W → Calls Tryd.prog 4 #[.agg #[.int .i64 5, .int .i64 4, .int .i64 9, .int .i64 3, .int .i64 0, .int .i64 2]] W fun e w' => e = .returned (.tuple #[.string (bs A), .bool true]) ∧ Below W.heap.size W w' := fun W hW => by
    have h := encode_calls s0 (by decide) (by decide) W hW
    rw [encB, if_pos gs, hA, gs] at h
    exact h
  have EB : ∀ W, Glob W → Calls Tryd.prog 4 #[.agg #[.int .i64 6, .int .i64 4, .int .i64 9, .int .i64 3, .int .i64 0, .int .i64 2]] W fun e w' => e = .returned (.tuple #[.string (bs B), .bool true]) ∧ Below W.heap.size W w' := fun W hW => by
    have h := encode_calls t0 (by decide) (by decide) W hW
    rw [encB, if_pos gt, hB, gt] at h
    exact h
  have EC : ∀ W, Glob W → Calls Tryd.prog 4 #[.agg #[.int .i64 5, .int .i64 4, .int .i64 9, .int .i64 9, .int .i64 0, .int .i64 2]] W fun e w' => e = .returned (.tuple #[.string (bs []), .bool false]) ∧ Below W.heap.size W w' := fun W hW => by
    have h := encode_calls ⟨5, 4, 9, 9, 0, 2⟩ (by decide) (by decide) W hW
    rw [encB, if_neg (by decide), show goodB ⟨5, 4, 9, 9, 0, 2⟩ = false by decide] at h
    exact h
  have dA : decB A = (⟨5, 4, 9, 3, 0, 2⟩, true) := by rw [← hA]; exact dec_enc gs
  have dB : decB B = (⟨6, 4, 9, 3, 0, 2⟩, true) := by rw [← hB]; exact dec_enc gt
  have C1 := fun W hW => choose_tt A B _ _ _ _ _ _ _ _ _ _ _ _ dA dB (by omega) W hW
  have C2 := fun W hW => choose_tf A (pageL 0) _ _ _ _ _ _ _ _ _ _ _ _ dA dec_page0 W hW
  have C3 : ∀ W, Glob W → Calls Tryd.prog 11 #[.string ⟨#[]⟩, .string (bs (pageL 0))] W fun e w' => e = .returned (.tuple #[.agg #[.int .i64 0, .int .i64 0, .int .i64 0, .int .i64 0, .int .i64 0, .int .i64 0], .int .i64 0, .bool false]) ∧ Below W.heap.size W w' := fun W hW => choose_ff [] (pageL 0) _ _ _ _ _ _ _ _ _ _ _ _ dec_nil dec_page0 W hW
  have F0 : ∀ W, Calls Tryd.prog 7 #[.int .u8 0] W fun e w' => e = .returned (.string (bs (pageL 0))) ∧ Below W.heap.size W w' := fun W => fill_calls 0 W
  have D1 : ∀ W, Glob W → Calls Tryd.prog 12 #[.string (bs A)] W fun e w' => e = .returned (.tuple #[.agg #[.int .i64 5, .int .i64 4, .int .i64 9, .int .i64 3, .int .i64 0, .int .i64 2], .bool true]) ∧ Below W.heap.size W w' := fun W hW => by
    have h := decode_calls A W hW
    rw [dA] at h
    exact h
  have G1 : ∀ W, Calls Tryd.prog 5 #[.agg #[.int .i64 5, .int .i64 4, .int .i64 9, .int .i64 3, .int .i64 0, .int .i64 2]] W fun e w' => e = .returned (.bool true) ∧ Below W.heap.size W w' := fun W => by
    have h := good_calls 5 4 9 3 0 2 (by omega) (by omega) W
    rw [show goodB ⟨5, 4, 9, 3, 0, 2⟩ = true by decide] at h
    exact h
  have lA : (bs A).size = 256 := by rw [bs_size, ← hA]; exact enc_length s0
  have mA : ((bs A).extract 0 4).toList = [85, 77, 66, 49] := by rw [bs_extract, bs_toList, ← hA]; exact enc_mark s0
  clear hA hB dA dB gs gt
  have EA := Lib.hid EA; have EB := Lib.hid EB; have EC := Lib.hid EC; have C1 := Lib.hid C1; have C2 := Lib.hid C2; have C3 := Lib.hid C3; have F0 := Lib.hid F0; have D1 := Lib.hid D1; have G1 := Lib.hid G1
  generalize pageL 0 = Z at *
  go_enter Tryd.func6, Tryd.ntmps6
  have B1 := Lib.hid ((Blk.new w 23 [.int .i64 5, .int .i64 4, .int .i64 9, .int .i64 3, .int .i64 0, .int .i64 2]).alloc (.cells #[.int .i64 6, .int .i64 4, .int .i64 9, .int .i64 3, .int .i64 0, .int .i64 2] 23))
  have B2 := Blk.new (w.alloc (.cells #[.int .i64 5, .int .i64 4, .int .i64 9, .int .i64 3, .int .i64 0, .int .i64 2] 23)) 23 [.int .i64 6, .int .i64 4, .int .i64 9, .int .i64 3, .int .i64 0, .int .i64 2]
  rw [World.size_alloc] at B2
  replace B2 := Lib.hid B2
  have HW := Lib.hid (bel_alloc (bel_alloc (Below.refl w.heap.size w) (.cells #[.int .i64 5, .int .i64 4, .int .i64 9, .int .i64 3, .int .i64 0, .int .i64 2] 23)) (.cells #[.int .i64 6, .int .i64 4, .int .i64 9, .int .i64 3, .int .i64 0, .int .i64 2] 23))
  go_wp2_with fail
  ((with_reducible refine (EA.out _ (hG.below HW.out)).mono ?_); rintro e w1 ⟨rfl, hb⟩)
  replace HW := Lib.hid (bel_then HW.out hb)
  replace B1 := Lib.hid (B1.out.step hb)
  replace B2 := Lib.hid (B2.out.step hb)
  clear hb
  have c0 := B2.out.cell 0; have c1 := B2.out.cell 1; have c2 := B2.out.cell 2; have c3 := B2.out.cell 3; have c4 := B2.out.cell 4; have c5 := B2.out.cell 5
  go_wp2_with fail
  clear c0 c1 c2 c3 c4 c5
  ((with_reducible refine (EB.out _ (hG.below HW.out)).mono ?_); rintro e w2 ⟨rfl, hb⟩)
  replace HW := Lib.hid (bel_then HW.out hb)
  replace B1 := Lib.hid (B1.out.step hb)
  replace B2 := Lib.hid (B2.out.step hb)
  clear hb
  go_wp2_with fail
  ((with_reducible refine (C1.out _ (hG.below HW.out)).mono ?_); rintro e w3 ⟨rfl, hb⟩)
  replace HW := Lib.hid (bel_then HW.out hb)
  replace B1 := Lib.hid (B1.out.step hb)
  replace B2 := Lib.hid (B2.out.step hb)
  clear hb
  have B3 := Lib.hid (Blk.new w3 23 [.int .i64 6, .int .i64 4, .int .i64 9, .int .i64 3, .int .i64 0, .int .i64 2])
  replace B1 := Lib.hid (B1.out.alloc (.cells #[.int .i64 6, .int .i64 4, .int .i64 9, .int .i64 3, .int .i64 0, .int .i64 2] 23))
  replace B2 := Lib.hid (B2.out.alloc (.cells #[.int .i64 6, .int .i64 4, .int .i64 9, .int .i64 3, .int .i64 0, .int .i64 2] 23))
  replace HW := Lib.hid (bel_alloc HW.out (.cells #[.int .i64 6, .int .i64 4, .int .i64 9, .int .i64 3, .int .i64 0, .int .i64 2] 23))
  go_wp2_with fail
  ((with_reducible refine (F0.out _).mono ?_); rintro e w4 ⟨rfl, hb⟩)
  replace HW := Lib.hid (bel_then HW.out hb)
  replace B1 := Lib.hid (B1.out.step hb)
  replace B2 := Lib.hid (B2.out.step hb)
  replace B3 := Lib.hid (B3.out.step hb)
  clear hb
  go_wp2_with fail
  ((with_reducible refine (C2.out _ (hG.below HW.out)).mono ?_); rintro e w5 ⟨rfl, hb⟩)
  replace HW := Lib.hid (bel_then HW.out hb)
  replace B1 := Lib.hid (B1.out.step hb)
  replace B2 := Lib.hid (B2.out.step hb)
  replace B3 := Lib.hid (B3.out.step hb)
  clear hb
  have B4 := Lib.hid (Blk.new w5 23 [.int .i64 5, .int .i64 4, .int .i64 9, .int .i64 3, .int .i64 0, .int .i64 2])
  replace B1 := Lib.hid (B1.out.alloc (.cells #[.int .i64 5, .int .i64 4, .int .i64 9, .int .i64 3, .int .i64 0, .int .i64 2] 23))
  replace B2 := Lib.hid (B2.out.alloc (.cells #[.int .i64 5, .int .i64 4, .int .i64 9, .int .i64 3, .int .i64 0, .int .i64 2] 23))
  replace B3 := Lib.hid (B3.out.alloc (.cells #[.int .i64 5, .int .i64 4, .int .i64 9, .int .i64 3, .int .i64 0, .int .i64 2] 23))
  replace HW := Lib.hid (bel_alloc HW.out (.cells #[.int .i64 5, .int .i64 4, .int .i64 9, .int .i64 3, .int .i64 0, .int .i64 2] 23))
  go_wp2_with fail
  ((with_reducible refine (F0.out _).mono ?_); rintro e w6 ⟨rfl, hb⟩)
  replace HW := Lib.hid (bel_then HW.out hb)
  replace B1 := Lib.hid (B1.out.step hb)
  replace B2 := Lib.hid (B2.out.step hb)
  replace B3 := Lib.hid (B3.out.step hb)
  replace B4 := Lib.hid (B4.out.step hb)
  clear hb
  go_wp2_with fail
  ((with_reducible refine (C3.out _ (hG.below HW.out)).mono ?_); rintro e w7 ⟨rfl, hb⟩)
  replace HW := Lib.hid (bel_then HW.out hb)
  replace B1 := Lib.hid (B1.out.step hb)
  replace B2 := Lib.hid (B2.out.step hb)
  replace B3 := Lib.hid (B3.out.step hb)
  replace B4 := Lib.hid (B4.out.step hb)
  clear hb
  replace B1 := Lib.hid (B1.out.alloc (.cells #[.int .i64 0, .int .i64 0, .int .i64 0, .int .i64 0, .int .i64 0, .int .i64 0] 23))
  replace B2 := Lib.hid (B2.out.alloc (.cells #[.int .i64 0, .int .i64 0, .int .i64 0, .int .i64 0, .int .i64 0, .int .i64 0] 23))
  replace B3 := Lib.hid (B3.out.alloc (.cells #[.int .i64 0, .int .i64 0, .int .i64 0, .int .i64 0, .int .i64 0, .int .i64 0] 23))
  replace B4 := Lib.hid (B4.out.alloc (.cells #[.int .i64 0, .int .i64 0, .int .i64 0, .int .i64 0, .int .i64 0, .int .i64 0] 23))
  replace HW := Lib.hid (bel_alloc HW.out (.cells #[.int .i64 0, .int .i64 0, .int .i64 0, .int .i64 0, .int .i64 0, .int .i64 0] 23))
  go_wp2_with fail
  ((with_reducible refine (D1.out _ (hG.below HW.out)).mono ?_); rintro e w8 ⟨rfl, hb⟩)
  replace HW := Lib.hid (bel_then HW.out hb)
  replace B1 := Lib.hid (B1.out.step hb)
  replace B2 := Lib.hid (B2.out.step hb)
  replace B3 := Lib.hid (B3.out.step hb)
  replace B4 := Lib.hid (B4.out.step hb)
  clear hb
  have B5 := Lib.hid (Blk.new w8 23 [.int .i64 5, .int .i64 4, .int .i64 9, .int .i64 3, .int .i64 0, .int .i64 2])
  replace B1 := Lib.hid (B1.out.alloc (.cells #[.int .i64 5, .int .i64 4, .int .i64 9, .int .i64 3, .int .i64 0, .int .i64 2] 23))
  replace B2 := Lib.hid (B2.out.alloc (.cells #[.int .i64 5, .int .i64 4, .int .i64 9, .int .i64 3, .int .i64 0, .int .i64 2] 23))
  replace B3 := Lib.hid (B3.out.alloc (.cells #[.int .i64 5, .int .i64 4, .int .i64 9, .int .i64 3, .int .i64 0, .int .i64 2] 23))
  replace B4 := Lib.hid (B4.out.alloc (.cells #[.int .i64 5, .int .i64 4, .int .i64 9, .int .i64 3, .int .i64 0, .int .i64 2] 23))
  replace HW := Lib.hid (bel_alloc HW.out (.cells #[.int .i64 5, .int .i64 4, .int .i64 9, .int .i64 3, .int .i64 0, .int .i64 2] 23))
  go_wp2_with fail
  ((with_reducible refine (EC.out _ (hG.below HW.out)).mono ?_); rintro e w9 ⟨rfl, hb⟩)
  replace HW := Lib.hid (bel_then HW.out hb)
  replace B1 := Lib.hid (B1.out.step hb)
  replace B2 := Lib.hid (B2.out.step hb)
  replace B3 := Lib.hid (B3.out.step hb)
  replace B4 := Lib.hid (B4.out.step hb)
  replace B5 := Lib.hid (B5.out.step hb)
  clear hb
  have a0 := B1.out.cell 0; have a1 := B1.out.cell 1; have a2 := B1.out.cell 2; have a3 := B1.out.cell 3; have a4 := B1.out.cell 4; have a5 := B1.out.cell 5
  have b0 := B2.out.cell 0; have b1 := B2.out.cell 1; have b2 := B2.out.cell 2; have b3 := B2.out.cell 3; have b4 := B2.out.cell 4; have b5 := B2.out.cell 5
  have c0 := B3.out.cell 0; have c1 := B3.out.cell 1; have c2 := B3.out.cell 2; have c3 := B3.out.cell 3; have c4 := B3.out.cell 4; have c5 := B3.out.cell 5
  have d0 := B4.out.cell 0; have d1 := B4.out.cell 1; have d2 := B4.out.cell 2; have d3 := B4.out.cell 3; have d4 := B4.out.cell 4; have d5 := B4.out.cell 5
  have e0 := B5.out.cell 0; have e1 := B5.out.cell 1; have e2 := B5.out.cell 2; have e3 := B5.out.cell 3; have e4 := B5.out.cell 4; have e5 := B5.out.cell 5
  go_wp2_with fail
  ((with_reducible refine (G1.out _).mono ?_); rintro e w10 ⟨rfl, hb⟩)
  go_wp2_with fail
  go_ret
  exact ⟨rfl, bel_then HW.out hb⟩
end Go.Proofs.YtlipbpdigffajaaDoor.Sup
