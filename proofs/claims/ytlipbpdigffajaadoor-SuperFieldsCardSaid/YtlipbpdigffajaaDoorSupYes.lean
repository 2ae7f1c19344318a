/- What this text proves: the law SuperFields answers true at two superblocks that may be. -/
import Derived.Test.YtlipbpdigffajaaDoorSupMain
namespace Go.Proofs.YtlipbpdigffajaaDoor.Sup
open Go Go.RowKit Go.Proofs.YtlipbpdigffajaaDoor.Base Go.Proofs.YtlipbpdigffajaaDoor.Ext

theorem enc_drop64 (s : S6) : (enc s).drop 64 = zs 192 := by
  unfold enc
  rw [List.drop_append_of_le_length (by rw [sec_length]; omega), List.drop_of_length_le (by rw [sec_length]; omega), List.nil_append]
theorem page_drop64 : (pageL 0).drop 64 = zs 192 := by
  unfold pageL zs
  rw [List.drop_replicate]
theorem enc_get (s : S6) (j : Nat) (h : j < 60) : (enc s)[j]? = (secH s)[j]? := by
  unfold enc sec
  rw [List.append_assoc, List.getElem?_append_left (by rw [secH_length]; exact h)]
theorem enc_zero (s : S6) (j : Nat) (h1 : 19 ≤ j) (h2 : j < 60) : (enc s)[j]? = some 0 := by
  rw [enc_get s j h2, secH_zero s j h1 h2]
theorem enc_eq {s t : S6} (hs : goodB s = true) (ht : goodB t = true) : (enc s).take 64 = (enc t).take 64 ↔ s = t := by
  constructor
  · intro h
    have h2 := dec_enc hs
    have h3 := dec_enc ht
    have e : enc s = enc t := by
      unfold enc
      rw [← enc_take s, h, enc_take t]
    rw [e, h3] at h2
    exact (Prod.mk.inj h2).1.symm
  · rintro rfl; rfl

theorem wid_le (n : Nat) : wid n ≤ 4 := by
  by_cases h : n < 6
  · have e : n = 0 ∨ n = 1 ∨ n = 2 ∨ n = 3 ∨ n = 4 ∨ n = 5 := by omega
    rcases e with rfl | rfl | rfl | rfl | rfl | rfl <;> decide
  · unfold wid
    rw [List.getD_eq_getElem?_getD, List.getElem?_eq_none (by simp; omega)]
    decide
theorem off_le (n : Nat) (h : n < 6) : off n + wid n ≤ 19 := by
  have e : n = 0 ∨ n = 1 ∨ n = 2 ∨ n = 3 ∨ n = 4 ∨ n = 5 := by omega
  rcases e with rfl | rfl | rfl | rfl | rfl | rfl <;> decide
theorem off_succ (n : Nat) (h : n < 6) : off (n + 1) = off n + wid n := by
  have e : n = 0 ∨ n = 1 ∨ n = 2 ∨ n = 3 ∨ n = 4 ∨ n = 5 := by omega
  rcases e with rfl | rfl | rfl | rfl | rfl | rfl <;> decide
theorem wids (i : Nat) (h : i < 6) : [Value.int .i64 4, .int .i64 4, .int .i64 2, .int .i64 2, .int .i64 2, .int .i64 1][i]? = some (.int .i64 (wid i)) := by
  have e : i = 0 ∨ i = 1 ∨ i = 2 ∨ i = 3 ∨ i = 4 ∨ i = 5 := by omega
  rcases e with rfl | rfl | rfl | rfl | rfl | rfl <;> rfl
theorem eq23 (d : Nat) (w : World) (x0 x1 x2 x3 x4 x5 y0 y1 y2 y3 y4 y5 : Int) :
    (Op.equalIn (d + 2) 23 (.agg #[.int .i64 x0, .int .i64 x1, .int .i64 x2, .int .i64 x3, .int .i64 x4, .int .i64 x5]) (.agg #[.int .i64 y0, .int .i64 y1, .int .i64 y2, .int .i64 y3, .int .i64 y4, .int .i64 y5])).run Tryd.prog w = .ok (x0 == y0 && (x1 == y1 && (x2 == y2 && (x3 == y3 && (x4 == y4 && x5 == y5))))) w := by
  refine eqs_of Tryd.underlying23 (by kernel_rfl) ?_
  refine eqs_cons (by decide) (by go_simp; rfl) (by go_simp; rfl) (by go_simp) ?_
  refine eqs_cons (by decide) (by go_simp; rfl) (by go_simp; rfl) (by go_simp) ?_
  refine eqs_cons (by decide) (by go_simp; rfl) (by go_simp; rfl) (by go_simp) ?_
  refine eqs_cons (by decide) (by go_simp; rfl) (by go_simp; rfl) (by go_simp) ?_
  refine eqs_cons (by decide) (by go_simp; rfl) (by go_simp; rfl) (by go_simp) ?_
  exact eqs_one (by decide) (by go_simp; rfl) (by go_simp; rfl) (by go_simp)
attribute [local go_sem high] eq23
set_option maxRecDepth 100000 in
set_option maxHeartbeats 3200000 in
theorem law_yes (s t : S6) (hs : goodB s = true) (ht : goodB t = true) (w : World) (hG : Glob w) :
    Calls Tryd.prog 3 #[s.val, t.val] w fun e w' => e = .returned (.bool true) ∧ Below w.heap.size w w' := by
  have hls := good_range hs
  have hlt := good_range ht
  have EA := fun W hW => encode_calls s (by omega) (by omega) W hW
  have EB := fun W hW => encode_calls t (by omega) (by omega) W hW
  rw [encB, if_pos hs, hs] at EA
  rw [encB, if_pos ht, ht] at EB
  have lA := enc_length s
  have lB := enc_length t
  have dA : ((bs (enc s)).extract 64 256).toList = zs 192 := by rw [bs_extract, bs_toList, enc_drop64]; exact List.take_of_length_le (by rw [zs_length]; omega)
  have dZ : ((bs (pageL 0)).extract 64 256).toList = zs 192 := by rw [bs_extract, bs_toList, page_drop64]; exact List.take_of_length_le (by rw [zs_length]; omega)
  have zZ : (bs (pageL 0)).size = 256 := by rw [bs_size, pageL_length]
  have zero := fun j h1 h2 => enc_zero s j h1 h2
  have num := fun i hi => (show numL (((enc s).drop (off i)).take (wid i)) = (fld s i).toNat by rw [enc_drop s i hi, num_field hs i hi])
  have fpos := fun i hi => (fld_lt hs i hi).1
  have F0 : ∀ W, Calls Tryd.prog 7 #[.int .u8 0] W fun e w' => e = .returned (.string (bs (pageL 0))) ∧ Below W.heap.size W w' := fun W => fill_calls 0 W
  obtain ⟨a0, a1, a2, a3, a4, a5⟩ := s
  obtain ⟨b0, b1, b2, b3, b4, b5⟩ := t
  have hE : (((bs (enc ⟨a0, a1, a2, a3, a4, a5⟩)).extract 0 64).toList == ((bs (enc ⟨b0, b1, b2, b3, b4, b5⟩)).extract 0 64).toList) = (a0 == b0 && (a1 == b1 && (a2 == b2 && (a3 == b3 && (a4 == b4 && a5 == b5))))) := by
    rw [bs_extract, bs_extract, bs_toList, bs_toList, Bool.eq_iff_iff, beq_iff_eq]
    refine (enc_eq hs ht).trans ?_
    simp
  have flds : ∀ i, i < 6 → [Value.int .i64 a0, .int .i64 a1, .int .i64 a2, .int .i64 a3, .int .i64 a4, .int .i64 a5][i]? = some (.int .i64 (fld ⟨a0, a1, a2, a3, a4, a5⟩ i)) := by
    intro i hi
    have e : i = 0 ∨ i = 1 ∨ i = 2 ∨ i = 3 ∨ i = 4 ∨ i = 5 := by omega
    rcases e with rfl | rfl | rfl | rfl | rfl | rfl <;> rfl
  clear hls hlt hs ht
  unfold S6.val at EA EB ⊢
  simp only at EA EB ⊢
  generalize enc ⟨a0, a1, a2, a3, a4, a5⟩ = A at *
  generalize enc ⟨b0, b1, b2, b3, b4, b5⟩ = B at *
  generalize fld ⟨a0, a1, a2, a3, a4, a5⟩ = fd at *
  generalize pageL 0 = Z at *
  have EA := Lib.hid EA; have EB := Lib.hid EB; have F0 := Lib.hid F0; have zero := Lib.hid zero; have num := Lib.hid num; have fpos := Lib.hid fpos; have flds := Lib.hid flds
  have zA : (bs A).size = 256 := by rw [bs_size, lA]
  have zB : (bs B).size = 256 := by rw [bs_size, lB]
  have lA := Lib.hid lA
  clear lB
  have B1 := Lib.hid ((Blk.new w 23 [.int .i64 a0, .int .i64 a1, .int .i64 a2, .int .i64 a3, .int .i64 a4, .int .i64 a5]).alloc (.cells #[.int .i64 b0, .int .i64 b1, .int .i64 b2, .int .i64 b3, .int .i64 b4, .int .i64 b5] 23))
  have B2 := Blk.new (w.alloc (.cells #[.int .i64 a0, .int .i64 a1, .int .i64 a2, .int .i64 a3, .int .i64 a4, .int .i64 a5] 23)) 23 [.int .i64 b0, .int .i64 b1, .int .i64 b2, .int .i64 b3, .int .i64 b4, .int .i64 b5]
  rw [World.size_alloc] at B2
  replace B2 := Lib.hid B2
  have HW := Lib.hid (bel_alloc (bel_alloc (Below.refl w.heap.size w) (.cells #[.int .i64 a0, .int .i64 a1, .int .i64 a2, .int .i64 a3, .int .i64 a4, .int .i64 a5] 23)) (.cells #[.int .i64 b0, .int .i64 b1, .int .i64 b2, .int .i64 b3, .int .i64 b4, .int .i64 b5] 23))
  go_enter Tryd.func3, Tryd.ntmps3
  go_wp2_with fail
  ((with_reducible refine (EA.out _ (hG.below HW.out)).mono ?_); rintro e w1 ⟨rfl, hb⟩)
  replace HW := Lib.hid (bel_then HW.out hb)
  replace B1 := Lib.hid (B1.out.step hb)
  replace B2 := Lib.hid (B2.out.step hb)
  clear hb
  have c0 := B2.out.cell 0; have c1 := B2.out.cell 1; have c2 := B2.out.cell 2; have c3 := B2.out.cell 3; have c4 := B2.out.cell 4; have c5 := B2.out.cell 5
  go_wp2_with fail
  clear c0 c1 c2 c3 c4 c5
  ((with_reducible refine (EB.out _ (hG.below HW.out)).mono ?_); rintro e w2 ⟨rfl, hb⟩)
  replace HW := Lib.hid (bel_then HW.out hb)
  replace B1 := Lib.hid (B1.out.step hb)
  replace B2 := Lib.hid (B2.out.step hb)
  clear hb
  have c0 := B1.out.cell 0; have c1 := B1.out.cell 1; have c2 := B1.out.cell 2; have c3 := B1.out.cell 3; have c4 := B1.out.cell 4; have c5 := B1.out.cell 5
  have d0 := B2.out.cell 0; have d1 := B2.out.cell 1; have d2 := B2.out.cell 2; have d3 := B2.out.cell 3; have d4 := B2.out.cell 4; have d5 := B2.out.cell 5
  go_upto_region 5 with fail
  go_cut [69] (fun s69 wx => s69 = .bool false ∧ Below w2.heap.size w2 wx)
  case first =>
    (go_region_held3 (fun w' => Below w2.heap.size w2 w' ∧ w'.cell? ⟨w.heap.size, 0, none⟩ = some (.int .i64 a0) ∧ w'.cell? ⟨w.heap.size, 1, none⟩ = some (.int .i64 a1) ∧ w'.cell? ⟨w.heap.size, 2, none⟩ = some (.int .i64 a2) ∧ w'.cell? ⟨w.heap.size, 3, none⟩ = some (.int .i64 a3) ∧ w'.cell? ⟨w.heap.size, 4, none⟩ = some (.int .i64 a4) ∧ w'.cell? ⟨w.heap.size, 5, none⟩ = some (.int .i64 a5) ∧ w'.cell? ⟨w.heap.size + 1, 0, none⟩ = some (.int .i64 b0) ∧ w'.cell? ⟨w.heap.size + 1, 1, none⟩ = some (.int .i64 b1) ∧ w'.cell? ⟨w.heap.size + 1, 2, none⟩ = some (.int .i64 b2) ∧ w'.cell? ⟨w.heap.size + 1, 3, none⟩ = some (.int .i64 b3) ∧ w'.cell? ⟨w.heap.size + 1, 4, none⟩ = some (.int .i64 b4) ∧ w'.cell? ⟨w.heap.size + 1, 5, none⟩ = some (.int .i64 b5))
      (first | exact ⟨bel_drew (Below.refl _ _), c0, c1, c2, c3, c4, c5, d0, d1, d2, d3, d4, d5⟩ | (have hx := bel_then (bel_drew (Below.refl _ _)) ‹_›; have h1 := B1.out.step hx; have h2 := B2.out.step hx; exact ⟨hx, h1.cell 0, h1.cell 1, h1.cell 2, h1.cell 3, h1.cell 4, h1.cell 5, h2.cell 0, h2.cell 1, h2.cell 2, h2.cell 3, h2.cell 4, h2.cell 5⟩))
      (first | (go_at_call 7; (with_reducible refine (F0.out _).mono ?_); rintro e w3 ⟨rfl, hb⟩)))
    all_goals
      go_wp2_with fail
      go_meet
      exact ⟨rfl, bel_then (bel_drew (Below.refl _ _)) hb⟩
  case rest =>
    obtain ⟨rfl, hb⟩ := hcut
    clear c0 c1 c2 c3 c4 c5 d0 d1 d2 d3 d4 d5 hE dA dZ zZ zB
    replace HW := Lib.hid (bel_then HW.out hb)
    replace B1 := B1.out.step hb
    clear hb B2
    have c0 := B1.cell 0; have c1 := B1.cell 1; have c2 := B1.cell 2; have c3 := B1.cell 3; have c4 := B1.cell 4; have c5 := B1.cell 5
    have N1 := (Blk.new wc 29 [.int .i64 a0, .int .i64 a1, .int .i64 a2, .int .i64 a3, .int .i64 a4, .int .i64 a5]).alloc (.cells #[.int .i64 4, .int .i64 4, .int .i64 2, .int .i64 2, .int .i64 2, .int .i64 1] 29)
    have N2 := Blk.new (wc.alloc (.cells #[.int .i64 a0, .int .i64 a1, .int .i64 a2, .int .i64 a3, .int .i64 a4, .int .i64 a5] 29)) 29 [.int .i64 4, .int .i64 4, .int .i64 2, .int .i64 2, .int .i64 2, .int .i64 1]
    rw [World.size_alloc] at N2
    have HW2 := Lib.hid (bel_alloc (bel_alloc HW.out (.cells #[.int .i64 a0, .int .i64 a1, .int .i64 a2, .int .i64 a3, .int .i64 a4, .int .i64 a5] 29)) (.cells #[.int .i64 4, .int .i64 4, .int .i64 2, .int .i64 2, .int .i64 2, .int .i64 1] 29))
    clear HW
    replace N1 := Lib.hid N1
    replace N2 := Lib.hid N2
    replace B1 := Lib.hid B1
    go_wp2_with fail
    obtain ⟨W, hW⟩ : ∃ W : World, (wc.alloc (.cells #[.int .i64 a0, .int .i64 a1, .int .i64 a2, .int .i64 a3, .int .i64 a4, .int .i64 a5] 29)).alloc (.cells #[.int .i64 4, .int .i64 4, .int .i64 2, .int .i64 2, .int .i64 2, .int .i64 1] 29) = W := ⟨_, rfl⟩
    rw [hW] at N1 N2 HW2 ⊢
    clear hW B1 c0 c1 c2 c3 c4 c5
    have nF : Hid (∀ i, i < 6 → W.cell? ⟨wc.heap.size, i, none⟩ = some (.int .i64 (fd i))) := fun i hi => (N1.out.cell i).trans (flds.out i hi)
    have nS : Hid (∀ i, i < 6 → W.cell? ⟨wc.heap.size + 1, i, none⟩ = some (.int .i64 (wid i))) := fun i hi => (N2.out.cell i).trans (wids i hi)
    clear N1 N2 flds
    go_loop [11, 12, 13, 14] (fun at_ i _ _ => ∃ n : Nat, n ≤ 6 ∧ i = .int .i64 n ∧ at_ = .int .i64 (off n)) (fun _ i _ _ => 6 - (intOf i).toNat)
    case atStart => exact ⟨0, by omega, rfl, rfl⟩
    case round =>
      obtain ⟨n, hn, rfl, rfl⟩ := hrel
      by_cases hlt : n < 6
      · have nSn := nS.out n hlt
        have nFn := nF.out n hlt
        have hw4 := wid_le n
        have hoff := off_le n hlt
        have HO := Lib.hid (off_succ n hlt)
        have numn := num.out n hlt
        have fposn := fpos.out n hlt
        generalize off n = o at *
        generalize wid n = m at *
        generalize fd n = f at *
        go_wp2_with fail
        go_loop [11, 13, 14] (fun at_ v k => ∃ j : Nat, j ≤ m ∧ k = .int .i64 j ∧ at_ = .int .i64 (o + j : Nat) ∧ v = .int .i64 (numL ((A.drop o).take j))) (fun _ _ k => m - (intOf k).toNat)
        case atStart => exact ⟨0, by omega, rfl, rfl, rfl⟩
        case round =>
          obtain ⟨j, hj, rfl, rfl, rfl⟩ := hrel
          by_cases hltj : j < m
          · go_wp2
            refine ⟨⟨j + 1, by omega, by go_num, by rw [show ((o + (j + 1) : Nat) : Int) = (o : Int) + j + 1 by omega], ?_⟩, by simp [intOf]; omega⟩
            have hlen := lA.out
            rw [bs_get, or_byte _ _ (numL_small _ j (by omega)), numL_take _ j (by rw [List.length_drop]; omega), List.getElem_drop]
          · obtain rfl : j = m := by omega
            have hne : ((numL ((A.drop o).take j) : Int) != f) = false := by
              rw [numn, bne_eq_false_iff_eq]
              omega
            clear numn
            go_wp2
            refine ⟨⟨n + 1, by omega, by go_num, by rw [HO.out]⟩, by simp [intOf]; omega⟩
      · obtain rfl : n = 6 := by omega
        go_wp2_with fail
        go_loop [11] (fun at_ => ∃ p : Nat, 19 ≤ p ∧ p ≤ 60 ∧ at_ = .int .i64 p) (fun at_ => 60 - (intOf at_).toNat)
        case atStart => exact ⟨19, by omega, by omega, rfl⟩
        case round =>
          obtain ⟨p, hp0, hp1, rfl⟩ := hrel
          by_cases hltp : p < 60
          · have hz := zero.out p hp0 hltp
            have hlen := lA.out
            have hb0 : ∀ hh : p < (bs A).size, (((bs A)[p]'hh).toNat : Int) = 0 := fun hh => by
              rw [bs_get]
              have hh' : p < A.length := by omega
              rw [List.getElem?_eq_getElem hh'] at hz
              rw [Option.some.inj hz]
              rfl
            clear hz hlen
            go_wp2
            exact ⟨⟨p + 1, by omega, by omega, by go_num⟩, by simp [intOf]; omega⟩
          · go_wp2_with fail
            ((with_reducible refine (wakes_calls _ (hG.below HW2.out)).mono ?_); rintro e w5 ⟨rfl, hb⟩)
            go_wp2_with fail
            go_ret
            exact ⟨rfl, bel_then HW2.out hb⟩
end Go.Proofs.YtlipbpdigffajaaDoor.Sup
