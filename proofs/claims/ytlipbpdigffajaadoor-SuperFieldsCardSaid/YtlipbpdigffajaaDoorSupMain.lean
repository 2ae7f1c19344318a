/- What this text proves: the law SuperFields answers true at every two superblocks. -/
import Derived.Test.YtlipbpdigffajaaDoorSupWakes
namespace Go.Proofs.YtlipbpdigffajaaDoor.Sup
open Go Go.RowKit Go.Proofs.YtlipbpdigffajaaDoor.Base Go.Proofs.YtlipbpdigffajaaDoor.Ext

/-- The law's walk where one of the two may not be. -/
theorem law_no (s t : S6) (hs0 : -9223372036854775808 ≤ s.l) (hs1 : s.l ≤ 9223372036854775807) (ht0 : -9223372036854775808 ≤ t.l) (ht1 : t.l ≤ 9223372036854775807) (h : goodB s = false ∨ goodB t = false) (w : World) (hG : Glob w) :
    Calls Tryd.prog 3 #[s.val, t.val] w fun e w' => e = .returned (.bool true) ∧ Below w.heap.size w w' := by
  have EA := fun W hW => encode_calls s hs0 hs1 W hW
  have EB := fun W hW => encode_calls t ht0 ht1 W hW
  have GA := fun W => good_calls s.q s.g s.l s.r s.li s.k hs0 hs1 W
  have GB := fun W => good_calls t.q t.g t.l t.r t.li t.k ht0 ht1 W
  obtain ⟨a0, a1, a2, a3, a4, a5⟩ := s
  obtain ⟨b0, b1, b2, b3, b4, b5⟩ := t
  have hg : goodB ⟨a0, a1, a2, a3, a4, a5⟩ = true → goodB ⟨b0, b1, b2, b3, b4, b5⟩ = false := fun e => h.resolve_left (by rw [e]; simp)
  clear h
  unfold S6.val at EA EB ⊢
  simp only at EA EB GA GB hs0 hs1 ht0 ht1 ⊢
  generalize encB ⟨a0, a1, a2, a3, a4, a5⟩ = A at *
  generalize encB ⟨b0, b1, b2, b3, b4, b5⟩ = B at *
  generalize goodB ⟨a0, a1, a2, a3, a4, a5⟩ = p at *
  generalize goodB ⟨b0, b1, b2, b3, b4, b5⟩ = q at *
  have EA := Lib.hid EA; have EB := Lib.hid EB; have GA := Lib.hid GA; have GB := Lib.hid GB
  have B1 := Lib.hid ((Blk.new w 23 [.int .i64 a0, .int .i64 a1, .int .i64 a2, .int .i64 a3, .int .i64 a4, .int .i64 a5]).alloc (.cells #[.int .i64 b0, .int .i64 b1, .int .i64 b2, .int .i64 b3, .int .i64 b4, .int .i64 b5] 23))
  have B2 := Blk.new (w.alloc (.cells #[.int .i64 a0, .int .i64 a1, .int .i64 a2, .int .i64 a3, .int .i64 a4, .int .i64 a5] 23)) 23 [.int .i64 b0, .int .i64 b1, .int .i64 b2, .int .i64 b3, .int .i64 b4, .int .i64 b5]
  rw [World.size_alloc] at B2
  replace B2 := Lib.hid B2
  have HW := Lib.hid (bel_alloc (bel_alloc (Below.refl w.heap.size w) (.cells #[.int .i64 a0, .int .i64 a1, .int .i64 a2, .int .i64 a3, .int .i64 a4, .int .i64 a5] 23)) (.cells #[.int .i64 b0, .int .i64 b1, .int .i64 b2, .int .i64 b3, .int .i64 b4, .int .i64 b5] 23))
  have hpq : (p = false) ∨ (p = true ∧ q = false) := by cases p; exact .inl rfl; exact .inr ⟨rfl, hg rfl⟩
  clear hg
  go_enter Tryd.func3, Tryd.ntmps3
  go_wp2_with fail
  ((with_reducible refine (EA.out _ (hG.below HW.out)).mono ?_); rintro e w1 ⟨rfl, hb⟩)
  replace HW := Lib.hid (bel_then HW.out hb)
  replace B1 := Lib.hid (B1.out.step hb)
  replace B2 := Lib.hid (B2.out.step hb)
  clear hb
  have c0 := B2.out.cell 0; have c1 := B2.out.cell 1; have c2 := B2.out.cell 2; have c3 := B2.out.cell 3; have c4 := B2.out.cell 4; have c5 := B2.out.cell 5
  go_wp2_with fail
  clear c0 c1 c2 c3 c4 c5
  ((with_reducible refine (EB.out _ (hG.below HW.out)).mono ?_); rintro e w2 ⟨rfl, hb⟩)
  replace HW := Lib.hid (bel_then HW.out hb)
  replace B1 := Lib.hid (B1.out.step hb)
  replace B2 := Lib.hid (B2.out.step hb)
  clear hb
  have c0 := B1.out.cell 0; have c1 := B1.out.cell 1; have c2 := B1.out.cell 2; have c3 := B1.out.cell 3; have c4 := B1.out.cell 4; have c5 := B1.out.cell 5
  rcases hpq with rfl | ⟨rfl, rfl⟩
  all_goals
    go_wp2_with fail
    clear c0 c1 c2 c3 c4 c5
    ((with_reducible refine (GA.out _).mono ?_); rintro e w3 ⟨rfl, hb⟩)
    replace HW := Lib.hid (bel_then HW.out hb)
    replace B2 := Lib.hid (B2.out.step hb)
    clear hb
    have c0 := B2.out.cell 0; have c1 := B2.out.cell 1; have c2 := B2.out.cell 2; have c3 := B2.out.cell 3; have c4 := B2.out.cell 4; have c5 := B2.out.cell 5
    go_wp2_with fail
    clear c0 c1 c2 c3 c4 c5
    ((with_reducible refine (GB.out _).mono ?_); rintro e w4 ⟨rfl, hb⟩)
    replace HW := Lib.hid (bel_then HW.out hb)
    clear hb
    go_wp2_with fail
  all_goals
    ((with_reducible refine (wakes_calls _ (hG.below HW.out)).mono ?_); rintro e w5 ⟨rfl, hb⟩)
    go_wp2_with fail
    go_ret
    exact ⟨rfl, bel_then HW.out hb⟩
end Go.Proofs.YtlipbpdigffajaaDoor.Sup
