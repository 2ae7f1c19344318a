/- What this text proves: what a disk's Write leaves of all other blocks. -/
import Derived.Test.YtofmlmgdbcjeoaaFskA
namespace Go.Proofs.Ytofmlmgdbcjeoaa.Dsk
open Go Go.RowKit Go.Proofs Go.Proofs.Ytofmlmgdbcjeoaa.Base Go.Proofs.YtofmlmgdbcjeoaaW.PrintLast
set_option linter.unusedSimpArgs false

set_option maxRecDepth 100000 in
set_option maxHeartbeats 3200000 in
theorem write1F (F : Nat → Prop) (g b0 b1 b2 : Nat) (D : DM) (x : Nat) (s : ByteArray) (w : World) (h : IsF F w g D) (hFw : ∀ k, w.heap.size ≤ k → F k) (k0 : Blk w b0 25 [.pointer (some ⟨g, 0, none⟩)]) (k1 : Blk w b1 3 [.int .i64 x]) (k2 : Blk w b2 9 [.string s]) (hn : D.wt.length ≤ 1000000) :
    Calls Try.prog 42 #[.pointer (some ⟨b0, 0, none⟩), .pointer (some ⟨b1, 0, none⟩), .pointer (some ⟨b2, 0, none⟩)] w fun e w' => e = .returned (.tuple #[]) ∧ IsF F w' g { D with wt := D.wt ++ [(x, s)] } ∧ Within F w w' := by
  obtain ⟨i0, hi, hz0, hz1, hz2⟩ := info_parts infoW
  obtain ⟨hB, v1, v2, hb, h1, h2, hF1, hF2⟩ := h
  have c0 := k0.cell 0
  have c1 := k1.cell 0
  have c2 := k2.cell 0
  have cg := hb.cell 1
  have ne0 := own_blk_ne h2 k0 (by decide)
  have ne1 := own_blk_ne h2 k1 (by decide)
  have ne2 := own_blk_ne h2 k2 (by decide)
  have neg := own_blk_ne h2 hb (by decide)
  have l0 := k0.lt; have l1 := k1.lt; have l2 := k2.lt; have lg := hb.lt
  have HK := Lib.hid hb
  have HV := Lib.hid h1
  have HF1 := Lib.hid hF1; have HF2 := Lib.hid hF2; have HFW := Lib.hid hFw
  clear hF1 hF2 hFw
  have HN := Lib.hid (own_own_ne h1 h2 (by decide))
  have HO := Lib.hid h2
  have HX := Lib.hid (wcells_snoc D.wt (x, s))
  have HL := Lib.hid (show (D.wt ++ [(x, s)]).length = D.wt.length + 1 by simp)
  clear hb h1 h2 k0 k1 k2
  obtain ⟨n, hnn⟩ : ∃ n, D.wt.length = n := ⟨_, rfl⟩
  obtain ⟨xs, hxs⟩ : ∃ xs, wcells D.wt = xs := ⟨_, rfl⟩
  rw [hnn] at HO HL hn
  rw [hxs] at HO HX
  clear hnn hxs
  go_enter Try.func42, Try.ntmps42
  go_wp2_with fail
  refine start_ (n := 13) (S := fun w' => w'.cell? ⟨b0, 0, none⟩ = some (.pointer (some ⟨g, 0, none⟩)) ∧ w'.cell? ⟨b1, 0, none⟩ = some (.int .i64 x) ∧ w'.cell? ⟨b2, 0, none⟩ = some (.string s) ∧ w'.cell? ⟨g, 1, none⟩ = some v2) (ds := [12]) #[false, false, false, false, false, false, false, false, false, false, false, false, false] (by kernel_rfl) rfl rfl ⟨c0, c1, c2, cg⟩ (fun hHeld => ?_)
  refine take_ (i := 0) (N := (some 3)) (v := ?_) (a' := ?_) #[true, false, false, false, false, false, false, false, false, false, false, false, false] rfl rfl (by kernel_rfl) (fun _ _ _ h => h) (Or.inl ⟨by rfl, ?_⟩) hHeld ?_ ?_
  rotate_left
  · rintro w' ⟨s0, s1, s2, s3⟩
    go_simp
    with_reducible rfl
  rotate_left
  · simp only [Act.put, List.setIfInBounds_toArray, List.set_cons_zero, List.set_cons_succ, i64_w, i32_w]
    rfl
  refine take_ (i := 1) (N := (some 4)) (v := ?_) (a' := ?_) #[true, true, false, false, false, false, false, false, false, false, false, false, false] rfl rfl (by kernel_rfl) (fun _ _ _ h => h) (Or.inl ⟨by rfl, ?_⟩) hHeld ?_ ?_
  rotate_left
  · rintro w' ⟨s0, s1, s2, s3⟩
    go_simp
    with_reducible rfl
  rotate_left
  · simp only [Act.put, List.setIfInBounds_toArray, List.set_cons_zero, List.set_cons_succ, i64_w, i32_w]
    rfl
  refine pure_ (i := 2) (N := (some 5)) (v := ?_) (a' := ?_) #[true, true, true, false, false, false, false, false, false, false, false, false, false] rfl rfl (by kernel_rfl) (fun _ _ _ h => h) (Or.inl ⟨by rfl, ?_⟩) ?_ ?_
  rotate_left
  · intro w'
    go_simp
    with_reducible rfl
  rotate_left
  · simp only [Act.put, List.setIfInBounds_toArray, List.set_cons_zero, List.set_cons_succ, i64_w, i32_w]
    rfl
  refine pure_ (i := 3) (N := (some 6)) (v := ?_) (a' := ?_) #[true, true, true, true, false, false, false, false, false, false, false, false, false] rfl rfl (by kernel_rfl) (fun _ _ _ h => h) (Or.inl ⟨by rfl, ?_⟩) ?_ ?_
  rotate_left
  · intro w'
    go_simp
    with_reducible rfl
  rotate_left
  · simp only [Act.put, List.setIfInBounds_toArray, List.set_cons_zero, List.set_cons_succ, i64_w, i32_w]
    rfl
  refine take_ (i := 4) (N := (some 7)) (v := ?_) (a' := ?_) #[true, true, true, true, true, false, false, false, false, false, false, false, false] rfl rfl (by kernel_rfl) (fun _ _ _ h => h) (Or.inl ⟨by rfl, ?_⟩) hHeld ?_ ?_
  rotate_left
  · rintro w' ⟨s0, s1, s2, s3⟩
    go_simp
    with_reducible rfl
  rotate_left
  · simp only [Act.put, List.setIfInBounds_toArray, List.set_cons_zero, List.set_cons_succ, i64_w, i32_w]
    rfl
  refine take_ (i := 5) (N := (some 8)) (v := ?_) (a' := ?_) #[true, true, true, true, true, true, false, false, false, false, false, false, false] rfl rfl (by kernel_rfl) (fun _ _ _ h => h) (Or.inl ⟨by rfl, ?_⟩) hHeld ?_ ?_
  rotate_left
  · rintro w' ⟨s0, s1, s2, s3⟩
    go_simp
    with_reducible rfl
  rotate_left
  · simp only [Act.put, List.setIfInBounds_toArray, List.set_cons_zero, List.set_cons_succ, i64_w, i32_w]
    rfl
  refine take_ (i := 6) (N := (some 9)) (v := ?_) (a' := ?_) #[true, true, true, true, true, true, true, false, false, false, false, false, false] rfl rfl (by kernel_rfl) (fun _ _ _ h => h) (Or.inl ⟨by rfl, ?_⟩) hHeld ?_ ?_
  rotate_left
  · rintro w' ⟨s0, s1, s2, s3⟩
    go_simp
    with_reducible rfl
  rotate_left
  · simp only [Act.put, List.setIfInBounds_toArray, List.set_cons_zero, List.set_cons_succ, i64_w, i32_w]
    rfl
  refine pure_ (i := 7) (N := (some 10)) (v := ?_) (a' := ?_) #[true, true, true, true, true, true, true, true, false, false, false, false, false] rfl rfl (by kernel_rfl) (fun _ _ _ h => h) (Or.inl ⟨by rfl, ?_⟩) ?_ ?_
  rotate_left
  · intro w'
    go_simp
    with_reducible rfl
  rotate_left
  · simp only [Act.put, List.setIfInBounds_toArray, List.set_cons_zero, List.set_cons_succ, i64_w, i32_w]
    rfl
  refine one_ (i := 8) (N := (some 11)) #[true, true, true, true, true, true, true, true, true, false, false, false, false] rfl rfl (by kernel_rfl) (by decide) (fun K hK => ?_)
  refine value_ (by rfl) rfl (by go_simp; exact ⟨rfl, rfl⟩) ?_
  refine hK.out _ _ ⟨(World.cell?_alloc_lt _ _ _ (by simpa using l0)).trans hHeld.1, (World.cell?_alloc_lt _ _ _ (by simpa using l1)).trans hHeld.2.1, (World.cell?_alloc_lt _ _ _ (by simpa using l2)).trans hHeld.2.2.1, (World.cell?_alloc_lt _ _ _ (by simpa using lg)).trans hHeld.2.2.2⟩ (fun hHeld => ?_)
  clear hK K
  refine norm_ (a' := ?_) ?_ ?_
  rotate_left
  · show Act.put _ (some 11) _ = _
    simp only [Act.put, List.setIfInBounds_toArray, List.set_cons_zero, List.set_cons_succ, i64_w, i32_w]
    rfl
  refine one_ (i := 9) (N := (some 12)) #[true, true, true, true, true, true, true, true, true, true, false, false, false] rfl rfl (by kernel_rfl) (by decide) (fun K hK => ?_)
  refine step_append_lies _ (by rfl) _ _ _ (by rfl) 0 76 i0 _ 2 24 Try.underlying41 hi hz0 hz1 hz2 rfl (by omega) v2 n xs (by rfl) ((HO.out.alloc _).drew) ⟨w.heap.size, 0, none⟩ 1 1 [.int .i64 x, .string s] (by rfl) (by rfl) (World.news_of_block (cs := #[.int .i64 x, .string s]) (t := 76) (fr := (0, 0)) (heap_alloc_new w _)) (by simp [Value.oneCell']) (by omega) (by unfold maxLen; omega) (by omega) (Nat.zero_le _) (w.heap.size + 1) (by simp) ?_
  intro gg cap w1 hown1 hgrow hat hlt
  have hfz : w1.frozen? ⟨g, 1, none⟩ = false := (hgrow.frozen_far _ (by simp; omega) (Ne.symm neg)).trans ((HK.out.alloc _).drew.frozen 1)
  refine hK.out _ _ ⟨(hgrow.cell_far _ (by simp; omega) (Ne.symm ne0)).trans hHeld.1, (hgrow.cell_far _ (by simp; omega) (Ne.symm ne1)).trans hHeld.2.1, (hgrow.cell_far _ (by simp; omega) (Ne.symm ne2)).trans hHeld.2.2.1, (hgrow.cell_far _ (by simp; omega) (Ne.symm neg)).trans hHeld.2.2.2⟩ (fun hHeld => ?_)
  clear hK K
  refine norm_ (a' := ?_) ?_ ?_
  rotate_left
  · show Act.put _ (some 12) _ = _
    simp only [Act.put, List.setIfInBounds_toArray, List.set_cons_zero, List.set_cons_succ, i64_w, i32_w]
    rfl
  refine pure_ (i := 10) (N := (some 13)) (v := ?_) (a' := ?_) #[true, true, true, true, true, true, true, true, true, true, true, false, false] rfl rfl (by kernel_rfl) (fun _ _ _ h => h) (Or.inl ⟨by rfl, ?_⟩) ?_ ?_
  rotate_left
  · intro w'
    go_simp
    with_reducible rfl
  rotate_left
  · simp only [Act.put, List.setIfInBounds_toArray, List.set_cons_zero, List.set_cons_succ, i64_w, i32_w]
    rfl
  refine pure_ (i := 11) (N := (some 14)) (v := ?_) (a' := ?_) #[true, true, true, true, true, true, true, true, true, true, true, true, false] rfl rfl (by kernel_rfl) (fun _ _ _ h => h) (Or.inl ⟨by rfl, ?_⟩) ?_ ?_
  rotate_left
  · intro w'
    go_simp
    with_reducible rfl
  rotate_left
  · simp only [Act.put, List.setIfInBounds_toArray, List.set_cons_zero, List.set_cons_succ, i64_w, i32_w]
    rfl
  refine last_ (i := 12) (N := none) #[true, true, true, true, true, true, true, true, true, true, true, true, true] rfl rfl (by kernel_rfl) (by decide) (fun K hK => ?_)
  refine skip_ (by rfl) rfl (by go_simp; rfl) ?_
  refine hK.out _ _ ?_
  clear hK K
  refine done_ (by kernel_rfl) ?_
  go_wp2_with fail
  have hgB : Within F w w1 := (((Within.refl F w).alloc _).drew).grown hgrow HF2.out
  have hk3 : Blk w1 g 71 [v1, v2, .int .i64 D.lim, .int .i64 D.fuse, .bool D.down] := ((HK.out.alloc _).drew).grown hgrow (Ne.symm neg)
  have h13 : w1.ownsRow 0 9 1 v1 D.st.length (strs D.st) := ((HV.out.alloc _).drew).kept hgrow HN.out
  have h23 : w1.ownsRow 0 76 2 (.slice (some ⟨gg, 0, none⟩) (n + 1) cap) (D.wt ++ [(x, s)]).length (wcells (D.wt ++ [(x, s)])) := by
    rw [HX.out, HL.out]
    exact hown1
  go_end0
  refine ⟨rfl, ⟨hB, v1, _, hk3.set_ 1 _, own_set_far h13 (own_blk_ne h13 hk3 (by decide)) _ _, own_set_far h23 (own_blk_ne h23 hk3 (by decide)) _ _, HF1.out, fun k hk => ?_⟩, hgB.set hB 1 _⟩
  have e : gg = k := by simpa [Value.ownBlock] using hk
  subst e
  rcases hat with hat | hat
  · exact HF2.out gg hat
  · rw [hat]
    exact HFW.out _ (by omega)
set_option maxHeartbeats 1600000 in
theorem writeF (F : Nat → Prop) (g : Nat) (D : DM) (x : Int) (s : ByteArray) (w : World) (h : IsF F w g D) (hFw : ∀ k, w.heap.size ≤ k → F k) (hn : D.wt.length ≤ 1000000) (hf : D.fuse ≤ 9223372036854775807) :
    Calls Try.prog 13 #[.pointer (some ⟨g, 0, none⟩), .int .i64 x, .string s] w fun e w' => e = .returned (.int .i64 (writeM D x s).2) ∧ IsF F w' g (writeM D x s).1 ∧ Within F w w' := by
  obtain ⟨W, hW, hb0, k0, k1, k2, hz⟩ := box3 w 25 3 9 (.pointer (some ⟨g, 0, none⟩)) (.int .i64 x) (.string s)
  have hgw := h.lt
  have hD := h.below hb0
  have hBB := (Within.refl F w).then hb0
  have HFW := Lib.hid (show ∀ k, W.heap.size ≤ k → F k from fun k hk => hFw k (by omega))
  clear hFw
  have c0 := k0.cell 0; have c1 := k1.cell 0; have c2 := k2.cell 0
  obtain ⟨v1, v2, hb⟩ : ∃ v1 v2, Blk W g 71 [v1, v2, .int .i64 D.lim, .int .i64 D.fuse, .bool D.down] := hD.2.elim fun v1 h => h.elim fun v2 h => ⟨v1, v2, h.1⟩
  have c4 := hb.cell 4
  have K0 := Lib.hid k0; have K1 := Lib.hid k1; have K2 := Lib.hid k2; have HB := Lib.hid hBB; have HD := Lib.hid hD
  clear hb hz k0 k1 k2 hb0 hBB hD h
  by_cases hd : D.down = true
  · have HM : Hid (writeM D x s = (D, 2)) := by simp [Hid, writeM, hd]
    rw [hd] at c4
    clear hd
    go_enter Try.func13, Try.ntmps13
    go_upto_region 1 with fail
    clear hW
    go_wp2
    go_ret
    exact ⟨by rw [HM.out]; rfl, by rw [HM.out]; exact HD.out, HB.out⟩
  · rw [Bool.eq_false_iff.2 hd] at c4
    by_cases hs : s.size = 256
    · by_cases hx : 0 ≤ x ∧ x < D.st.length
      · obtain ⟨y, rfl⟩ := Int.eq_ofNat_of_zero_le hx.1
        have ht := fun w1 h1 => there_calls 0 g D y w1 h1
        rw [decide_eq_true hx] at ht
        have HT := Lib.hid ht
        by_cases h0 : D.fuse = 0
        · have HM : Hid (writeM D y s = ({ D with down := true }, 2)) := by simp [Hid, writeM, hd, hs, hx, h0]
          have HA := Lib.hid (fun cs w1 h1 => acts_noF F g D 42 cs w1 h1 h0)
          have hs' : ((s.size : Int) != 256) = false := by rw [bne_eq_false_iff_eq]; omega
          clear hd hx hs h0 ht
          go_enter Try.func13, Try.ntmps13
          go_upto_region 1 with fail
          clear hW
          go_wp2_with fail
          ((with_reducible refine (HT.out _ HD.out.isD).mono ?_); rintro e w1 ⟨rfl, rfl⟩)
          go_wp2_with fail
          ((with_reducible refine (HA.out _ _ HD.out).mono ?_); rintro e w1 ⟨rfl, hI, hl⟩)
          go_wp2_with fail
          go_ret
          exact ⟨by rw [HM.out]; rfl, by rw [HM.out]; exact hI, HB.out.trans hl⟩
        · have HM : Hid (writeM D y s = ({ D with fuse := burn D.fuse, wt := D.wt ++ [(y, s)] }, 0)) := by simp [Hid, writeM, hd, hs, hx, h0]
          have hc : ∀ a W, (callFunc 42 a).run Try.prog W = .ok (.enter 42 a) W := fun a W => Go.Proofs.YtofmlmgdbcjeoaaW.PrintLast.enters_ Try.func42 (by kernel_rfl) rfl a W
          have hg0 : g < w.heap.size := hgw
          have HA := Lib.hid (acts_yesF F g D 42 #[.pointer (some ⟨w.heap.size, 0, none⟩), .pointer (some ⟨w.heap.size + 1, 0, none⟩), .pointer (some ⟨w.heap.size + 1 + 1, 0, none⟩)] W HD.out h0 hf hc (Q := fun w' => IsF F w' g { D with fuse := burn D.fuse, wt := D.wt ++ [(y, s)] } ∧ Within F W w') (fun W1 h1 hl1 hz1 hk1 => by
            have e0 : Blk W1 w.heap.size 25 [.pointer (some ⟨g, 0, none⟩)] := (hk1 _ (by omega)).trans K0.out
            have e1 : Blk W1 (w.heap.size + 1) 3 [.int .i64 y] := (hk1 _ (by omega)).trans K1.out
            have e2 : Blk W1 (w.heap.size + 1 + 1) 9 [.string s] := (hk1 _ (by omega)).trans K2.out
            exact (write1F F g _ _ _ { D with fuse := burn D.fuse } y s W1 h1 (fun k hk => HFW.out k (by omega)) e0 e1 e2 hn).mono fun e w' ⟨he, hI, hl⟩ => ⟨he, hI, hl1.trans hl⟩))
          have hs' : ((s.size : Int) != 256) = false := by rw [bne_eq_false_iff_eq]; omega
          clear hd hx hs h0 ht
          go_enter Try.func13, Try.ntmps13
          go_upto_region 1 with fail
          clear hW
          go_wp2_with fail
          ((with_reducible refine (HT.out _ HD.out.isD).mono ?_); rintro e w1 ⟨rfl, rfl⟩)
          go_wp2_with fail
          ((with_reducible refine HA.out.mono ?_); rintro e w1 ⟨rfl, hI, hl⟩)
          go_wp2_with fail
          go_ret
          exact ⟨by rw [HM.out]; rfl, by rw [HM.out]; exact hI, HB.out.trans hl⟩
      · have HM : Hid (writeM D x s = (D, 4)) := by simp [Hid, writeM, hd, hs, hx]
        have ht := fun w1 h1 => there_calls 0 g D x w1 h1
        rw [decide_eq_false hx] at ht
        have HT := Lib.hid ht
        have hs' : ((s.size : Int) != 256) = false := by rw [bne_eq_false_iff_eq]; omega
        clear hd hx hs ht
        go_enter Try.func13, Try.ntmps13
        go_upto_region 1 with fail
        clear hW
        go_wp2_with fail
        ((with_reducible refine (HT.out _ HD.out.isD).mono ?_); rintro e w1 ⟨rfl, rfl⟩)
        go_wp2_with fail
        go_ret
        exact ⟨by rw [HM.out]; rfl, by rw [HM.out]; exact HD.out, HB.out⟩
    · have HM : Hid (writeM D x s = (D, 1)) := by simp [Hid, writeM, hd, hs]
      have hs' : ((s.size : Int) != 256) = true := by rw [bne_iff_ne]; omega
      clear hd hs
      go_enter Try.func13, Try.ntmps13
      go_upto_region 1 with fail
      clear hW
      go_wp2
      go_ret
      exact ⟨by rw [HM.out]; rfl, by rw [HM.out]; exact HD.out, HB.out⟩
end Go.Proofs.Ytofmlmgdbcjeoaa.Dsk
