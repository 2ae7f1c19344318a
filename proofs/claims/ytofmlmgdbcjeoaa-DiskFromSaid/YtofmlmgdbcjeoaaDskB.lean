/- What this text proves: what a disk's Write comes to. -/
import Derived.Test.YtofmlmgdbcjeoaaDskA
import Derived.Deep.AppendLies
import Derived.Test.YtofmlmgdbcjeoaaWLast
namespace Go.Proofs.Ytofmlmgdbcjeoaa.Dsk
open Go Go.RowKit Go.Proofs.Ytofmlmgdbcjeoaa.Base Go.Proofs.YtofmlmgdbcjeoaaW.PrintLast

theorem infoW : (Try.prog.info? 76).map (fun i => (i.zero, i.size, i.bytes)) = some (some (.agg #[.int .i64 0, .string ⟨#[]⟩]), 2, 24) := by kernel_rfl
theorem wcells_snoc (l : List (Nat × ByteArray)) (x : Nat × ByteArray) : wcells (l ++ [x]) = wcells l ++ [.int .i64 x.1, .string x.2] := by simp [wcells, wcell]

set_option linter.unusedSimpArgs false
set_option maxRecDepth 100000 in
set_option maxHeartbeats 3200000 in
theorem write1_calls (B g b0 b1 b2 : Nat) (D : DM) (x : Nat) (s : ByteArray) (w : World) (h : IsD B w g D) (hBw : B ≤ w.heap.size) (k0 : Blk w b0 25 [.pointer (some ⟨g, 0, none⟩)]) (k1 : Blk w b1 3 [.int .i64 x]) (k2 : Blk w b2 9 [.string s]) (hn : D.wt.length ≤ 1000000) :
    Calls Try.prog 42 #[.pointer (some ⟨b0, 0, none⟩), .pointer (some ⟨b1, 0, none⟩), .pointer (some ⟨b2, 0, none⟩)] w fun e w' => e = .returned (.tuple #[]) ∧ IsD B w' g { D with wt := D.wt ++ [(x, s)] } ∧ Below B w w' := by
  obtain ⟨i0, hi, hz0, hz1, hz2⟩ := info_parts infoW
  obtain ⟨hB, v1, v2, hb, h1, h2⟩ := h
  have c0 := k0.cell 0
  have c1 := k1.cell 0
  have c2 := k2.cell 0
  have cg := hb.cell 1
  have ne0 := own_blk_ne h2 k0 (by decide)
  have ne1 := own_blk_ne h2 k1 (by decide)
  have ne2 := own_blk_ne h2 k2 (by decide)
  have neg := own_blk_ne h2 hb (by decide)
  have l0 := k0.lt; have l1 := k1.lt; have l2 := k2.lt; have lg := hb.lt
  have HK := Lib.hid hb
  have HV := Lib.hid h1
  have HN := Lib.hid (own_own_ne h1 h2 (by decide))
  have HO := Lib.hid h2
  have HX := Lib.hid (wcells_snoc D.wt (x, s))
  have HL := Lib.hid (show (D.wt ++ [(x, s)]).length = D.wt.length + 1 by simp)
  clear hb h1 h2 k0 k1 k2
  obtain ⟨n, hnn⟩ : ∃ n, D.wt.length = n := ⟨_, rfl⟩
  obtain ⟨xs, hxs⟩ : ∃ xs, wcells D.wt = xs := ⟨_, rfl⟩
  rw [hnn] at HO HL hn
  rw [hxs] at HO HX
  clear hnn hxs
  go_enter Try.func42, Try.ntmps42
  go_wp2_with fail
  refine start_ (n := 13) (S := fun w' => w'.cell? ⟨b0, 0, none⟩ = some (.pointer (some ⟨g, 0, none⟩)) ∧ w'.cell? ⟨b1, 0, none⟩ = some (.int .i64 x) ∧ w'.cell? ⟨b2, 0, none⟩ = some (.string s) ∧ w'.cell? ⟨g, 1, none⟩ = some v2) (ds := [12]) #[false, false, false, false, false, false, false, false, false, false, false, false, false] (by kernel_rfl) rfl rfl ⟨c0, c1, c2, cg⟩ (fun hHeld => ?_)
  refine take_ (i := 0) (N := (some 3)) (v := ?_) (a' := ?_) #[true, false, false, false, false, false, false, false, false, false, false, false, false] rfl rfl (by kernel_rfl) (fun _ _ _ h => h) (Or.inl ⟨by rfl, ?_⟩) hHeld ?_ ?_
  rotate_left
  · rintro w' ⟨s0, s1, s2, s3⟩
    go_simp
    with_reducible rfl
  rotate_left
  · simp only [Act.put, List.setIfInBounds_toArray, List.set_cons_zero, List.set_cons_succ, i64_w, i32_w]
    rfl
  refine take_ (i := 1) (N := (some 4)) (v := ?_) (a' := ?_) #[true, true, false, false, false, false, false, false, false, false, false, false, false] rfl rfl (by kernel_rfl) (fun _ _ _ h => h) (Or.inl ⟨by rfl, ?_⟩) hHeld ?_ ?_
  rotate_left
  · rintro w' ⟨s0, s1, s2, s3⟩
    go_simp
    with_reducible rfl
  rotate_left
  · simp only [Act.put, List.setIfInBounds_toArray, List.set_cons_zero, List.set_cons_succ, i64_w, i32_w]
    rfl
  refine pure_ (i := 2) (N := (some 5)) (v := ?_) (a' := ?_) #[true, true, true, false, false, false, false, false, false, false, false, false, false] rfl rfl (by kernel_rfl) (fun _ _ _ h => h) (Or.inl ⟨by rfl, ?_⟩) ?_ ?_
  rotate_left
  · intro w'
    go_simp
    with_reducible rfl
  rotate_left
  · simp only [Act.put, List.setIfInBounds_toArray, List.set_cons_zero, List.set_cons_succ, i64_w, i32_w]
    rfl
  refine pure_ (i := 3) (N := (some 6)) (v := ?_) (a' := ?_) #[true, true, true, true, false, false, false, false, false, false, false, false, false] rfl rfl (by kernel_rfl) (fun _ _ _ h => h) (Or.inl ⟨by rfl, ?_⟩) ?_ ?_
  rotate_left
  · intro w'
    go_simp
    with_reducible rfl
  rotate_left
  · simp only [Act.put, List.setIfInBounds_toArray, List.set_cons_zero, List.set_cons_succ, i64_w, i32_w]
    rfl
  refine take_ (i := 4) (N := (some 7)) (v := ?_) (a' := ?_) #[true, true, true, true, true, false, false, false, false, false, false, false, false] rfl rfl (by kernel_rfl) (fun _ _ _ h => h) (Or.inl ⟨by rfl, ?_⟩) hHeld ?_ ?_
  rotate_left
  · rintro w' ⟨s0, s1, s2, s3⟩
    go_simp
    with_reducible rfl
  rotate_left
  · simp only [Act.put, List.setIfInBounds_toArray, List.set_cons_zero, List.set_cons_succ, i64_w, i32_w]
    rfl
  refine take_ (i := 5) (N := (some 8)) (v := ?_) (a' := ?_) #[true, true, true, true, true, true, false, false, false, false, false, false, false] rfl rfl (by kernel_rfl) (fun _ _ _ h => h) (Or.inl ⟨by rfl, ?_⟩) hHeld ?_ ?_
  rotate_left
  · rintro w' ⟨s0, s1, s2, s3⟩
    go_simp
    with_reducible rfl
  rotate_left
  · simp only [Act.put, List.setIfInBounds_toArray, List.set_cons_zero, List.set_cons_succ, i64_w, i32_w]
    rfl
  refine take_ (i := 6) (N := (some 9)) (v := ?_) (a' := ?_) #[true, true, true, true, true, true, true, false, false, false, false, false, false] rfl rfl (by kernel_rfl) (fun _ _ _ h => h) (Or.inl ⟨by rfl, ?_⟩) hHeld ?_ ?_
  rotate_left
  · rintro w' ⟨s0, s1, s2, s3⟩
    go_simp
    with_reducible rfl
  rotate_left
  · simp only [Act.put, List.setIfInBounds_toArray, List.set_cons_zero, List.set_cons_succ, i64_w, i32_w]
    rfl
  refine pure_ (i := 7) (N := (some 10)) (v := ?_) (a' := ?_) #[true, true, true, true, true, true, true, true, false, false, false, false, false] rfl rfl (by kernel_rfl) (fun _ _ _ h => h) (Or.inl ⟨by rfl, ?_⟩) ?_ ?_
  rotate_left
  · intro w'
    go_simp
    with_reducible rfl
  rotate_left
  · simp only [Act.put, List.setIfInBounds_toArray, List.set_cons_zero, List.set_cons_succ, i64_w, i32_w]
    rfl
  refine one_ (i := 8) (N := (some 11)) #[true, true, true, true, true, true, true, true, true, false, false, false, false] rfl rfl (by kernel_rfl) (by decide) (fun K hK => ?_)
  refine value_ (by rfl) rfl (by go_simp; exact ⟨rfl, rfl⟩) ?_
  refine hK.out _ _ ⟨(World.cell?_alloc_lt _ _ _ (by simpa using l0)).trans hHeld.1, (World.cell?_alloc_lt _ _ _ (by simpa using l1)).trans hHeld.2.1, (World.cell?_alloc_lt _ _ _ (by simpa using l2)).trans hHeld.2.2.1, (World.cell?_alloc_lt _ _ _ (by simpa using lg)).trans hHeld.2.2.2⟩ (fun hHeld => ?_)
  clear hK K
  refine norm_ (a' := ?_) ?_ ?_
  rotate_left
  · show Act.put _ (some 11) _ = _
    simp only [Act.put, List.setIfInBounds_toArray, List.set_cons_zero, List.set_cons_succ, i64_w, i32_w]
    rfl
  refine one_ (i := 9) (N := (some 12)) #[true, true, true, true, true, true, true, true, true, true, false, false, false] rfl rfl (by kernel_rfl) (by decide) (fun K hK => ?_)
  refine step_append_lies _ (by rfl) _ _ _ (by rfl) B 76 i0 _ 2 24 Try.underlying41 hi hz0 hz1 hz2 rfl (by omega) v2 n xs (by rfl) ((HO.out.alloc _).drew) ⟨w.heap.size, 0, none⟩ 1 1 [.int .i64 x, .string s] (by rfl) (by rfl) (World.news_of_block (cs := #[.int .i64 x, .string s]) (t := 76) (fr := (0, 0)) (heap_alloc_new w _)) (by simp [Value.oneCell']) (by omega) (by unfold maxLen; omega) (by omega) (by simp; omega) (w.heap.size + 1) (by simp) ?_
  intro gg cap w1 hown1 hgrow hat hlt
  have hfz : w1.frozen? ⟨g, 1, none⟩ = false := (hgrow.frozen_far _ (by simp; omega) (Ne.symm neg)).trans ((HK.out.alloc _).drew.frozen 1)
  refine hK.out _ _ ⟨(hgrow.cell_far _ (by simp; omega) (Ne.symm ne0)).trans hHeld.1, (hgrow.cell_far _ (by simp; omega) (Ne.symm ne1)).trans hHeld.2.1, (hgrow.cell_far _ (by simp; omega) (Ne.symm ne2)).trans hHeld.2.2.1, (hgrow.cell_far _ (by simp; omega) (Ne.symm neg)).trans hHeld.2.2.2⟩ (fun hHeld => ?_)
  clear hK K
  refine norm_ (a' := ?_) ?_ ?_
  rotate_left
  · show Act.put _ (some 12) _ = _
    simp only [Act.put, List.setIfInBounds_toArray, List.set_cons_zero, List.set_cons_succ, i64_w, i32_w]
    rfl
  refine pure_ (i := 10) (N := (some 13)) (v := ?_) (a' := ?_) #[true, true, true, true, true, true, true, true, true, true, true, false, false] rfl rfl (by kernel_rfl) (fun _ _ _ h => h) (Or.inl ⟨by rfl, ?_⟩) ?_ ?_
  rotate_left
  · intro w'
    go_simp
    with_reducible rfl
  rotate_left
  · simp only [Act.put, List.setIfInBounds_toArray, List.set_cons_zero, List.set_cons_succ, i64_w, i32_w]
    rfl
  refine pure_ (i := 11) (N := (some 14)) (v := ?_) (a' := ?_) #[true, true, true, true, true, true, true, true, true, true, true, true, false] rfl rfl (by kernel_rfl) (fun _ _ _ h => h) (Or.inl ⟨by rfl, ?_⟩) ?_ ?_
  rotate_left
  · intro w'
    go_simp
    with_reducible rfl
  rotate_left
  · simp only [Act.put, List.setIfInBounds_toArray, List.set_cons_zero, List.set_cons_succ, i64_w, i32_w]
    rfl
  refine last_ (i := 12) (N := none) #[true, true, true, true, true, true, true, true, true, true, true, true, true] rfl rfl (by kernel_rfl) (by decide) (fun K hK => ?_)
  refine skip_ (by rfl) rfl (by go_simp; rfl) ?_
  refine hK.out _ _ ?_
  clear hK K
  refine done_ (by kernel_rfl) ?_
  go_wp2_with fail
  have hgB : Below B w w1 := Below.grown ((bel_alloc (Below.refl _ _) _).mono hBw).drew hgrow (by simp; omega) (fun k hk => (own_lt HO.out k hk).1)
  have hk3 : Blk w1 g 71 [v1, v2, .int .i64 D.lim, .int .i64 D.fuse, .bool D.down] := ((HK.out.alloc _).drew).grown hgrow (Ne.symm neg)
  have h13 : w1.ownsRow B 9 1 v1 D.st.length (strs D.st) := ((HV.out.alloc _).drew).kept hgrow HN.out
  have h23 : w1.ownsRow B 76 2 (.slice (some ⟨gg, 0, none⟩) (n + 1) cap) (D.wt ++ [(x, s)]).length (wcells (D.wt ++ [(x, s)])) := by
    rw [HX.out, HL.out]
    exact hown1
  go_end0
  exact ⟨rfl, ⟨hB, v1, _, hk3.set_ 1 _, own_set_far h13 (own_blk_ne h13 hk3 (by decide)) _ _, own_set_far h23 (own_blk_ne h23 hk3 (by decide)) _ _⟩, low_set hgB hB 1 _⟩
end Go.Proofs.Ytofmlmgdbcjeoaa.Dsk
