/- What this text proves: what a disk's Grow comes to. -/
import Derived.Test.YtofmlmgdbcjeoaaDskD
import Derived.Test.YtofmlmgdbcjeoaaShelf
namespace Go.Proofs.Ytofmlmgdbcjeoaa.Dsk
open Go Go.RowKit Go.Proofs.Ytofmlmgdbcjeoaa.Base Go.Proofs.YtofmlmgdbcjeoaaW.PrintLast

theorem info9 : (Try.prog.info? 9).map (fun i => (i.zero, i.size, i.bytes)) = some (some (.string ⟨#[]⟩), 1, 16) := by kernel_rfl
def page0 : ByteArray := bs (List.replicate 256 0)
theorem page0_repeat : (⟨(Lib.repeatL (⟨#[0]⟩ : ByteArray).data.toList 256).toArray⟩ : ByteArray) = page0 := by
  rw [show (⟨#[0]⟩ : ByteArray).data.toList = List.replicate 1 0 from rfl, Lib.repeatL_replicate]
  rfl
theorem repeat_calls (w : World) : Calls Try.prog 40 #[.string ⟨#[0]⟩, .int .i64 256] w fun e w' => e = .returned (.string page0) ∧ Below w.heap.size w w' := by
  have h := Try.strings_Repeat ⟨#[0]⟩ 256 w (by omega) (by decide)
  rwa [page0_repeat] at h
theorem blk_ne {w : World} {g g' : Nat} {t t' : TypeId} {cs cs' : List Value} (h : Blk w g t cs) (h' : Blk w g' t' cs') (hne : t ≠ t') : g ≠ g' := by
  rintro rfl
  unfold Blk at h h'
  rw [h] at h'
  injection h' with h'
  injection h' with _ h'
  exact hne h'
theorem bel_low {B : Nat} {w W : World} (h : Below B w W) {n : Nat} : Below B w (W.drewN n) := ⟨h.os, h.tape, h.output, h.size, h.block⟩
theorem IsD.drewN {B g : Nat} {w : World} {D : DM} (h : IsD B w g D) (n : Nat) : IsD B (w.drewN n) g D := h.below (bel_drewN (Below.refl _ _) n)
def growL (st : List ByteArray) (n : Nat) : List ByteArray := st ++ List.replicate (n - st.length) page0
theorem growL_full (st : List ByteArray) (n : Nat) (h : n ≤ st.length) : growL st n = st := by simp [growL, Nat.sub_eq_zero_of_le h]
theorem growL_step (st : List ByteArray) (n : Nat) (h : st.length < n) : growL (st ++ [page0]) n = growL st n := by
  unfold growL
  rw [List.append_assoc, show n - st.length = (n - (st ++ [page0]).length) + 1 by simp; omega, List.replicate_succ]
  rfl
theorem strs_snoc (l : List ByteArray) (s : ByteArray) : strs (l ++ [s]) = strs l ++ [.string s] := by simp [strs]
theorem strs_length (l : List ByteArray) : (strs l).length = l.length := by simp [strs]

set_option linter.unusedSimpArgs false
set_option maxRecDepth 100000 in
set_option maxHeartbeats 3200000 in
theorem grow1_calls (B g b0 b1 : Nat) (D : DM) (n : Nat) (w : World) (h : IsD B w g D) (hBw : B ≤ w.heap.size) (k0 : Blk w b0 25 [.pointer (some ⟨g, 0, none⟩)]) (k1 : Blk w b1 3 [.int .i64 n]) (hn : n ≤ 1000000) (hs : D.st.length ≤ 1000000) :
    Calls Try.prog 39 #[.pointer (some ⟨b0, 0, none⟩), .pointer (some ⟨b1, 0, none⟩)] w fun e w' => e = .returned (.tuple #[]) ∧ IsD B w' g { D with st := growL D.st n } ∧ Below B w w' := by
  obtain ⟨i0, hi, hz0, hz1, hz2⟩ := info_parts info9
  have HD := Lib.hid h
  have HK0 := Lib.hid k0; have HK1 := Lib.hid k1
  have HR := Lib.hid repeat_calls
  clear h k0 k1
  go_enter Try.func39, Try.ntmps39
  go_wp2_with fail
  go_loopg [] (n - D.st.length) (fun q wr => ∃ st : List ByteArray, q = n - st.length ∧ st.length ≤ 1000000 ∧ growL st n = growL D.st n ∧ Blk wr b0 25 [.pointer (some ⟨g, 0, none⟩)] ∧ Blk wr b1 3 [.int .i64 n] ∧ IsD B wr g { D with st := st } ∧ Below B w wr ∧ B ≤ wr.heap.size)
  case atStart => exact ⟨D.st, rfl, hs, rfl, HK0.out, HK1.out, HD.out, Below.refl _ _, hBw⟩
  case round =>
    obtain ⟨st, rfl, hsl, hgrow, r0, r1, ⟨hB, v1, v2, rg, h1, h2⟩, hlow, hBr⟩ := hrel
    simp only at rg h1 h2
    obtain ⟨A1, c1, rfl⟩ := own_form h1
    have c0 := r0.cell 0
    have d0 := r1.cell 0
    have cg := rg.cell 0
    have R0 := Lib.hid r0; have R1 := Lib.hid r1; have RG := Lib.hid rg; have O1 := Lib.hid h1; have O2 := Lib.hid h2; have HL := Lib.hid hlow
    have HG := Lib.hid hgrow
    have l0 := r0.lt; have l1 := r1.lt; have lg := rg.lt
    have ne0 := own_blk_ne h1 r0 (by decide); have ne1 := own_blk_ne h1 r1 (by decide); have neg := own_blk_ne h1 rg (by decide)
    have HN := Lib.hid (own_own_ne h2 h1 (by decide))
    clear hgrow r0 r1 rg h1 h2 hlow HD HK0 HK1
    by_cases hlt : st.length < n
    · have hlt' : decide ((st.length : Int) < n) = true := by simp; omega
      have HS := Lib.hid (strs_snoc st page0)
      have HGS := Lib.hid (growL_step st n hlt)
      have HLT := Lib.hid hlt
      obtain ⟨m, hm⟩ : ∃ m, st.length = m := ⟨_, rfl⟩
      obtain ⟨xs, hxs⟩ : ∃ xs, strs st = xs := ⟨_, rfl⟩
      have HM := Lib.hid hm
      rw [hm] at O1 hlt' hlt hsl cg RG ne0 ne1 neg HN
      rw [hxs] at O1 HS
      clear hxs hm
      go_wp2_with fail
      go_quiet (fail)
      go_wp2_with fail
      refine start_ (n := 11) (S := fun w' => w'.cell? ⟨b0, 0, none⟩ = some (.pointer (some ⟨g, 0, none⟩)) ∧ w'.cell? ⟨g, 0, none⟩ = some (.slice A1 m c1)) (ds := [10]) #[false, false, false, false, false, false, false, false, false, false, false] (by kernel_rfl) rfl rfl ⟨c0, cg⟩ (fun hHeld => ?_)
      refine take_ (i := 0) (N := (some 9)) (v := ?_) (a' := ?_) #[true, false, false, false, false, false, false, false, false, false, false] rfl rfl (by kernel_rfl) (fun _ _ _ h => h) (Or.inl ⟨by rfl, ?_⟩) hHeld ?_ ?_
      rotate_left
      · rintro w' ⟨s0, s1⟩
        go_simp
        with_reducible rfl
      rotate_left
      · simp only [Act.put, List.setIfInBounds_toArray, List.set_cons_zero, List.set_cons_succ, i64_w, i32_w]
        rfl
      refine take_ (i := 1) (N := (some 10)) (v := ?_) (a' := ?_) #[true, true, false, false, false, false, false, false, false, false, false] rfl rfl (by kernel_rfl) (fun _ _ _ h => h) (Or.inl ⟨by rfl, ?_⟩) hHeld ?_ ?_
      rotate_left
      · rintro w' ⟨s0, s1⟩
        go_simp
        with_reducible rfl
      rotate_left
      · simp only [Act.put, List.setIfInBounds_toArray, List.set_cons_zero, List.set_cons_succ, i64_w, i32_w]
        rfl
      refine pure_ (i := 2) (N := (some 11)) (v := ?_) (a' := ?_) #[true, true, true, false, false, false, false, false, false, false, false] rfl rfl (by kernel_rfl) (fun _ _ _ h => h) (Or.inl ⟨by rfl, ?_⟩) ?_ ?_
      rotate_left
      · intro w'
        go_simp
        with_reducible rfl
      rotate_left
      · simp only [Act.put, List.setIfInBounds_toArray, List.set_cons_zero, List.set_cons_succ, i64_w, i32_w]
        rfl
      refine pure_ (i := 3) (N := (some 12)) (v := ?_) (a' := ?_) #[true, true, true, true, false, false, false, false, false, false, false] rfl rfl (by kernel_rfl) (fun _ _ _ h => h) (Or.inl ⟨by rfl, ?_⟩) ?_ ?_
      rotate_left
      · intro w'
        go_simp
        with_reducible rfl
      rotate_left
      · simp only [Act.put, List.setIfInBounds_toArray, List.set_cons_zero, List.set_cons_succ, i64_w, i32_w]
        rfl
      refine take_ (i := 4) (N := (some 13)) (v := ?_) (a' := ?_) #[true, true, true, true, true, false, false, false, false, false, false] rfl rfl (by kernel_rfl) (fun _ _ _ h => h) (Or.inl ⟨by rfl, ?_⟩) hHeld ?_ ?_
      rotate_left
      · rintro w' ⟨s0, s1⟩
        go_simp
        with_reducible rfl
      rotate_left
      · simp only [Act.put, List.setIfInBounds_toArray, List.set_cons_zero, List.set_cons_succ, i64_w, i32_w]
        rfl
      refine one_ (i := 5) (N := (some 14)) #[true, true, true, true, true, true, false, false, false, false, false] rfl rfl (by kernel_rfl) (by decide) (fun K hK => ?_)
      refine goes_ Try.func40 (by kernel_rfl) rfl #[.string ⟨#[0]⟩, .int .i64 256] (by rfl) rfl rfl (by (try simp only [List.map_toArray, List.map_cons, List.map_nil]); first | done | rfl) ?_
      refine (HR.out _).mono ?_
      rintro e w1 ⟨rfl, hb1⟩
      replace hb1 := bel_then (bel_drew (bel_drewN (Below.refl wr.heap.size wr) _)) hb1
      have q0 := Lib.hid (R0.out.step hb1); have q1 := Lib.hid (R1.out.step hb1); have qg := Lib.hid (RG.out.step hb1); have o1 := Lib.hid (own_below O1.out hb1); have o2 := Lib.hid (own_below O2.out hb1); have ql := Lib.hid (low_then HL.out hBr hb1)
      have l0' := q0.out.lt; have lg' := qg.out.lt; have l1' := q1.out.lt; have hBr' := Nat.le_trans hBr hb1.size
      clear hb1
      refine ⟨_, rfl, ?_⟩
      refine hK.out _ _ ⟨q0.out.cell 0, qg.out.cell 0⟩ (fun hHeld => ?_)
      clear hK K
      refine norm_ (a' := ?_) ?_ ?_
      rotate_left
      · show Act.put _ (some 14) _ = _
        simp only [Act.put, List.setIfInBounds_toArray, List.set_cons_zero, List.set_cons_succ, i64_w, i32_w]
        rfl
      refine one_ (i := 6) (N := (some 15)) #[true, true, true, true, true, true, true, false, false, false, false] rfl rfl (by kernel_rfl) (by decide) (fun K hK => ?_)
      refine value_ (by rfl) rfl (by go_simp; exact ⟨rfl, rfl⟩) ?_
      refine hK.out _ _ ⟨(q0.out.alloc _).cell 0, (qg.out.alloc _).cell 0⟩ (fun hHeld => ?_)
      clear hK K
      refine norm_ (a' := ?_) ?_ ?_
      rotate_left
      · show Act.put _ (some 15) _ = _
        simp only [Act.put, List.setIfInBounds_toArray, List.set_cons_zero, List.set_cons_succ, i64_w, i32_w]
        rfl
      refine one_ (i := 7) (N := (some 16)) #[true, true, true, true, true, true, true, true, false, false, false] rfl rfl (by kernel_rfl) (by decide) (fun K hK => ?_)
      refine step_append_lies _ (by rfl) _ _ _ (by rfl) B 9 i0 _ 1 16 Try.underlying47 hi hz0 hz1 hz2 rfl (by omega) (.slice A1 m c1) m xs (by rfl) (o1.out.alloc _) ⟨w1.heap.size, 0, none⟩ 1 1 [.string page0] (by rfl) (by rfl) (World.news_of_block (cs := #[.string page0]) (t := 9) (fr := (0, 0)) (heap_alloc_new w1 _)) (by simp [Value.oneCell']) (by omega) (by unfold maxLen; omega) (by omega) (by simp; omega) (w1.heap.size + 1) (by simp) ?_
      intro gg cap w2 hown1 hgr hat hl2
      have p0 := Lib.hid ((q0.out.alloc _).grown hgr (Ne.symm ne0)); have p1 := Lib.hid ((q1.out.alloc _).grown hgr (Ne.symm ne1)); have pg := Lib.hid ((qg.out.alloc _).grown hgr (Ne.symm neg)); have p2 := Lib.hid ((o2.out.alloc _).kept hgr HN.out)
      have hgB := Lib.hid (Below.grown (ql.out.alloc hBr' _) hgr (by simp; omega) (fun k hk => (own_lt O1.out k hk).1))
      have hfz : w2.frozen? ⟨g, 0, none⟩ = false := pg.out.frozen 0
      refine hK.out _ _ ⟨p0.out.cell 0, pg.out.cell 0⟩ (fun hHeld => ?_)
      clear hK K
      refine norm_ (a' := ?_) ?_ ?_
      rotate_left
      · show Act.put _ (some 16) _ = _
        simp only [Act.put, List.setIfInBounds_toArray, List.set_cons_zero, List.set_cons_succ, i64_w, i32_w]
        rfl
      refine pure_ (i := 8) (N := (some 17)) (v := ?_) (a' := ?_) #[true, true, true, true, true, true, true, true, true, false, false] rfl rfl (by kernel_rfl) (fun _ _ _ h => h) (Or.inl ⟨by rfl, ?_⟩) ?_ ?_
      rotate_left
      · intro w'
        go_simp
        with_reducible rfl
      rotate_left
      · simp only [Act.put, List.setIfInBounds_toArray, List.set_cons_zero, List.set_cons_succ, i64_w, i32_w]
        rfl
      refine pure_ (i := 9) (N := (some 18)) (v := ?_) (a' := ?_) #[true, true, true, true, true, true, true, true, true, true, false] rfl rfl (by kernel_rfl) (fun _ _ _ h => h) (Or.inl ⟨by rfl, ?_⟩) ?_ ?_
      rotate_left
      · intro w'
        go_simp
        with_reducible rfl
      rotate_left
      · simp only [Act.put, List.setIfInBounds_toArray, List.set_cons_zero, List.set_cons_succ, i64_w, i32_w]
        rfl
      refine last_ (i := 10) (N := none) #[true, true, true, true, true, true, true, true, true, true, true] rfl rfl (by kernel_rfl) (by decide) (fun K hK => ?_)
      refine skip_ (by rfl) rfl (by go_simp; rfl) ?_
      refine hK.out _ _ ?_
      clear hK K
      refine done_ (by kernel_rfl) ?_
      go_wp2_with fail
      go_roundg (n - (st ++ [page0]).length)
      case measure => have := HLT.out; simp; omega
      case rel =>
        refine ⟨st ++ [page0], rfl, by have := HM.out; simp; omega, HGS.out.trans HG.out, ?_, ?_, ⟨hB, .slice (some ⟨gg, 0, none⟩) (m + 1) cap, v2, ?_, ?_, ?_⟩, ?_, ?_⟩
        · exact p0.out.far (blk_ne p0.out pg.out (by decide)) _
        · exact p1.out.far (blk_ne p1.out pg.out (by decide)) _
        · exact pg.out.set_ 0 (.slice (some ⟨gg, 0, none⟩) (m + 1) cap)
        · show World.ownsRow _ B 9 1 _ (st ++ [page0]).length (strs (st ++ [page0]))
          rw [show (st ++ [page0]).length = m + 1 by rw [List.length_append, HM.out]; rfl, HS.out]
          exact own_set_far hown1 (own_blk_ne hown1 pg.out (by decide)) _ _
        · exact own_set_far p2.out (own_blk_ne p2.out pg.out (by decide)) _ _
        · exact low_set hgB.out hB _ _
        · simp [World.setCell]; exact Nat.le_trans (Nat.le_trans hBr' (by simp)) hgr.size
    · have hlt' : decide ((st.length : Int) < n) = false := by simp; omega
      have hge := Lib.hid (growL_full st n (by omega))
      go_wp2_with fail
      go_quiet (fail)
      go_wp2_with fail
      go_end0
      refine ⟨rfl, ?_, bel_low HL.out⟩
      rw [← HG.out, hge.out]
      exact (show IsD B wr g { D with st := st } from ⟨hB, _, _, RG.out, O1.out, O2.out⟩).drewN _
end Go.Proofs.Ytofmlmgdbcjeoaa.Dsk
