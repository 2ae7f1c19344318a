/- What this text proves: the law DiskCopies answers true at every list of pairs and every list of bytes. -/
import Derived.Test.YtofmlmgdbcjeoaaCopP
namespace Go.Proofs.Ytofmlmgdbcjeoaa.Dsk
open Go Go.RowKit Go.Proofs Go.Proofs.Ytofmlmgdbcjeoaa.Base Go.Proofs.YtofmlmgdbcjeoaaW.PrintLast
set_option linter.unusedSimpArgs false

set_option maxHeartbeats 12800000 in
set_option maxRecDepth 100000 in
theorem copies_law (A A2 : Option Addr) (c c2 : Nat) (l : List (UInt8 × UInt8)) (ch : List Nat) (w : World) (hl : PairArg w A l) (hch : ByteArg w.heap.size w A2 ch) : Calls Try.prog 7 #[.slice A l.length c, .slice A2 ch.length c2] w fun e w' => e = .returned (.bool true) ∧ Below w.heap.size w w' := by
  obtain ⟨n, hn⟩ : ∃ n, l.length = n := ⟨_, rfl⟩
  obtain ⟨m, hm⟩ : ∃ m, ch.length = m := ⟨_, rfl⟩
  have HN := Lib.hid hn; have HM := Lib.hid hm
  have HP := Lib.hid hl; have HC := Lib.hid hch
  rw [hn, hm]
  clear hn hm hl hch
  by_cases h30 : 30 < n ∨ 60 < m
  · have EX : ∀ W : World, Calls Try.prog 10 #[] W fun e w' => e = .returned (.bool true) ∧ Below W.heap.size W w' := wakes_calls
    have EX := Lib.hid EX
    by_cases h3 : 30 < n
    · have h3' : (30 : Int) < n := by omega
      clear h30
      go_enter Try.func7, Try.ntmps7
      go_wp2_with fail
      ((with_reducible refine (EX.out _).mono ?_); rintro e w1 ⟨rfl, hl⟩)
      go_wp2_with fail
      go_ret
      exact ⟨rfl, hl⟩
    · have h3' : ¬ (30 : Int) < n := by omega
      have h6' : (60 : Int) < m := by omega
      clear h30 h3
      go_enter Try.func7, Try.ntmps7
      go_wp2_with fail
      ((with_reducible refine (EX.out _).mono ?_); rintro e w1 ⟨rfl, hl⟩)
      go_wp2_with fail
      go_ret
      exact ⟨rfl, hl⟩
  have hn30 : n ≤ 30 := by omega
  have h3' : ¬ (30 : Int) < n := by omega
  have h6' : ¬ (60 : Int) < m := by omega
  clear h30
  have HNW := Lib.hid (new_calls w.heap.size 5 w (Nat.le_refl _))
  rw [g4_good 5 (by decide)] at HNW
  go_enter Try.func7, Try.ntmps7
  go_wp2_with fail
  ((with_reducible refine HNW.out.mono ?_); rintro e w0 ⟨hl, ⟨h, _⟩ | ⟨_, g, rfl, hI⟩⟩)
  · cases h
  have C0 := Lib.hid (grow_f hI hl.size (fine_new [] 5 (g4_good 5 (by decide))) 4)
  rw [g4_grow 5 (by decide)] at C0
  have L0 := Lib.hid hl
  clear hl hI HNW
  go_wp2_with fail
  ((with_reducible refine C0.out.mono ?_); rintro e w1 ⟨rfl, hI, hl⟩)
  have I1 := Lib.hid hI
  have L1 := Lib.hid (L0.out.trans hl)
  clear hI hl C0 L0
  go_wp2_with fail
  go_loopw [7] (fun i wr => ∃ (j : Nat) (D : DM) (now : List UInt8), j ≤ n ∧ i = .int .i64 j ∧ IsD w.heap.size wr g D ∧ Below w.heap.size w wr ∧ FourJ j D now) (fun i _ => n - (intOf i).toNat)
  case atStart => exact ⟨0, G4' 5, [0, 0, 0, 0], Nat.zero_le _, rfl, I1.out, L1.out, fourJ_zero 5 (by decide)⟩
  case round =>
    obtain ⟨j, D, now, hj, rfl, hI, hlow, hJ⟩ := hrel
    have I3 := Lib.hid hI; have L3 := Lib.hid hlow; have J3 := Lib.hid hJ
    clear hI hlow hJ I1 L1
    by_cases hlt : j < n
    · have hjn : (j : Int) < n := by omega
      have hjl : j < l.length := by rw [HN.out]; exact hlt
      obtain ⟨b, o, rfl, hb, hc0, hc1⟩ := (HP.out.below L3.out) j hjl
      generalize l[j] = z at *
      obtain ⟨z0, z1⟩ := z
      simp only at hc0 hc1
      have hz0 := z0.toNat_lt
      have hfl := fun W => fill_calls z1 W
      rw [show bs (pageL z1) = pg z1 from rfl] at hfl
      have HFL := Lib.hid hfl
      clear hfl
      generalize z0.toNat = q0 at *
      have hx : 0 ≤ (q0 : Int) % 4 ∧ (q0 : Int) % 4 < 4 := by omega
      obtain ⟨x, hxx⟩ := Int.eq_ofNat_of_zero_le hx.1
      obtain ⟨e1, hJ⟩ := J3.out.write x z1 (by omega)
      have cw := fun (W : World) (hI : IsD w.heap.size W g D) (hB : w.heap.size ≤ W.heap.size) => write_f hI hB J3.out.fine (by omega) (x : Int) (pg z1)
      rw [e1] at cw
      have CW := Lib.hid cw
      have J5 := Lib.hid hJ
      clear hJ e1 cw
      generalize ({ D with wt := D.wt ++ [(x, pg z1)] } : DM) = D5 at *
      have hx0 : IntKind.i64.wrap (q0 : Int) = q0 := IntWalk.i64_in _ (by omega)
      have ht : (q0 : Int).tmod 4 = x := (Int.tmod_eq_emod_of_nonneg (by omega)).trans hxx
      clear hxx
      go_wp2_with fail
      refine start_ (n := 16) (S := fun w' => w'.cell? ⟨b, o + j * 2, none⟩ = some (.int .u8 (q0 : Nat)) ∧ w'.cell? ⟨b, o + j * 2 + 1, none⟩ = some (.int .u8 z1.toNat) ∧ b < w'.heap.size ∧ IsD w.heap.size w' g D ∧ Below w.heap.size w w') (ds := [14]) #[false, false, false, false, false, false, false, false, false, false, false, false, false, false, false, false] (by kernel_rfl) rfl rfl ⟨hc0, hc1, hb, I3.out.drew, L3.out.drew⟩ (fun hHeld => ?_)
      refine pure_ (i := 0) (N := (some 41)) (v := ?_) (a' := ?_) #[true, false, false, false, false, false, false, false, false, false, false, false, false, false, false, false] rfl rfl (by kernel_rfl) (fun _ _ _ h => h) (Or.inl ⟨by rfl, ?_⟩) ?_ ?_
      rotate_left
      · intro w'
        go_simp
        with_reducible rfl
      rotate_left
      · simp only [Act.put, List.setIfInBounds_toArray, List.set_cons_zero, List.set_cons_succ, i64_w, i32_w]
        rfl
      refine pure_ (i := 1) (N := (some 42)) (v := ?_) (a' := ?_) #[true, true, false, false, false, false, false, false, false, false, false, false, false, false, false, false] rfl rfl (by kernel_rfl) (fun _ _ _ h => h) (Or.inl ⟨by rfl, ?_⟩) ?_ ?_
      rotate_left
      · intro w'
        go_simp
        with_reducible rfl
      rotate_left
      · simp only [Act.put, List.setIfInBounds_toArray, List.set_cons_zero, List.set_cons_succ, i64_w, i32_w]
        rfl
      refine pure_ (i := 2) (N := (some 43)) (v := ?_) (a' := ?_) #[true, true, true, false, false, false, false, false, false, false, false, false, false, false, false, false] rfl rfl (by kernel_rfl) (fun _ _ _ h => h) (Or.inl ⟨by rfl, ?_⟩) ?_ ?_
      rotate_left
      · intro w'
        go_simp
        with_reducible rfl
      rotate_left
      · simp only [Act.put, List.setIfInBounds_toArray, List.set_cons_zero, List.set_cons_succ, i64_w, i32_w]
        rfl
      refine pure_ (i := 3) (N := (some 44)) (v := ?_) (a' := ?_) #[true, true, true, true, false, false, false, false, false, false, false, false, false, false, false, false] rfl rfl (by kernel_rfl) (fun _ _ _ h => h) (Or.inl ⟨by rfl, ?_⟩) ?_ ?_
      rotate_left
      · intro w'
        go_simp
        with_reducible rfl
      rotate_left
      · simp only [Act.put, List.setIfInBounds_toArray, List.set_cons_zero, List.set_cons_succ, i64_w, i32_w]
        rfl
      refine pure_ (i := 4) (N := (some 45)) (v := ?_) (a' := ?_) #[true, true, true, true, true, false, false, false, false, false, false, false, false, false, false, false] rfl rfl (by kernel_rfl) (fun _ _ _ h => h) (Or.inl ⟨by rfl, ?_⟩) ?_ ?_
      rotate_left
      · intro w'
        go_simp
        with_reducible rfl
      rotate_left
      · simp only [Act.put, List.setIfInBounds_toArray, List.set_cons_zero, List.set_cons_succ, i64_w, i32_w]
        rfl
      refine take_ (i := 5) (N := (some 46)) (v := ?_) (a' := ?_) #[true, true, true, true, true, true, false, false, false, false, false, false, false, false, false, false] rfl rfl (by kernel_rfl) (fun _ _ _ h => h) (Or.inl ⟨by rfl, ?_⟩) hHeld ?_ ?_
      rotate_left
      · rintro w' ⟨s0, s1, _, _, _⟩
        go_simp
        with_reducible rfl
      rotate_left
      · simp only [Act.put, List.setIfInBounds_toArray, List.set_cons_zero, List.set_cons_succ, i64_w, i32_w]
        rfl
      refine pure_ (i := 6) (N := (some 47)) (v := ?_) (a' := ?_) #[true, true, true, true, true, true, true, false, false, false, false, false, false, false, false, false] rfl rfl (by kernel_rfl) (fun _ _ _ h => h) (Or.inl ⟨by rfl, ?_⟩) ?_ ?_
      rotate_left
      · intro w'
        go_simp
        with_reducible rfl
      rotate_left
      · simp only [Act.put, List.setIfInBounds_toArray, List.set_cons_zero, List.set_cons_succ, i64_w, i32_w]
        rfl
      refine pure_ (i := 7) (N := (some 48)) (v := ?_) (a' := ?_) #[true, true, true, true, true, true, true, true, false, false, false, false, false, false, false, false] rfl rfl (by kernel_rfl) (fun _ _ _ h => h) (Or.inl ⟨by rfl, ?_⟩) ?_ ?_
      rotate_left
      · intro w'
        go_simp
        with_reducible rfl
      rotate_left
      · simp only [Act.put, List.setIfInBounds_toArray, List.set_cons_zero, List.set_cons_succ, i64_w, i32_w]
        rfl
      refine pure_ (i := 8) (N := (some 49)) (v := ?_) (a' := ?_) #[true, true, true, true, true, true, true, true, true, false, false, false, false, false, false, false] rfl rfl (by kernel_rfl) (fun _ _ _ h => h) (Or.inl ⟨by rfl, ?_⟩) ?_ ?_
      rotate_left
      · intro w'
        go_simp
        with_reducible rfl
      rotate_left
      · simp only [Act.put, List.setIfInBounds_toArray, List.set_cons_zero, List.set_cons_succ, i64_w, i32_w]
        rfl
      refine pure_ (i := 9) (N := (some 50)) (v := ?_) (a' := ?_) #[true, true, true, true, true, true, true, true, true, true, false, false, false, false, false, false] rfl rfl (by kernel_rfl) (fun _ _ _ h => h) (Or.inl ⟨by rfl, ?_⟩) ?_ ?_
      rotate_left
      · intro w'
        go_simp
        with_reducible rfl
      rotate_left
      · simp only [Act.put, List.setIfInBounds_toArray, List.set_cons_zero, List.set_cons_succ, i64_w, i32_w]
        rfl
      refine pure_ (i := 10) (N := (some 51)) (v := ?_) (a' := ?_) #[true, true, true, true, true, true, true, true, true, true, true, false, false, false, false, false] rfl rfl (by kernel_rfl) (fun _ _ _ h => h) (Or.inl ⟨by rfl, ?_⟩) ?_ ?_
      rotate_left
      · intro w'
        go_simp
        with_reducible rfl
      rotate_left
      · simp only [Act.put, List.setIfInBounds_toArray, List.set_cons_zero, List.set_cons_succ, i64_w, i32_w]
        rfl
      refine pure_ (i := 11) (N := (some 52)) (v := ?_) (a' := ?_) #[true, true, true, true, true, true, true, true, true, true, true, true, false, false, false, false] rfl rfl (by kernel_rfl) (fun _ _ _ h => h) (Or.inl ⟨by rfl, ?_⟩) ?_ ?_
      rotate_left
      · intro w'
        go_simp
        with_reducible rfl
      rotate_left
      · simp only [Act.put, List.setIfInBounds_toArray, List.set_cons_zero, List.set_cons_succ, i64_w, i32_w]
        rfl
      refine take_ (i := 12) (N := (some 53)) (v := ?_) (a' := ?_) #[true, true, true, true, true, true, true, true, true, true, true, true, true, false, false, false] rfl rfl (by kernel_rfl) (fun _ _ _ h => h) (Or.inl ⟨by rfl, ?_⟩) hHeld ?_ ?_
      rotate_left
      · rintro w' ⟨s0, s1, _, _, _⟩
        go_simp
        with_reducible rfl
      rotate_left
      · simp only [Act.put, List.setIfInBounds_toArray, List.set_cons_zero, List.set_cons_succ, i64_w, i32_w]
        rfl
      refine one_ (i := 13) (N := (some 54)) #[true, true, true, true, true, true, true, true, true, true, true, true, true, true, false, false] rfl rfl (by kernel_rfl) (by decide) (fun K hK => ?_)
      refine goes_ Try.func14 (by kernel_rfl) rfl #[.int .u8 z1.toNat] (by rfl) rfl rfl (by (try simp only [List.map_toArray, List.map_cons, List.map_nil]); first | done | rfl) ?_
      refine (HFL.out _).mono ?_
      rintro e x1 ⟨rfl, hb⟩
      obtain ⟨s0, s1, s2, s3, s4⟩ := hHeld
      have hx := s3.below hb; have hy := low_then s4 s4.size hb; have t0 := (hb.cell (p := ⟨b, o + j * 2, none⟩) s2).trans s0; have t1 := (hb.cell (p := ⟨b, o + j * 2 + 1, none⟩) s2).trans s1; have t2 := Nat.lt_of_lt_of_le s2 hb.size
      clear s0 s1 s2 s3 s4 hb
      refine ⟨_, rfl, ?_⟩
      refine hK.out _ _ ⟨t0, t1, t2, hx, hy⟩ (fun hHeld => ?_)
      clear hK K
      refine norm_ (a' := ?_) ?_ ?_
      rotate_left
      · show Act.put _ (some 54) _ = _
        simp only [Act.put, List.setIfInBounds_toArray, List.set_cons_zero, List.set_cons_succ, i64_w, i32_w]
        rfl
      refine last_ (i := 14) (N := (some 55)) #[true, true, true, true, true, true, true, true, true, true, true, true, true, true, true, false] rfl rfl (by kernel_rfl) (by decide) (fun K hK => ?_)
      refine goes_ Try.func13 (by kernel_rfl) rfl #[.pointer (some ⟨g, 0, none⟩), .int .i64 x, .string (pg z1)] (by rfl) rfl rfl (by (try simp only [List.map_toArray, List.map_cons, List.map_nil]); first | done | rfl) ?_
      refine (CW.out _ hHeld.2.2.2.1 hHeld.2.2.2.2.size).mono ?_
      rintro e x1 ⟨rfl, hI, hl⟩
      have I5 := Lib.hid hI; have L5 := Lib.hid (hHeld.2.2.2.2.trans hl)
      clear hI hl hHeld
      refine ⟨_, rfl, ?_⟩
      refine hK.out _ _ ?_
      clear hK K
      refine norm_ (a' := ?_) ?_ ?_
      rotate_left
      · show Act.put _ (some 55) _ = _
        simp only [Act.put, List.setIfInBounds_toArray, List.set_cons_zero, List.set_cons_succ, i64_w, i32_w]
        rfl
      refine pure_ (i := 15) (N := (some 56)) (v := ?_) (a' := ?_) #[true, true, true, true, true, true, true, true, true, true, true, true, true, true, true, true] rfl rfl (by kernel_rfl) (fun _ _ _ h => h) (Or.inl ⟨by rfl, ?_⟩) ?_ ?_
      rotate_left
      · intro w'
        go_simp
        with_reducible rfl
      rotate_left
      · simp only [Act.put, List.setIfInBounds_toArray, List.set_cons_zero, List.set_cons_succ, i64_w, i32_w]
        rfl
      refine done_ (by kernel_rfl) ?_
      go_wp2_with fail
      exact ⟨⟨j + 1, D5, now.set x z1, by omega, by go_num, I5.out, L5.out, J5.out⟩, by simp [intOf]; omega⟩
    · obtain rfl : j = n := by omega
      have C3 := Lib.hid (pages_f I3.out J3.out.fine (by omega))
      rw [J3.out.len, J3.out.all] at C3
      go_wp2_with fail
      ((with_reducible refine C3.out.mono ?_); rintro e w3 ⟨v, rfl, hv, hl⟩)
      obtain ⟨AP, cP, rfl⟩ := own_form hv
      have RP := Lib.hid (own_strArg hv)
      have I4 := Lib.hid (I3.out.below hl); have L4 := Lib.hid (low_then L3.out L3.out.size hl)
      have hAP : AP = none → now.map pg = [] := fun e => by
        have := RP.out 0 (by rw [List.length_map, J3.out.now4]; omega)
        obtain ⟨_, _, e', _⟩ := this
        rw [e] at e'
        cases e'
      have hoff : ∀ a, AP = some a → ∃ b o, a = ⟨b, o, none⟩ := fun a ha => by
        obtain ⟨b, o, e', _⟩ := RP.out 0 (by rw [List.length_map, J3.out.now4]; omega)
        rw [ha] at e'
        exact ⟨b, o, by injection e'⟩
      have C4 := from_calls w3.heap.size AP cP (now.map pg) 9 w3 (Nat.le_refl _) RP.out hAP hoff (by rw [List.length_map, J3.out.now4]; omega)
      rw [good_pages now 9 (by decide) (by rw [J3.out.now4]; decide), show (now.map pg).length = 4 by rw [List.length_map, J3.out.now4]] at C4
      have C4 := Lib.hid C4
      have FN := Lib.hid (fine_new (now.map pg) 9 (good_pages now 9 (by decide) (by rw [J3.out.now4]; decide)))
      have HL4 := Lib.hid (show (now.map pg).length = 4 by rw [List.length_map, J3.out.now4])
      have HV := Lib.hid J3.out.all
      have HD4 := Lib.hid J3.out.len
      have FD := Lib.hid J3.out.fine
      clear hl I3 L3 hv C3 hAP hoff J3
      generalize now.map pg = P at *
      go_wp2_with fail
      ((with_reducible refine C4.out.mono ?_); rintro e w4 ⟨hl, ⟨h, _⟩ | ⟨_, g2, rfl, hI⟩⟩)
      · cases h
      have E5 := Lib.hid hI; have I5 := Lib.hid (I4.out.below hl); have L5 := Lib.hid (low_then L4.out L4.out.size hl)
      clear hI hl C4 I4 RP
      -- e's pages, d's pages, held against each other
      have C5 := Lib.hid (pages_f E5.out FN.out (by omega))
      rw [allV_new, show (newD P 9).st.length = 4 from HL4.out] at C5
      go_wp2_with fail
      ((with_reducible refine C5.out.mono ?_); rintro e w5 ⟨v, rfl, hv, hl⟩)
      obtain ⟨A5, c5, rfl⟩ := own_form hv
      have R5 := Lib.hid (own_strArg hv)
      have E6 := Lib.hid (E5.out.below hl); have I6 := Lib.hid (I5.out.below hl); have L6 := Lib.hid (low_then L5.out L5.out.size hl)
      clear hl hv C5 E5 I5 L5
      have C6 := Lib.hid (pages_f I6.out FD.out (by omega))
      rw [HV.out, HD4.out] at C6
      go_wp2_with fail
      ((with_reducible refine C6.out.mono ?_); rintro e w6 ⟨v, rfl, hv, hl⟩)
      obtain ⟨A6, c6, rfl⟩ := own_form hv
      have R6 := Lib.hid (own_strArg hv); have R7 := Lib.hid (R5.out.below hl)
      have E7 := Lib.hid (E6.out.below hl); have L7 := Lib.hid (low_then L6.out L6.out.size hl)
      clear hl hv C6 E6 I6 L6 R5
      have C7 := texts_at A5 A6 c5 c6 4 4 P P w6 R7.out R6.out HL4.out HL4.out (by omega)
      rw [decide_eq_true (show P = P from rfl)] at C7
      have C7 := Lib.hid C7
      go_wp2_with fail
      ((with_reducible refine C7.out.mono ?_); rintro e w7 ⟨rfl, hl⟩)
      have E8 := Lib.hid (E7.out.below hl); have L8 := Lib.hid (low_then L7.out L7.out.size hl)
      clear hl C7 E7 L7 R6 R7
      have C8 := Lib.hid (wait_f E8.out FN.out (by omega))
      rw [show (newD P 9).wt.length = 0 from rfl] at C8
      go_wp2_with fail
      ((with_reducible refine C8.out.mono ?_); rintro e w8 ⟨v, rfl, hv, hl⟩)
      obtain ⟨A8, c8, rfl⟩ := own_form hv
      have E9 := Lib.hid (E8.out.below hl); have L9 := Lib.hid (low_then L8.out L8.out.size hl)
      clear hl hv C8 E8 L8
      have C9 := Lib.hid (limit_calls _ g2 _ w8 E9.out)
      rw [show (newD P 9).lim = 9 from rfl] at C9
      go_wp2_with fail
      ((with_reducible refine C9.out.mono ?_); rintro e w9 ⟨rfl, rfl⟩)
      clear C9
      have C9 := Lib.hid (length_calls _ g2 _ w8 E9.out)
      rw [show (newD P 9).st.length = 4 from HL4.out] at C9
      go_wp2_with fail
      ((with_reducible refine C9.out.mono ?_); rintro e w9 ⟨rfl, rfl⟩)
      clear C9
      have C9 := Lib.hid (pages_f E9.out FN.out (by omega))
      rw [allV_new, show (newD P 9).st.length = 4 from HL4.out] at C9
      go_wp2_with fail
      ((with_reducible refine C9.out.mono ?_); rintro e w9 ⟨v, rfl, hv, hl⟩)
      obtain ⟨AW, cW, rfl⟩ := own_form hv
      have RW := Lib.hid hv
      have EF := Lib.hid ((E9.out.isF (F := fun k => w3.heap.size ≤ k ∧ k < w8.heap.size) (fun k h1 h2 => ⟨h1, h2⟩)).below hl); have L10 := Lib.hid (low_then L9.out L9.out.size hl)
      have C10 := crashF_f EF.out FN.out (by omega) A2 c2 ch (by
        obtain ⟨h1, h2⟩ := HC.out
        refine ⟨h1, h2.imp id ?_⟩
        rintro ⟨b, o, e, hor, hlt', hc⟩
        exact ⟨b, o, e, .inl (fun hk => by have := L4.out.size; omega), Nat.lt_of_lt_of_le hlt' L10.out.size, fun j hj => (L10.out.cell (p := ⟨b, o + j, none⟩) hlt').trans (hc j hj)⟩)
      rw [crash_empty, HM.out] at C10
      have C10 := Lib.hid C10
      have hw38 : w3.heap.size ≤ w8.heap.size := by have := E9.out.1; have := E9.out.lt; omega
      clear hl hv C9 E9 L9
      go_wp2_with fail
      ((with_reducible refine C10.out.mono ?_); rintro e w10 ⟨rfl, hI, hl⟩)
      have EG := Lib.hid hI; have L11 := Lib.hid (L10.out.trans (hl.below L10.out.size (fun k hk => Nat.le_trans L4.out.size hk.1)))
      have RX := own_kept RW.out (fun k hk => hl.block k (own_lt RW.out k hk).2 (fun h => by have := (own_lt RW.out k hk).1; omega))
      have RX := Lib.hid (own_strArg RX)
      clear hI hl C10 EF L10 RW
      have C11 := Lib.hid (pages_f EG.out.isD FN.out (by omega))
      rw [allV_new, show (newD P 9).st.length = 4 from HL4.out] at C11
      go_wp2_with fail
      ((with_reducible refine C11.out.mono ?_); rintro e w11 ⟨v, rfl, hv, hl⟩)
      obtain ⟨AY, cY, rfl⟩ := own_form hv
      have RY := Lib.hid (own_strArg hv); have RZ := Lib.hid (RX.out.below hl); have L12 := Lib.hid (low_then L11.out L11.out.size hl)
      clear hl hv C11 EG L11 RX
      have C12 := texts_at AY AW cY cW 4 4 P P w11 RY.out RZ.out HL4.out HL4.out (by omega)
      rw [decide_eq_true (show P = P from rfl)] at C12
      have C12 := Lib.hid C12
      go_wp2_with fail
      ((with_reducible refine C12.out.mono ?_); rintro e w12 ⟨rfl, hl⟩)
      have L13 := Lib.hid (low_then L12.out L12.out.size hl)
      clear hl C12 L12
      go_wp2_with fail
      ((with_reducible refine (wakes_calls _).mono ?_); rintro e w13 ⟨rfl, hl⟩)
      have L14 := Lib.hid (low_then L13.out L13.out.size hl)
      clear hl L13
      go_wp2_with fail
      go_ret
      exact ⟨rfl, L14.out⟩
end Go.Proofs.Ytofmlmgdbcjeoaa.Dsk
