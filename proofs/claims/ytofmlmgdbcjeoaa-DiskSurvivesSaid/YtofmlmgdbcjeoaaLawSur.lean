/- What this text proves: the law DiskSurvives answers true at every two lists of pairs and every list of bytes. -/
import Derived.Test.YtofmlmgdbcjeoaaSurP
import Derived.Test.YtofmlmgdbcjeoaaLawLast
namespace Go.Proofs.Ytofmlmgdbcjeoaa.Dsk
open Go Go.RowKit Go.Proofs Go.Proofs.Ytofmlmgdbcjeoaa.Base Go.Proofs.YtofmlmgdbcjeoaaW.PrintLast
set_option linter.unusedSimpArgs false

theorem read_okS (D : DM) (x : Nat) (hd : D.down = false) (hx : x < D.st.length) : readM D x = (viewAt D x, 0) := by
  unfold readM
  rw [if_neg (by rw [hd]; simp), if_neg (by omega)]
  rfl
theorem crash_lenS (D : DM) (ch : List Nat) : (crashM D ch).st.length = D.st.length := crashL_length _ _ _
/-- What the law keeps of its disk behind the Sync. -/
structure SurJ (c : Nat) (D : DM) (now : List UInt8) (mm : List (UInt8 × UInt8)) : Prop where
  fine : Fine c D
  calm : Calm D
  now4 : now.length = 4
  st : D.st = now.map pg
  wt : D.wt = mm.map wrt
theorem SurJ.write {c : Nat} {D : DM} {now : List UInt8} {mm : List (UInt8 × UInt8)} (h : SurJ c D now mm) (z : UInt8 × UInt8) (x : Nat) (hx : z.1.toNat % 4 = x) : writeM D x (pg z.2) = ({ D with wt := D.wt ++ [(x, pg z.2)] }, 0) ∧ SurJ (c + 1) { D with wt := D.wt ++ [(x, pg z.2)] } now (mm ++ [z]) := by
  have hl : D.st.length = 4 := by rw [h.st, List.length_map, h.now4]
  have h1 := write_yes h.calm x (pg z.2) (by omega) (pg_size z.2)
  have h2 := h.fine.write x (pg z.2)
  rw [h1] at h2
  refine ⟨h1, h2, ⟨h.calm.down, h.calm.fuse⟩, h.now4, h.st, ?_⟩
  rw [List.map_append, ← h.wt]
  simp [wrt, hx]
theorem FourJ.sync {c : Nat} {D : DM} {now : List UInt8} (h : FourJ c D now) : syncM D = ({ D with st := putW D.st D.wt, wt := [] }, 0) ∧ SurJ c { D with st := putW D.st D.wt, wt := [] } now [] := by
  have h1 := sync_yes h.calm
  have h2 := h.fine.sync
  rw [h1] at h2
  exact ⟨h1, h2, ⟨h.calm.down, h.calm.fuse⟩, h.now4, h.all, rfl⟩
theorem SurJ.crash {c : Nat} {D : DM} {now : List UInt8} {mm : List (UInt8 × UInt8)} (h : SurJ c D now mm) (ch : List Nat) (p : Nat) (hp : p < 4) : readM (crashM D ch) p = ((crashL (now.map pg) (mm.map wrt) ch)[p]?.getD ByteArray.empty, 0) := by
  have hl : (crashM D ch).st.length = 4 := by rw [crash_lenS, h.st, List.length_map, h.now4]
  rw [read_okS _ p rfl (by omega)]
  unfold viewAt
  rw [show putW (crashM D ch).st (crashM D ch).wt = crashL D.st D.wt ch from rfl, h.st, h.wt]
theorem ne256 {s : ByteArray} (h : s.size = 256) : ((s.size : Int) != 256) = false := by rw [h]; rfl

set_option maxHeartbeats 25600000 in
set_option maxRecDepth 100000 in
theorem survives_law (A A1 A2 : Option Addr) (c c1 c2 : Nat) (l m : List (UInt8 × UInt8)) (ch : List Nat) (w : World) (hl : PairArg w A l) (hm : PairArg w A1 m) (hch : ByteArg w.heap.size w A2 ch) : Calls Try.prog 3 #[.slice A l.length c, .slice A1 m.length c1, .slice A2 ch.length c2] w fun e w' => e = .returned (.bool true) ∧ Below w.heap.size w w' := by
  obtain ⟨n, hn⟩ : ∃ n, l.length = n := ⟨_, rfl⟩
  obtain ⟨n1, hn1⟩ : ∃ n, m.length = n := ⟨_, rfl⟩
  obtain ⟨n2, hn2⟩ : ∃ n, ch.length = n := ⟨_, rfl⟩
  have HN := Lib.hid hn; have HN1 := Lib.hid hn1; have HN2 := Lib.hid hn2
  have HP := Lib.hid hl; have HP1 := Lib.hid hm; have HC := Lib.hid hch
  rw [hn, hn1, hn2]
  clear hn hn1 hn2 hl hm hch
  by_cases h30 : 30 < n ∨ 30 < n1 ∨ 60 < n2
  · have EX := Lib.hid (fun W => wakes_calls W)
    by_cases h3 : 30 < n
    · have h3' : (30 : Int) < n := by omega
      clear h30
      go_enter Try.func3, Try.ntmps3
      go_wp2_with fail
      ((with_reducible refine (EX.out _).mono ?_); rintro e w1 ⟨rfl, hl⟩)
      go_wp2_with fail
      go_ret
      exact ⟨rfl, hl⟩
    have h3' : ¬ (30 : Int) < n := by omega
    by_cases h4 : 30 < n1
    · have h4' : (30 : Int) < n1 := by omega
      clear h30 h3
      go_enter Try.func3, Try.ntmps3
      go_wp2_with fail
      ((with_reducible refine (EX.out _).mono ?_); rintro e w1 ⟨rfl, hl⟩)
      go_wp2_with fail
      go_ret
      exact ⟨rfl, hl⟩
    · have h4' : ¬ (30 : Int) < n1 := by omega
      have h6' : (60 : Int) < n2 := by omega
      clear h30 h3 h4
      go_enter Try.func3, Try.ntmps3
      go_wp2_with fail
      ((with_reducible refine (EX.out _).mono ?_); rintro e w1 ⟨rfl, hl⟩)
      go_wp2_with fail
      go_ret
      exact ⟨rfl, hl⟩
  have hn30 : n ≤ 30 := by omega
  have hn31 : n1 ≤ 30 := by omega
  have h3' : ¬ (30 : Int) < n := by omega
  have h4' : ¬ (30 : Int) < n1 := by omega
  have h6' : ¬ (60 : Int) < n2 := by omega
  clear h30
  have HNW := Lib.hid (new_calls w.heap.size 4 w (Nat.le_refl _))
  rw [g4_good 4 (by decide)] at HNW
  go_enter Try.func3, Try.ntmps3
  go_wp2_with fail
  ((with_reducible refine HNW.out.mono ?_); rintro e w0 ⟨hl, ⟨h, _⟩ | ⟨_, g, rfl, hI⟩⟩)
  · cases h
  have C0 := Lib.hid (grow_f hI hl.size (fine_new [] 4 (g4_good 4 (by decide))) 4)
  rw [g4_grow 4 (by decide)] at C0
  have L0 := Lib.hid hl
  clear hl hI HNW
  go_wp2_with fail
  ((with_reducible refine C0.out.mono ?_); rintro e w1 ⟨rfl, hI, hl⟩)
  have hI' : IsF (fun k => w.heap.size ≤ k ∧ k ≠ w1.heap.size) (w1.alloc (.cells (byt (nums [0, 0, 0, 0])).toArray 30)) g (G4' 4) := (hI.isF (fun k h1 h2 => ⟨h1, by omega⟩)).alloc _
  have I1 := Lib.hid hI'
  have L1 := Lib.hid (low_then (L0.out.trans hl) (L0.out.trans hl).size (bel_alloc (Below.refl w1.heap.size w1) (.cells (byt (nums [0, 0, 0, 0])).toArray 30)))
  have K1 := Lib.hid (Blk.new w1 30 (byt (nums [0, 0, 0, 0])))
  have hz := (L0.out.trans hl).size
  clear hI hl C0 L0 hI'
  go_wp2_with fail
  have hwa : w.heap.size ≤ w1.heap.size := hz
  clear hz
  generalize w1.heap.size = a at *
  have HFA := Lib.hid (show ∀ W : World, Below w.heap.size w W → a < W.heap.size → ∀ k, W.heap.size ≤ k → (w.heap.size ≤ k ∧ k ≠ a) from fun W h1 h2 k hk => ⟨Nat.le_trans h1.size hk, by omega⟩)
  have HL := Lib.hid (show ∀ W W' : World, Within (fun k => w.heap.size ≤ k ∧ k ≠ a) W W' → Below w.heap.size w W → Below w.heap.size w W' from fun W W' h1 h2 => h2.trans (h1.below h2.size (fun k hk => hk.1)))
  go_loopw [10] (fun i wr => ∃ (j : Nat) (D : DM) (now : List UInt8), j ≤ n ∧ i = .int .i64 j ∧ IsF (fun k => w.heap.size ≤ k ∧ k ≠ a) wr g D ∧ Below w.heap.size w wr ∧ FourJ j D now ∧ Blk wr a 30 (byt (nums now))) (fun i _ => n - (intOf i).toNat)
  case atStart => exact ⟨0, G4' 4, [0, 0, 0, 0], Nat.zero_le _, rfl, I1.out, L1.out, fourJ_zero 4 (by decide), K1.out⟩
  case round =>
    obtain ⟨j, D, now, hj, rfl, hI, hlow, hJ, hK⟩ := hrel
    have I3 := Lib.hid hI; have L3 := Lib.hid hlow; have J3 := Lib.hid hJ; have K3 := Lib.hid hK
    clear hI hlow hJ hK I1 L1 K1
    by_cases hlt : j < n
    · have hjn : (j : Int) < n := by omega
      have hjl : j < l.length := by rw [HN.out]; exact hlt
      obtain ⟨b, o, rfl, hb, hc0, hc1⟩ := (HP.out.below L3.out) j hjl
      obtain ⟨z0, z1, hzz⟩ : ∃ z0 z1, l[j] = (z0, z1) := ⟨_, _, rfl⟩
      rw [hzz] at hc0 hc1
      have HZ := Lib.hid hzz
      simp only at hc0 hc1
      clear hzz
      have hz0 := z0.toNat_lt
      have hfl := fun W => fill_calls z1 W
      rw [show bs (pageL z1) = pg z1 from rfl] at hfl
      have HFL := Lib.hid hfl
      clear hfl
      obtain ⟨q0, hq0⟩ : ∃ q, z0.toNat = q := ⟨_, rfl⟩
      have HQ := Lib.hid hq0
      rw [hq0] at hc0 hz0
      clear hq0
      have hx : 0 ≤ (q0 : Int) % 4 ∧ (q0 : Int) % 4 < 4 := by omega
      obtain ⟨x, hxx⟩ := Int.eq_ofNat_of_zero_le hx.1
      have hx4 : (x : Int) < 4 := by omega
      have HXQ := Lib.hid (show z0.toNat % 4 = x by have := HQ.out; omega)
      have hx0 : IntKind.i64.wrap (q0 : Int) = q0 := IntWalk.i64_in _ (by omega)
      have ht : (q0 : Int).tmod 4 = x := (Int.tmod_eq_emod_of_nonneg (by omega)).trans hxx
      clear hxx
      obtain ⟨e1, hJ⟩ := J3.out.write x z1 (by omega)
      have cw := fun (W : World) (hI : IsF (fun k => w.heap.size ≤ k ∧ k ≠ a) W g D) (hB : Below w.heap.size w W) (hk : a < W.heap.size) => writeF_f hI (HFA.out W hB hk) J3.out.fine (by omega) (x : Int) (pg z1)
      rw [e1] at cw
      have CW := Lib.hid cw
      have J5 := Lib.hid hJ
      have HXN := Lib.hid (show x < now.length by rw [J3.out.now4]; omega)
      clear hJ e1 cw J3
      generalize ({ D with wt := D.wt ++ [(x, pg z1)] } : DM) = D5 at *
      go_wp2_with fail
      refine start_ (n := 16) (S := fun w' => w'.cell? ⟨b, o + j * 2, none⟩ = some (.int .u8 (q0 : Nat)) ∧ w'.cell? ⟨b, o + j * 2 + 1, none⟩ = some (.int .u8 z1.toNat) ∧ b < w'.heap.size ∧ IsF (fun k => w.heap.size ≤ k ∧ k ≠ a) w' g D ∧ Below w.heap.size w w' ∧ Blk w' a 30 (byt (nums now))) (ds := [14]) #[false, false, false, false, false, false, false, false, false, false, false, false, false, false, false, false] (by kernel_rfl) rfl rfl ⟨hc0, hc1, hb, I3.out.drew, L3.out.drew, K3.out.drew⟩ (fun hHeld => ?_)
      refine pure_ (i := 0) (N := (some 53)) (v := ?_) (a' := ?_) #[true, false, false, false, false, false, false, false, false, false, false, false, false, false, false, false] rfl rfl (by kernel_rfl) (fun _ _ _ h => h) (Or.inl ⟨by rfl, ?_⟩) ?_ ?_
      rotate_left
      · intro w'
        go_simp
        with_reducible rfl
      rotate_left
      · simp only [Act.put, List.setIfInBounds_toArray, List.set_cons_zero, List.set_cons_succ, i64_w, i32_w]
        rfl
      refine pure_ (i := 1) (N := (some 54)) (v := ?_) (a' := ?_) #[true, true, false, false, false, false, false, false, false, false, false, false, false, false, false, false] rfl rfl (by kernel_rfl) (fun _ _ _ h => h) (Or.inl ⟨by rfl, ?_⟩) ?_ ?_
      rotate_left
      · intro w'
        go_simp
        with_reducible rfl
      rotate_left
      · simp only [Act.put, List.setIfInBounds_toArray, List.set_cons_zero, List.set_cons_succ, i64_w, i32_w]
        rfl
      refine pure_ (i := 2) (N := (some 55)) (v := ?_) (a' := ?_) #[true, true, true, false, false, false, false, false, false, false, false, false, false, false, false, false] rfl rfl (by kernel_rfl) (fun _ _ _ h => h) (Or.inl ⟨by rfl, ?_⟩) ?_ ?_
      rotate_left
      · intro w'
        go_simp
        with_reducible rfl
      rotate_left
      · simp only [Act.put, List.setIfInBounds_toArray, List.set_cons_zero, List.set_cons_succ, i64_w, i32_w]
        rfl
      refine pure_ (i := 3) (N := (some 56)) (v := ?_) (a' := ?_) #[true, true, true, true, false, false, false, false, false, false, false, false, false, false, false, false] rfl rfl (by kernel_rfl) (fun _ _ _ h => h) (Or.inl ⟨by rfl, ?_⟩) ?_ ?_
      rotate_left
      · intro w'
        go_simp
        with_reducible rfl
      rotate_left
      · simp only [Act.put, List.setIfInBounds_toArray, List.set_cons_zero, List.set_cons_succ, i64_w, i32_w]
        rfl
      refine pure_ (i := 4) (N := (some 57)) (v := ?_) (a' := ?_) #[true, true, true, true, true, false, false, false, false, false, false, false, false, false, false, false] rfl rfl (by kernel_rfl) (fun _ _ _ h => h) (Or.inl ⟨by rfl, ?_⟩) ?_ ?_
      rotate_left
      · intro w'
        go_simp
        with_reducible rfl
      rotate_left
      · simp only [Act.put, List.setIfInBounds_toArray, List.set_cons_zero, List.set_cons_succ, i64_w, i32_w]
        rfl
      refine take_ (i := 5) (N := (some 58)) (v := ?_) (a' := ?_) #[true, true, true, true, true, true, false, false, false, false, false, false, false, false, false, false] rfl rfl (by kernel_rfl) (fun _ _ _ h => h) (Or.inl ⟨by rfl, ?_⟩) hHeld ?_ ?_
      rotate_left
      · rintro w' ⟨s0, s1, _, _, _, _⟩
        go_simp
        with_reducible rfl
      rotate_left
      · simp only [Act.put, List.setIfInBounds_toArray, List.set_cons_zero, List.set_cons_succ, i64_w, i32_w]
        rfl
      refine pure_ (i := 6) (N := (some 59)) (v := ?_) (a' := ?_) #[true, true, true, true, true, true, true, false, false, false, false, false, false, false, false, false] rfl rfl (by kernel_rfl) (fun _ _ _ h => h) (Or.inl ⟨by rfl, ?_⟩) ?_ ?_
      rotate_left
      · intro w'
        go_simp
        with_reducible rfl
      rotate_left
      · simp only [Act.put, List.setIfInBounds_toArray, List.set_cons_zero, List.set_cons_succ, i64_w, i32_w]
        rfl
      refine pure_ (i := 7) (N := (some 60)) (v := ?_) (a' := ?_) #[true, true, true, true, true, true, true, true, false, false, false, false, false, false, false, false] rfl rfl (by kernel_rfl) (fun _ _ _ h => h) (Or.inl ⟨by rfl, ?_⟩) ?_ ?_
      rotate_left
      · intro w'
        go_simp
        with_reducible rfl
      rotate_left
      · simp only [Act.put, List.setIfInBounds_toArray, List.set_cons_zero, List.set_cons_succ, i64_w, i32_w]
        rfl
      refine pure_ (i := 8) (N := (some 61)) (v := ?_) (a' := ?_) #[true, true, true, true, true, true, true, true, true, false, false, false, false, false, false, false] rfl rfl (by kernel_rfl) (fun _ _ _ h => h) (Or.inl ⟨by rfl, ?_⟩) ?_ ?_
      rotate_left
      · intro w'
        go_simp
        with_reducible rfl
      rotate_left
      · simp only [Act.put, List.setIfInBounds_toArray, List.set_cons_zero, List.set_cons_succ, i64_w, i32_w]
        rfl
      refine pure_ (i := 9) (N := (some 62)) (v := ?_) (a' := ?_) #[true, true, true, true, true, true, true, true, true, true, false, false, false, false, false, false] rfl rfl (by kernel_rfl) (fun _ _ _ h => h) (Or.inl ⟨by rfl, ?_⟩) ?_ ?_
      rotate_left
      · intro w'
        go_simp
        with_reducible rfl
      rotate_left
      · simp only [Act.put, List.setIfInBounds_toArray, List.set_cons_zero, List.set_cons_succ, i64_w, i32_w]
        rfl
      refine pure_ (i := 10) (N := (some 63)) (v := ?_) (a' := ?_) #[true, true, true, true, true, true, true, true, true, true, true, false, false, false, false, false] rfl rfl (by kernel_rfl) (fun _ _ _ h => h) (Or.inl ⟨by rfl, ?_⟩) ?_ ?_
      rotate_left
      · intro w'
        go_simp
        with_reducible rfl
      rotate_left
      · simp only [Act.put, List.setIfInBounds_toArray, List.set_cons_zero, List.set_cons_succ, i64_w, i32_w]
        rfl
      refine pure_ (i := 11) (N := (some 64)) (v := ?_) (a' := ?_) #[true, true, true, true, true, true, true, true, true, true, true, true, false, false, false, false] rfl rfl (by kernel_rfl) (fun _ _ _ h => h) (Or.inl ⟨by rfl, ?_⟩) ?_ ?_
      rotate_left
      · intro w'
        go_simp
        with_reducible rfl
      rotate_left
      · simp only [Act.put, List.setIfInBounds_toArray, List.set_cons_zero, List.set_cons_succ, i64_w, i32_w]
        rfl
      refine take_ (i := 12) (N := (some 65)) (v := ?_) (a' := ?_) #[true, true, true, true, true, true, true, true, true, true, true, true, true, false, false, false] rfl rfl (by kernel_rfl) (fun _ _ _ h => h) (Or.inl ⟨by rfl, ?_⟩) hHeld ?_ ?_
      rotate_left
      · rintro w' ⟨s0, s1, _, _, _, _⟩
        go_simp
        with_reducible rfl
      rotate_left
      · simp only [Act.put, List.setIfInBounds_toArray, List.set_cons_zero, List.set_cons_succ, i64_w, i32_w]
        rfl
      refine one_ (i := 13) (N := (some 66)) #[true, true, true, true, true, true, true, true, true, true, true, true, true, true, false, false] rfl rfl (by kernel_rfl) (by decide) (fun K hK => ?_)
      refine goes_ Try.func14 (by kernel_rfl) rfl #[.int .u8 z1.toNat] (by rfl) rfl rfl (by (try simp only [List.map_toArray, List.map_cons, List.map_nil]); first | done | rfl) ?_
      refine (HFL.out _).mono ?_
      rintro e x1 ⟨rfl, hb⟩
      obtain ⟨s0, s1, s2, s3, s4, s5⟩ := hHeld
      have hx := s3.below hb; have hy := low_then s4 s4.size hb; have hk := s5.step hb; have t0 := (hb.cell (p := ⟨b, o + j * 2, none⟩) s2).trans s0; have t1 := (hb.cell (p := ⟨b, o + j * 2 + 1, none⟩) s2).trans s1; have t2 := Nat.lt_of_lt_of_le s2 hb.size
      clear s0 s1 s2 s3 s4 s5 hb
      refine ⟨_, rfl, ?_⟩
      refine hK.out _ _ ⟨t0, t1, t2, hx, hy, hk⟩ (fun hHeld => ?_)
      clear hK K
      refine norm_ (a' := ?_) ?_ ?_
      rotate_left
      · show Act.put _ (some 66) _ = _
        simp only [Act.put, List.setIfInBounds_toArray, List.set_cons_zero, List.set_cons_succ, i64_w, i32_w]
        rfl
      refine last_ (i := 14) (N := (some 67)) #[true, true, true, true, true, true, true, true, true, true, true, true, true, true, true, false] rfl rfl (by kernel_rfl) (by decide) (fun K hK => ?_)
      refine goes_ Try.func13 (by kernel_rfl) rfl #[.pointer (some ⟨g, 0, none⟩), .int .i64 x, .string (pg z1)] (by rfl) rfl rfl (by (try simp only [List.map_toArray, List.map_cons, List.map_nil]); first | done | rfl) ?_
      refine (CW.out _ hHeld.2.2.2.1 hHeld.2.2.2.2.1 hHeld.2.2.2.2.2.lt).mono ?_
      rintro e x1 ⟨rfl, hI, hl⟩
      have I5 := Lib.hid hI; have L5 := Lib.hid (HL.out _ _ hl hHeld.2.2.2.2.1); have K5 := Lib.hid (hl.blk hHeld.2.2.2.2.2 (fun h => h.2 rfl))
      clear hI hl hHeld
      refine ⟨_, rfl, ?_⟩
      refine hK.out _ _ ?_
      clear hK K
      refine norm_ (a' := ?_) ?_ ?_
      rotate_left
      · show Act.put _ (some 67) _ = _
        simp only [Act.put, List.setIfInBounds_toArray, List.set_cons_zero, List.set_cons_succ, i64_w, i32_w]
        rfl
      refine pure_ (i := 15) (N := (some 68)) (v := ?_) (a' := ?_) #[true, true, true, true, true, true, true, true, true, true, true, true, true, true, true, true] rfl rfl (by kernel_rfl) (fun _ _ _ h => h) (Or.inl ⟨by rfl, ?_⟩) ?_ ?_
      rotate_left
      · intro w'
        go_simp
        with_reducible rfl
      rotate_left
      · simp only [Act.put, List.setIfInBounds_toArray, List.set_cons_zero, List.set_cons_succ, i64_w, i32_w]
        rfl
      refine done_ (by kernel_rfl) ?_
      obtain ⟨b', o', ebo, _, hd0, hd1⟩ := (HP.out.below L5.out) j hjl
      obtain ⟨rfl, rfl⟩ : b = b' ∧ o = o' := by simpa using ebo
      rw [HZ.out] at hd0 hd1
      simp only [HQ.out] at hd0 hd1
      clear ebo hc0 hc1 I3 L3 K3 CW HFL
      have hc0 := hd0; have hc1 := hd1
      clear hd0 hd1
      go_wp2_with fail
      refine start_ (n := 13) (S := fun w' => w'.cell? ⟨b, o + j * 2, none⟩ = some (.int .u8 (q0 : Nat)) ∧ w'.cell? ⟨b, o + j * 2 + 1, none⟩ = some (.int .u8 z1.toNat) ∧ Blk w' a 30 (byt (nums now))) (ds := [12]) #[false, false, false, false, false, false, false, false, false, false, false, false, false] (by kernel_rfl) rfl rfl ⟨hc0, hc1, K5.out.drew⟩ (fun hHeld => ?_)
      refine pure_ (i := 0) (N := (some 69)) (v := ?_) (a' := ?_) #[true, false, false, false, false, false, false, false, false, false, false, false, false] rfl rfl (by kernel_rfl) (fun _ _ _ h => h) (Or.inl ⟨by rfl, ?_⟩) ?_ ?_
      rotate_left
      · intro w'
        go_simp
        with_reducible rfl
      rotate_left
      · simp only [Act.put, List.setIfInBounds_toArray, List.set_cons_zero, List.set_cons_succ, i64_w, i32_w]
        rfl
      refine pure_ (i := 1) (N := (some 70)) (v := ?_) (a' := ?_) #[true, true, false, false, false, false, false, false, false, false, false, false, false] rfl rfl (by kernel_rfl) (fun _ _ _ h => h) (Or.inl ⟨by rfl, ?_⟩) ?_ ?_
      rotate_left
      · intro w'
        go_simp
        with_reducible rfl
      rotate_left
      · simp only [Act.put, List.setIfInBounds_toArray, List.set_cons_zero, List.set_cons_succ, i64_w, i32_w]
        rfl
      refine pure_ (i := 2) (N := (some 71)) (v := ?_) (a' := ?_) #[true, true, true, false, false, false, false, false, false, false, false, false, false] rfl rfl (by kernel_rfl) (fun _ _ _ h => h) (Or.inl ⟨by rfl, ?_⟩) ?_ ?_
      rotate_left
      · intro w'
        go_simp
        with_reducible rfl
      rotate_left
      · simp only [Act.put, List.setIfInBounds_toArray, List.set_cons_zero, List.set_cons_succ, i64_w, i32_w]
        rfl
      refine pure_ (i := 3) (N := (some 72)) (v := ?_) (a' := ?_) #[true, true, true, true, false, false, false, false, false, false, false, false, false] rfl rfl (by kernel_rfl) (fun _ _ _ h => h) (Or.inl ⟨by rfl, ?_⟩) ?_ ?_
      rotate_left
      · intro w'
        go_simp
        with_reducible rfl
      rotate_left
      · simp only [Act.put, List.setIfInBounds_toArray, List.set_cons_zero, List.set_cons_succ, i64_w, i32_w]
        rfl
      refine take_ (i := 4) (N := (some 73)) (v := ?_) (a' := ?_) #[true, true, true, true, true, false, false, false, false, false, false, false, false] rfl rfl (by kernel_rfl) (fun _ _ _ h => h) (Or.inl ⟨by rfl, ?_⟩) hHeld ?_ ?_
      rotate_left
      · rintro w' ⟨s0, s1, _⟩
        go_simp
        with_reducible rfl
      rotate_left
      · simp only [Act.put, List.setIfInBounds_toArray, List.set_cons_zero, List.set_cons_succ, i64_w, i32_w]
        rfl
      refine pure_ (i := 5) (N := (some 74)) (v := ?_) (a' := ?_) #[true, true, true, true, true, true, false, false, false, false, false, false, false] rfl rfl (by kernel_rfl) (fun _ _ _ h => h) (Or.inl ⟨by rfl, ?_⟩) ?_ ?_
      rotate_left
      · intro w'
        go_simp
        with_reducible rfl
      rotate_left
      · simp only [Act.put, List.setIfInBounds_toArray, List.set_cons_zero, List.set_cons_succ, i64_w, i32_w]
        rfl
      refine pure_ (i := 6) (N := (some 75)) (v := ?_) (a' := ?_) #[true, true, true, true, true, true, true, false, false, false, false, false, false] rfl rfl (by kernel_rfl) (fun _ _ _ h => h) (Or.inl ⟨by rfl, ?_⟩) ?_ ?_
      rotate_left
      · intro w'
        go_simp
        with_reducible rfl
      rotate_left
      · simp only [Act.put, List.setIfInBounds_toArray, List.set_cons_zero, List.set_cons_succ, i64_w, i32_w]
        rfl
      refine pure_ (i := 7) (N := (some 76)) (v := ?_) (a' := ?_) #[true, true, true, true, true, true, true, true, false, false, false, false, false] rfl rfl (by kernel_rfl) (fun _ _ _ h => h) (Or.inl ⟨by rfl, ?_⟩) ?_ ?_
      rotate_left
      · intro w'
        go_simp
        with_reducible rfl
      rotate_left
      · simp only [Act.put, List.setIfInBounds_toArray, List.set_cons_zero, List.set_cons_succ, i64_w, i32_w]
        rfl
      refine pure_ (i := 8) (N := (some 77)) (v := ?_) (a' := ?_) #[true, true, true, true, true, true, true, true, true, false, false, false, false] rfl rfl (by kernel_rfl) (fun _ _ _ h => h) (Or.inl ⟨by rfl, ?_⟩) ?_ ?_
      rotate_left
      · intro w'
        go_simp
        with_reducible rfl
      rotate_left
      · simp only [Act.put, List.setIfInBounds_toArray, List.set_cons_zero, List.set_cons_succ, i64_w, i32_w]
        rfl
      refine pure_ (i := 9) (N := (some 78)) (v := ?_) (a' := ?_) #[true, true, true, true, true, true, true, true, true, true, false, false, false] rfl rfl (by kernel_rfl) (fun _ _ _ h => h) (Or.inl ⟨by rfl, ?_⟩) ?_ ?_
      rotate_left
      · intro w'
        go_simp
        with_reducible rfl
      rotate_left
      · simp only [Act.put, List.setIfInBounds_toArray, List.set_cons_zero, List.set_cons_succ, i64_w, i32_w]
        rfl
      refine take_ (i := 10) (N := (some 79)) (v := ?_) (a' := ?_) #[true, true, true, true, true, true, true, true, true, true, true, false, false] rfl rfl (by kernel_rfl) (fun _ _ _ h => h) (Or.inl ⟨by rfl, ?_⟩) hHeld ?_ ?_
      rotate_left
      · rintro w' ⟨s0, s1, _⟩
        go_simp
        with_reducible rfl
      rotate_left
      · simp only [Act.put, List.setIfInBounds_toArray, List.set_cons_zero, List.set_cons_succ, i64_w, i32_w]
        rfl
      refine pure_ (i := 11) (N := (some 80)) (v := ?_) (a' := ?_) #[true, true, true, true, true, true, true, true, true, true, true, true, false] rfl rfl (by kernel_rfl) (fun _ _ _ h => h) (Or.inl ⟨by rfl, ?_⟩) ?_ ?_
      rotate_left
      · intro w'
        go_simp
        with_reducible rfl
      rotate_left
      · simp only [Act.put, List.setIfInBounds_toArray, List.set_cons_zero, List.set_cons_succ, i64_w, i32_w]
        rfl
      refine last_ (i := 12) (N := none) #[true, true, true, true, true, true, true, true, true, true, true, true, true] rfl rfl (by kernel_rfl) (by decide) (fun K hK => ?_)
      obtain ⟨_, _, s2⟩ := hHeld
      have kc := s2.cell x; have kf := s2.frozen x
      rw [nums_at now x HXN.out] at kc
      refine skip_ (by rfl) rfl (by go_simp; rfl) ?_
      refine hK.out _ _ ?_
      clear hK K
      refine done_ (by kernel_rfl) ?_
      have I6 := Lib.hid (I5.out.drew.far (i := x) (u := .int .u8 z1.toNat) (fun h => h.2 rfl)); have L6 := Lib.hid (L5.out.drew.setCell (p := ⟨a, x, none⟩) hwa (.int .u8 z1.toNat)); have K6 := Lib.hid (K5.out.drew.set_ x (.int .u8 z1.toNat))
      rw [nums_set] at K6
      clear I5 L5 K5 kc kf
      go_wp2_with fail
      exact ⟨⟨j + 1, D5, now.set x z1, by omega, by go_num, I6.out, L6.out, J5.out, K6.out⟩, by simp [intOf]; omega⟩
    · obtain rfl : j = n := by omega
      have C3 := Lib.hid (syncF_f I3.out J3.out.fine (by omega))
      obtain ⟨e1, hJ⟩ := J3.out.sync
      rw [e1] at C3
      have J4 := Lib.hid hJ
      clear hJ e1 J3
      generalize ({ D with st := putW D.st D.wt, wt := [] } : DM) = D4 at *
      go_wp2_with fail
      ((with_reducible refine C3.out.mono ?_); rintro e w4 ⟨rfl, hI, hl⟩)
      have I4 := Lib.hid hI; have L4 := Lib.hid (HL.out _ _ hl L3.out); have K4 := Lib.hid (hl.blk K3.out (fun h => h.2 rfl))
      clear hI hl C3 I3 L3 K3
      go_wp2_with fail
      go_loopw [11] (fun i wr => ∃ (j : Nat) (D : DM), j ≤ n1 ∧ i = .int .i64 j ∧ IsF (fun k => w.heap.size ≤ k ∧ k ≠ a) wr g D ∧ Below w.heap.size w wr ∧ SurJ (30 + j) D now (m.take j) ∧ Blk wr a 30 (byt (nums now))) (fun i _ => n1 - (intOf i).toNat)
      case atStart => exact ⟨0, D4, Nat.zero_le _, rfl, I4.out, L4.out, ⟨J4.out.fine.mono (by omega), J4.out.calm, J4.out.now4, J4.out.st, J4.out.wt⟩, K4.out⟩
      case round =>
        obtain ⟨j, D, hj, rfl, hI, hlow, hJ, hK⟩ := hrel
        have I3 := Lib.hid hI; have L3 := Lib.hid hlow; have J3 := Lib.hid hJ; have K3 := Lib.hid hK
        clear hI hlow hJ hK I4 L4 K4 J4
        by_cases hlt : j < n1
        · have hjn : (j : Int) < n1 := by omega
          have hjl : j < m.length := by rw [HN1.out]; exact hlt
          obtain ⟨b, o, rfl, hb, hc0, hc1⟩ := (HP1.out.below L3.out) j hjl
          obtain ⟨z0, z1, hzz⟩ : ∃ z0 z1, m[j] = (z0, z1) := ⟨_, _, rfl⟩
          rw [hzz] at hc0 hc1
          have HZ := Lib.hid hzz
          simp only at hc0 hc1
          clear hzz
          have hz0 := z0.toNat_lt
          have hfl := fun W => fill_calls z1 W
          rw [show bs (pageL z1) = pg z1 from rfl] at hfl
          have HFL := Lib.hid hfl
          clear hfl
          obtain ⟨q0, hq0⟩ : ∃ q, z0.toNat = q := ⟨_, rfl⟩
          have HQ := Lib.hid hq0
          rw [hq0] at hc0 hz0
          clear hq0
          have hx : 0 ≤ (q0 : Int) % 4 ∧ (q0 : Int) % 4 < 4 := by omega
          obtain ⟨x, hxx⟩ := Int.eq_ofNat_of_zero_le hx.1
          have hx4 : (x : Int) < 4 := by omega
          have HXQ := Lib.hid (show z0.toNat % 4 = x by have := HQ.out; omega)
          have hx0 : IntKind.i64.wrap (q0 : Int) = q0 := IntWalk.i64_in _ (by omega)
          have ht : (q0 : Int).tmod 4 = x := (Int.tmod_eq_emod_of_nonneg (by omega)).trans hxx
          clear hxx
          obtain ⟨e1, hJ⟩ := J3.out.write (z0, z1) x HXQ.out
          have hs : m.take (j + 1) = m.take j ++ [(z0, z1)] := by rw [List.take_succ_eq_append_getElem hjl, HZ.out]
          rw [← hs] at hJ
          clear hs
          have cw := fun (W : World) (hI : IsF (fun k => w.heap.size ≤ k ∧ k ≠ a) W g D) (hB : Below w.heap.size w W) (hk : a < W.heap.size) => writeF_f hI (HFA.out W hB hk) J3.out.fine (by omega) (x : Int) (pg z1)
          simp only at e1
          rw [e1] at cw
          have CW := Lib.hid cw
          have J5 := Lib.hid hJ
          clear hJ e1 cw J3
          generalize ({ D with wt := D.wt ++ [(x, pg z1)] } : DM) = D5 at *
          go_wp2_with fail
          refine start_ (n := 16) (S := fun w' => w'.cell? ⟨b, o + j * 2, none⟩ = some (.int .u8 (q0 : Nat)) ∧ w'.cell? ⟨b, o + j * 2 + 1, none⟩ = some (.int .u8 z1.toNat) ∧ b < w'.heap.size ∧ IsF (fun k => w.heap.size ≤ k ∧ k ≠ a) w' g D ∧ Below w.heap.size w w' ∧ Blk w' a 30 (byt (nums now))) (ds := [14]) #[false, false, false, false, false, false, false, false, false, false, false, false, false, false, false, false] (by kernel_rfl) rfl rfl ⟨hc0, hc1, hb, I3.out.drew, L3.out.drew, K3.out.drew⟩ (fun hHeld => ?_)
          refine pure_ (i := 0) (N := (some 90)) (v := ?_) (a' := ?_) #[true, false, false, false, false, false, false, false, false, false, false, false, false, false, false, false] rfl rfl (by kernel_rfl) (fun _ _ _ h => h) (Or.inl ⟨by rfl, ?_⟩) ?_ ?_
          rotate_left
          · intro w'
            go_simp
            with_reducible rfl
          rotate_left
          · simp only [Act.put, List.setIfInBounds_toArray, List.set_cons_zero, List.set_cons_succ, i64_w, i32_w]
            rfl
          refine pure_ (i := 1) (N := (some 91)) (v := ?_) (a' := ?_) #[true, true, false, false, false, false, false, false, false, false, false, false, false, false, false, false] rfl rfl (by kernel_rfl) (fun _ _ _ h => h) (Or.inl ⟨by rfl, ?_⟩) ?_ ?_
          rotate_left
          · intro w'
            go_simp
            with_reducible rfl
          rotate_left
          · simp only [Act.put, List.setIfInBounds_toArray, List.set_cons_zero, List.set_cons_succ, i64_w, i32_w]
            rfl
          refine pure_ (i := 2) (N := (some 92)) (v := ?_) (a' := ?_) #[true, true, true, false, false, false, false, false, false, false, false, false, false, false, false, false] rfl rfl (by kernel_rfl) (fun _ _ _ h => h) (Or.inl ⟨by rfl, ?_⟩) ?_ ?_
          rotate_left
          · intro w'
            go_simp
            with_reducible rfl
          rotate_left
          · simp only [Act.put, List.setIfInBounds_toArray, List.set_cons_zero, List.set_cons_succ, i64_w, i32_w]
            rfl
          refine pure_ (i := 3) (N := (some 93)) (v := ?_) (a' := ?_) #[true, true, true, true, false, false, false, false, false, false, false, false, false, false, false, false] rfl rfl (by kernel_rfl) (fun _ _ _ h => h) (Or.inl ⟨by rfl, ?_⟩) ?_ ?_
          rotate_left
          · intro w'
            go_simp
            with_reducible rfl
          rotate_left
          · simp only [Act.put, List.setIfInBounds_toArray, List.set_cons_zero, List.set_cons_succ, i64_w, i32_w]
            rfl
          refine pure_ (i := 4) (N := (some 94)) (v := ?_) (a' := ?_) #[true, true, true, true, true, false, false, false, false, false, false, false, false, false, false, false] rfl rfl (by kernel_rfl) (fun _ _ _ h => h) (Or.inl ⟨by rfl, ?_⟩) ?_ ?_
          rotate_left
          · intro w'
            go_simp
            with_reducible rfl
          rotate_left
          · simp only [Act.put, List.setIfInBounds_toArray, List.set_cons_zero, List.set_cons_succ, i64_w, i32_w]
            rfl
          refine take_ (i := 5) (N := (some 95)) (v := ?_) (a' := ?_) #[true, true, true, true, true, true, false, false, false, false, false, false, false, false, false, false] rfl rfl (by kernel_rfl) (fun _ _ _ h => h) (Or.inl ⟨by rfl, ?_⟩) hHeld ?_ ?_
          rotate_left
          · rintro w' ⟨s0, s1, _, _, _, _⟩
            go_simp
            with_reducible rfl
          rotate_left
          · simp only [Act.put, List.setIfInBounds_toArray, List.set_cons_zero, List.set_cons_succ, i64_w, i32_w]
            rfl
          refine pure_ (i := 6) (N := (some 96)) (v := ?_) (a' := ?_) #[true, true, true, true, true, true, true, false, false, false, false, false, false, false, false, false] rfl rfl (by kernel_rfl) (fun _ _ _ h => h) (Or.inl ⟨by rfl, ?_⟩) ?_ ?_
          rotate_left
          · intro w'
            go_simp
            with_reducible rfl
          rotate_left
          · simp only [Act.put, List.setIfInBounds_toArray, List.set_cons_zero, List.set_cons_succ, i64_w, i32_w]
            rfl
          refine pure_ (i := 7) (N := (some 97)) (v := ?_) (a' := ?_) #[true, true, true, true, true, true, true, true, false, false, false, false, false, false, false, false] rfl rfl (by kernel_rfl) (fun _ _ _ h => h) (Or.inl ⟨by rfl, ?_⟩) ?_ ?_
          rotate_left
          · intro w'
            go_simp
            with_reducible rfl
          rotate_left
          · simp only [Act.put, List.setIfInBounds_toArray, List.set_cons_zero, List.set_cons_succ, i64_w, i32_w]
            rfl
          refine pure_ (i := 8) (N := (some 98)) (v := ?_) (a' := ?_) #[true, true, true, true, true, true, true, true, true, false, false, false, false, false, false, false] rfl rfl (by kernel_rfl) (fun _ _ _ h => h) (Or.inl ⟨by rfl, ?_⟩) ?_ ?_
          rotate_left
          · intro w'
            go_simp
            with_reducible rfl
          rotate_left
          · simp only [Act.put, List.setIfInBounds_toArray, List.set_cons_zero, List.set_cons_succ, i64_w, i32_w]
            rfl
          refine pure_ (i := 9) (N := (some 99)) (v := ?_) (a' := ?_) #[true, true, true, true, true, true, true, true, true, true, false, false, false, false, false, false] rfl rfl (by kernel_rfl) (fun _ _ _ h => h) (Or.inl ⟨by rfl, ?_⟩) ?_ ?_
          rotate_left
          · intro w'
            go_simp
            with_reducible rfl
          rotate_left
          · simp only [Act.put, List.setIfInBounds_toArray, List.set_cons_zero, List.set_cons_succ, i64_w, i32_w]
            rfl
          refine pure_ (i := 10) (N := (some 100)) (v := ?_) (a' := ?_) #[true, true, true, true, true, true, true, true, true, true, true, false, false, false, false, false] rfl rfl (by kernel_rfl) (fun _ _ _ h => h) (Or.inl ⟨by rfl, ?_⟩) ?_ ?_
          rotate_left
          · intro w'
            go_simp
            with_reducible rfl
          rotate_left
          · simp only [Act.put, List.setIfInBounds_toArray, List.set_cons_zero, List.set_cons_succ, i64_w, i32_w]
            rfl
          refine pure_ (i := 11) (N := (some 101)) (v := ?_) (a' := ?_) #[true, true, true, true, true, true, true, true, true, true, true, true, false, false, false, false] rfl rfl (by kernel_rfl) (fun _ _ _ h => h) (Or.inl ⟨by rfl, ?_⟩) ?_ ?_
          rotate_left
          · intro w'
            go_simp
            with_reducible rfl
          rotate_left
          · simp only [Act.put, List.setIfInBounds_toArray, List.set_cons_zero, List.set_cons_succ, i64_w, i32_w]
            rfl
          refine take_ (i := 12) (N := (some 102)) (v := ?_) (a' := ?_) #[true, true, true, true, true, true, true, true, true, true, true, true, true, false, false, false] rfl rfl (by kernel_rfl) (fun _ _ _ h => h) (Or.inl ⟨by rfl, ?_⟩) hHeld ?_ ?_
          rotate_left
          · rintro w' ⟨s0, s1, _, _, _, _⟩
            go_simp
            with_reducible rfl
          rotate_left
          · simp only [Act.put, List.setIfInBounds_toArray, List.set_cons_zero, List.set_cons_succ, i64_w, i32_w]
            rfl
          refine one_ (i := 13) (N := (some 103)) #[true, true, true, true, true, true, true, true, true, true, true, true, true, true, false, false] rfl rfl (by kernel_rfl) (by decide) (fun K hK => ?_)
          refine goes_ Try.func14 (by kernel_rfl) rfl #[.int .u8 z1.toNat] (by rfl) rfl rfl (by (try simp only [List.map_toArray, List.map_cons, List.map_nil]); first | done | rfl) ?_
          refine (HFL.out _).mono ?_
          rintro e x1 ⟨rfl, hb⟩
          obtain ⟨s0, s1, s2, s3, s4, s5⟩ := hHeld
          have hx := s3.below hb; have hy := low_then s4 s4.size hb; have hk := s5.step hb; have t0 := (hb.cell (p := ⟨b, o + j * 2, none⟩) s2).trans s0; have t1 := (hb.cell (p := ⟨b, o + j * 2 + 1, none⟩) s2).trans s1; have t2 := Nat.lt_of_lt_of_le s2 hb.size
          clear s0 s1 s2 s3 s4 s5 hb
          refine ⟨_, rfl, ?_⟩
          refine hK.out _ _ ⟨t0, t1, t2, hx, hy, hk⟩ (fun hHeld => ?_)
          clear hK K
          refine norm_ (a' := ?_) ?_ ?_
          rotate_left
          · show Act.put _ (some 103) _ = _
            simp only [Act.put, List.setIfInBounds_toArray, List.set_cons_zero, List.set_cons_succ, i64_w, i32_w]
            rfl
          refine last_ (i := 14) (N := (some 104)) #[true, true, true, true, true, true, true, true, true, true, true, true, true, true, true, false] rfl rfl (by kernel_rfl) (by decide) (fun K hK => ?_)
          refine goes_ Try.func13 (by kernel_rfl) rfl #[.pointer (some ⟨g, 0, none⟩), .int .i64 x, .string (pg z1)] (by rfl) rfl rfl (by (try simp only [List.map_toArray, List.map_cons, List.map_nil]); first | done | rfl) ?_
          refine (CW.out _ hHeld.2.2.2.1 hHeld.2.2.2.2.1 hHeld.2.2.2.2.2.lt).mono ?_
          rintro e x1 ⟨rfl, hI, hl⟩
          have I5 := Lib.hid hI; have L5 := Lib.hid (HL.out _ _ hl hHeld.2.2.2.2.1); have K5 := Lib.hid (hl.blk hHeld.2.2.2.2.2 (fun h => h.2 rfl))
          clear hI hl hHeld
          refine ⟨_, rfl, ?_⟩
          refine hK.out _ _ ?_
          clear hK K
          refine norm_ (a' := ?_) ?_ ?_
          rotate_left
          · show Act.put _ (some 104) _ = _
            simp only [Act.put, List.setIfInBounds_toArray, List.set_cons_zero, List.set_cons_succ, i64_w, i32_w]
            rfl
          refine pure_ (i := 15) (N := (some 105)) (v := ?_) (a' := ?_) #[true, true, true, true, true, true, true, true, true, true, true, true, true, true, true, true] rfl rfl (by kernel_rfl) (fun _ _ _ h => h) (Or.inl ⟨by rfl, ?_⟩) ?_ ?_
          rotate_left
          · intro w'
            go_simp
            with_reducible rfl
          rotate_left
          · simp only [Act.put, List.setIfInBounds_toArray, List.set_cons_zero, List.set_cons_succ, i64_w, i32_w]
            rfl
          refine done_ (by kernel_rfl) ?_
          go_wp2_with fail
          exact ⟨⟨j + 1, D5, by omega, by go_num, I5.out, L5.out, J5.out, K5.out⟩, by simp [intOf]; omega⟩
        · obtain rfl : n1 = j := by omega
          have J3' := J3.out
          rw [List.take_of_length_le (by have := HN1.out; omega)] at J3'
          have HR := Lib.hid (fun (p : Nat) (hp : p < 4) => J3'.crash ch p hp)
          have F5 := Lib.hid (J3'.fine.crash ch)
          have H4 := Lib.hid J3'.now4
          have C5 := crashF_f I3.out J3'.fine (by omega) A2 c2 ch (by
            obtain ⟨h1, h2⟩ := HC.out
            refine ⟨h1, h2.imp id ?_⟩
            rintro ⟨b, o, e, hor, hlt', hc⟩
            exact ⟨b, o, e, .inl (fun hk => by have := hk.1; omega), Nat.lt_of_lt_of_le hlt' L3.out.size, fun j hj => (L3.out.cell (p := ⟨b, o + j, none⟩) hlt').trans (hc j hj)⟩)
          rw [HN2.out] at C5
          have C5 := Lib.hid C5
          clear J3' J3
          generalize crashM D ch = D5 at *
          go_wp2_with fail
          ((with_reducible refine C5.out.mono ?_); rintro e w5 ⟨rfl, hI, hl⟩)
          have I5 := Lib.hid hI; have L5 := Lib.hid (HL.out _ _ hl L3.out); have K5 := Lib.hid (hl.blk K3.out (fun h => h.2 rfl))
          clear hI hl C5 I3 L3 K3
          go_wp2_with fail
          go_loopw [12] (fun i wr => ∃ p : Nat, p ≤ 4 ∧ i = .int .i64 p ∧ IsF (fun k => w.heap.size ≤ k ∧ k ≠ a) wr g D5 ∧ Below w.heap.size w wr ∧ Blk wr a 30 (byt (nums now))) (fun i _ => 4 - (intOf i).toNat)
          case atStart => exact ⟨0, by omega, rfl, I5.out, L5.out, K5.out⟩
          case round =>
            obtain ⟨p, hp, rfl, hI, hlow, hK⟩ := hrel
            have I6 := Lib.hid hI; have L6 := Lib.hid hlow; have K6 := Lib.hid hK
            clear hI hlow hK I5 L5 K5
            by_cases hp4 : p < 4
            · have hp4' : (p : Int) < 4 := by omega
              have C6 := readF_f I6.out F5.out (by omega) (p : Int)
              rw [HR.out p hp4] at C6
              have C6 := Lib.hid C6
              have hpn : p < now.length := by rw [H4.out]; exact hp4
              have hs := (crash_secs now H4.out m ch p 0 m.length hp4 (by omega) (.inl (Nat.le_refl _))).2
              obtain ⟨u, hu⟩ : ∃ u, now[p]'hpn = u := ⟨_, rfl⟩
              have HU := Lib.hid hu
              have HS := Lib.hid (show ∀ k i, k < 4 → (m.length ≤ i ∨ ch.length ≤ i) → ((crashL (now.map pg) (m.map wrt) ch)[p]?.getD ByteArray.empty).extract (64 * k) (64 * k + 64) = sec (wantK m ch u p k i) from fun k i hk hi => by
                have := (crash_secs now H4.out m ch p k i hp4 hk hi).1
                rwa [hu] at this)
              clear hu
              generalize (crashL (now.map pg) (m.map wrt) ch)[p]?.getD ByteArray.empty = s at *
              have HSZ := Lib.hid hs
              have hs' := ne256 hs
              clear hs
              go_wp2_with fail
              ((with_reducible refine C6.out.mono ?_); rintro e w6 ⟨rfl, hl⟩)
              have I7 := Lib.hid (I6.out.below hl); have L7 := Lib.hid (low_then L6.out L6.out.size hl); have K7 := Lib.hid (K6.out.step hl)
              clear hl I6 L6 K6 C6
              go_wp2_with fail
              go_loopw [15] (fun i wr => ∃ k : Nat, k ≤ 4 ∧ i = .int .i64 k ∧ IsF (fun k => w.heap.size ≤ k ∧ k ≠ a) wr g D5 ∧ Below w.heap.size w wr ∧ Blk wr a 30 (byt (nums now))) (fun i _ => 4 - (intOf i).toNat)
              case atStart => exact ⟨0, by omega, rfl, I7.out, L7.out, K7.out⟩
              case round =>
                obtain ⟨k, hk, rfl, hI, hlow, hK⟩ := hrel
                have I8 := Lib.hid hI; have L8 := Lib.hid hlow; have K8 := Lib.hid hK
                clear hI hlow hK I7 L7 K7
                by_cases hk4 : k < 4
                · have hk4' : (k : Int) < 4 := by omega
                  have kc := K8.out.cell p
                  rw [nums_at now p hpn, HU.out] at kc
                  go_wp2_with fail
                  have HWR := Lib.hid (show ∃ wo : World, wo = wr from ⟨_, rfl⟩)
                  obtain ⟨wo, hwo⟩ : ∃ wo : World, wo = wr := ⟨_, rfl⟩
                  subst hwo
                  go_loopw [16, 17] (fun v i wr => ∃ q : Nat, q ≤ n1 ∧ q ≤ n2 ∧ i = .int .i64 q ∧ v = .int .u8 (wantK m ch u p k q).toNat ∧ wo = wr) (fun _ i _ => n1 - (intOf i).toNat)
                  case atStart => exact ⟨0, Nat.zero_le _, Nat.zero_le _, rfl, rfl, rfl⟩
                  case round =>
                    obtain ⟨q, hq1, hq2, rfl, rfl, rfl⟩ := hrel
                    clear kc
                    by_cases hql : q < n1
                    · have hql' : (q : Int) < n1 := by omega
                      by_cases hqc : q < n2
                      · have hqc' : (q : Int) < n2 := by omega
                        have hqm : q < m.length := by rw [HN1.out]; exact hql
                        have hqh : q < ch.length := by rw [HN2.out]; exact hqc
                        obtain ⟨bm, om, rfl, _, hc0, hc1⟩ := (HP1.out.below L8.out) q hqm
                        obtain ⟨hall, hor⟩ := HC.out
                        have hor' := hor.resolve_left (by intro e; rw [e] at hqh; simp at hqh)
                        obtain ⟨b3, o3, rfl, _, hb3l, hcell3⟩ := hor'
                        have hc3 := (L8.out.cell (p := ⟨b3, o3 + q, none⟩) hb3l).trans (hcell3 q hqh)
                        have hcc := hall ch[q] (List.getElem_mem _)
                        have hsu := wantK_succ m ch u p k q hqm hqh
                        unfold want1 at hsu
                        clear hall hor hcell3
                        obtain ⟨z0, z1, hzz⟩ : ∃ z0 z1, m[q] = (z0, z1) := ⟨_, _, rfl⟩
                        rw [hzz] at hc0 hc1 hsu
                        simp only at hc0 hc1 hsu
                        obtain ⟨cc, hce⟩ : ∃ cc, ch[q] = cc := ⟨_, rfl⟩
                        rw [hce] at hc3 hcc hsu
                        have hz0 := z0.toNat_lt
                        clear hzz hce
                        obtain ⟨q0, hq0⟩ : ∃ q, z0.toNat = q := ⟨_, rfl⟩
                        rw [hq0] at hc0 hz0 hsu
                        clear hq0
                        have hbt := bit_test cc k hcc
                        by_cases hqp : q0 % 4 = p
                        · have hqp' : ((q0 : Int) % 4 == (p : Int)) = true := by rw [beq_iff_eq]; omega
                          by_cases hbit : cc / 2 ^ k % 2 = 1
                          · rw [if_pos ⟨hqp, hbit⟩] at hsu
                            rw [decide_eq_true hbit] at hbt
                            have HK := Lib.hid hsu
                            clear hsu hbit hqp
                            go_wp2_with fail
                            exact ⟨⟨q + 1, by omega, by omega, by go_num, by rw [HK.out], trivial⟩, by simp [intOf]; omega⟩
                          · rw [if_neg (fun h => hbit h.2)] at hsu
                            rw [decide_eq_false hbit] at hbt
                            have HK := Lib.hid hsu
                            clear hsu hbit hqp
                            go_wp2_with fail
                            exact ⟨⟨q + 1, by omega, by omega, by go_num, by rw [HK.out], trivial⟩, by simp [intOf]; omega⟩
                        · have hqp' : ((q0 : Int) % 4 == (p : Int)) = false := by rw [beq_eq_false_iff_ne]; omega
                          rw [if_neg (fun h => hqp h.1)] at hsu
                          have HK := Lib.hid hsu
                          clear hsu hqp hbt
                          go_wp2_with fail
                          exact ⟨⟨q + 1, by omega, by omega, by go_num, by rw [HK.out], trivial⟩, by simp [intOf]; omega⟩
                      · have hqc' : ¬ (q : Int) < n2 := by omega
                        have hE := HS.out k q hk4 (.inr (by have := HN2.out; omega))
                        have hP := pg_sec0 (wantK m ch u p k q)
                        have hpz : (64 : Int) ≤ ((pg (wantK m ch u p k q)).size : Int) := by rw [pg_size]; omega
                        have hfl := fun W => fill_calls (wantK m ch u p k q) W
                        rw [show bs (pageL (wantK m ch u p k q)) = pg (wantK m ch u p k q) from rfl] at hfl
                        have HFL := Lib.hid hfl
                        clear hfl
                        generalize wantK m ch u p k q = W at *
                        have hsl := fun w => run_sec (P := Try.prog) w 9 s k Try.underlying9 HSZ.out hk4
                        have hw1 : IntKind.i64.wrap (64 * (k : Int)) = 64 * k := IntWalk.i64_in _ (by omega)
                        have hw2 : IntKind.i64.wrap (64 * (k : Int) + 64) = 64 * k + 64 := IntWalk.i64_in _ (by omega)
                        go_wp2_with fail
                        refine start_ (n := 11) (S := fun w' => IsF (fun k => w.heap.size ≤ k ∧ k ≠ a) w' g D5 ∧ Below w.heap.size w w' ∧ Blk w' a 30 (byt (nums now))) (ds := []) #[false, false, false, false, false, false, false, false, false, false, false] (by kernel_rfl) rfl rfl ⟨I8.out.drew, L8.out.drew, K8.out.drew⟩ (fun hHeld => ?_)
                        refine pure_ (i := 0) (N := (some 170)) (v := ?_) (a' := ?_) #[true, false, false, false, false, false, false, false, false, false, false] rfl rfl (by kernel_rfl) (fun _ _ _ h => h) (Or.inl ⟨by rfl, ?_⟩) ?_ ?_
                        rotate_left
                        · intro w'
                          go_simp
                          with_reducible rfl
                        rotate_left
                        · simp only [Act.put, List.setIfInBounds_toArray, List.set_cons_zero, List.set_cons_succ, i64_w, i32_w]
                          rfl
                        refine pure_ (i := 1) (N := (some 171)) (v := ?_) (a' := ?_) #[true, true, false, false, false, false, false, false, false, false, false] rfl rfl (by kernel_rfl) (fun _ _ _ h => h) (Or.inl ⟨by rfl, ?_⟩) ?_ ?_
                        rotate_left
                        · intro w'
                          go_simp
                          with_reducible rfl
                        rotate_left
                        · simp only [Act.put, List.setIfInBounds_toArray, List.set_cons_zero, List.set_cons_succ, i64_w, i32_w]
                          rfl
                        refine pure_ (i := 2) (N := (some 172)) (v := ?_) (a' := ?_) #[true, true, true, false, false, false, false, false, false, false, false] rfl rfl (by kernel_rfl) (fun _ _ _ h => h) (Or.inl ⟨by rfl, ?_⟩) ?_ ?_
                        rotate_left
                        · intro w'
                          go_simp
                          with_reducible rfl
                        rotate_left
                        · simp only [Act.put, List.setIfInBounds_toArray, List.set_cons_zero, List.set_cons_succ, i64_w, i32_w]
                          rfl
                        refine pure_ (i := 3) (N := (some 173)) (v := ?_) (a' := ?_) #[true, true, true, true, false, false, false, false, false, false, false] rfl rfl (by kernel_rfl) (fun _ _ _ h => h) (Or.inl ⟨by rfl, ?_⟩) ?_ ?_
                        rotate_left
                        · intro w'
                          go_simp
                          with_reducible rfl
                        rotate_left
                        · simp only [Act.put, List.setIfInBounds_toArray, List.set_cons_zero, List.set_cons_succ, i64_w, i32_w]
                          rfl
                        refine pure_ (i := 4) (N := (some 174)) (v := ?_) (a' := ?_) #[true, true, true, true, true, false, false, false, false, false, false] rfl rfl (by kernel_rfl) (fun _ _ _ h => h) (Or.inl ⟨by rfl, ?_⟩) ?_ ?_
                        rotate_left
                        · intro w'
                          go_simp
                          with_reducible rfl
                        rotate_left
                        · simp only [Act.put, List.setIfInBounds_toArray, List.set_cons_zero, List.set_cons_succ, i64_w, i32_w]
                          rfl
                        refine pure_ (i := 5) (N := (some 175)) (v := ?_) (a' := ?_) #[true, true, true, true, true, true, false, false, false, false, false] rfl rfl (by kernel_rfl) (fun _ _ _ h => h) (Or.inl ⟨by rfl, ?_⟩) ?_ ?_
                        rotate_left
                        · intro w'
                          go_simp
                          with_reducible rfl
                        rotate_left
                        · simp only [Act.put, List.setIfInBounds_toArray, List.set_cons_zero, List.set_cons_succ, i64_w, i32_w]
                          rfl
                        refine pure_ (i := 6) (N := (some 176)) (v := ?_) (a' := ?_) #[true, true, true, true, true, true, true, false, false, false, false] rfl rfl (by kernel_rfl) (fun _ _ _ h => h) (Or.inl ⟨by rfl, ?_⟩) ?_ ?_
                        rotate_left
                        · intro w'
                          go_simp
                          with_reducible rfl
                        rotate_left
                        · simp only [Act.put, List.setIfInBounds_toArray, List.set_cons_zero, List.set_cons_succ, i64_w, i32_w]
                          rfl
                        refine pure_ (i := 7) (N := (some 177)) (v := ?_) (a' := ?_) #[true, true, true, true, true, true, true, true, false, false, false] rfl rfl (by kernel_rfl) (fun _ _ _ h => h) (Or.inl ⟨by rfl, ?_⟩) ?_ ?_
                        rotate_left
                        · intro w'
                          go_simp
                          with_reducible rfl
                        rotate_left
                        · simp only [Act.put, List.setIfInBounds_toArray, List.set_cons_zero, List.set_cons_succ, i64_w, i32_w]
                          rfl
                        refine one_ (i := 8) (N := (some 178)) #[true, true, true, true, true, true, true, true, true, false, false] rfl rfl (by kernel_rfl) (by decide) (fun K hK => ?_)
                        refine goes_ Try.func14 (by kernel_rfl) rfl #[.int .u8 W.toNat] (by rfl) rfl rfl (by (try simp only [List.map_toArray, List.map_cons, List.map_nil]); first | done | rfl) ?_
                        refine (HFL.out _).mono ?_
                        rintro e x1 ⟨rfl, hb⟩
                        have hx := hHeld.1.below hb; have hy := low_then hHeld.2.1 hHeld.2.1.size hb; have hz := hHeld.2.2.step hb
                        clear hHeld hb
                        refine ⟨_, rfl, ?_⟩
                        refine hK.out _ _ ⟨hx, hy, hz⟩ (fun hHeld => ?_)
                        clear hK K
                        refine norm_ (a' := ?_) ?_ ?_
                        rotate_left
                        · show Act.put _ (some 178) _ = _
                          simp only [Act.put, List.setIfInBounds_toArray, List.set_cons_zero, List.set_cons_succ, i64_w, i32_w]
                          rfl
                        refine pure_ (i := 9) (N := (some 179)) (v := ?_) (a' := ?_) #[true, true, true, true, true, true, true, true, true, true, false] rfl rfl (by kernel_rfl) (fun _ _ _ h => h) (Or.inl ⟨by rfl, ?_⟩) ?_ ?_
                        rotate_left
                        · intro w'
                          go_simp
                          with_reducible rfl
                        rotate_left
                        · simp only [Act.put, List.setIfInBounds_toArray, List.set_cons_zero, List.set_cons_succ, i64_w, i32_w]
                          rfl
                        refine pure_ (i := 10) (N := (some 180)) (v := ?_) (a' := ?_) #[true, true, true, true, true, true, true, true, true, true, true] rfl rfl (by kernel_rfl) (fun _ _ _ h => h) (Or.inl ⟨by rfl, ?_⟩) ?_ ?_
                        rotate_left
                        · intro w'
                          go_simp
                          with_reducible rfl
                        rotate_left
                        · simp only [Act.put, List.setIfInBounds_toArray, List.set_cons_zero, List.set_cons_succ, i64_w, i32_w]
                          rfl
                        refine done_ (by kernel_rfl) ?_
                        go_wp2_with fail
                        exact ⟨⟨k + 1, by omega, by go_num, hHeld.1, hHeld.2.1, hHeld.2.2⟩, by simp [intOf]; omega⟩
                    · have hql' : ¬ (q : Int) < n1 := by omega
                      have hE := HS.out k q hk4 (.inl (by have := HN1.out; omega))
                      have hP := pg_sec0 (wantK m ch u p k q)
                      have hpz : (64 : Int) ≤ ((pg (wantK m ch u p k q)).size : Int) := by rw [pg_size]; omega
                      have hfl := fun W => fill_calls (wantK m ch u p k q) W
                      rw [show bs (pageL (wantK m ch u p k q)) = pg (wantK m ch u p k q) from rfl] at hfl
                      have HFL := Lib.hid hfl
                      clear hfl
                      generalize wantK m ch u p k q = W at *
                      have hsl := fun w => run_sec (P := Try.prog) w 9 s k Try.underlying9 HSZ.out hk4
                      have hw1 : IntKind.i64.wrap (64 * (k : Int)) = 64 * k := IntWalk.i64_in _ (by omega)
                      have hw2 : IntKind.i64.wrap (64 * (k : Int) + 64) = 64 * k + 64 := IntWalk.i64_in _ (by omega)
                      go_wp2_with fail
                      refine start_ (n := 11) (S := fun w' => IsF (fun k => w.heap.size ≤ k ∧ k ≠ a) w' g D5 ∧ Below w.heap.size w w' ∧ Blk w' a 30 (byt (nums now))) (ds := []) #[false, false, false, false, false, false, false, false, false, false, false] (by kernel_rfl) rfl rfl ⟨I8.out.drew, L8.out.drew, K8.out.drew⟩ (fun hHeld => ?_)
                      refine pure_ (i := 0) (N := (some 170)) (v := ?_) (a' := ?_) #[true, false, false, false, false, false, false, false, false, false, false] rfl rfl (by kernel_rfl) (fun _ _ _ h => h) (Or.inl ⟨by rfl, ?_⟩) ?_ ?_
                      rotate_left
                      · intro w'
                        go_simp
                        with_reducible rfl
                      rotate_left
                      · simp only [Act.put, List.setIfInBounds_toArray, List.set_cons_zero, List.set_cons_succ, i64_w, i32_w]
                        rfl
                      refine pure_ (i := 1) (N := (some 171)) (v := ?_) (a' := ?_) #[true, true, false, false, false, false, false, false, false, false, false] rfl rfl (by kernel_rfl) (fun _ _ _ h => h) (Or.inl ⟨by rfl, ?_⟩) ?_ ?_
                      rotate_left
                      · intro w'
                        go_simp
                        with_reducible rfl
                      rotate_left
                      · simp only [Act.put, List.setIfInBounds_toArray, List.set_cons_zero, List.set_cons_succ, i64_w, i32_w]
                        rfl
                      refine pure_ (i := 2) (N := (some 172)) (v := ?_) (a' := ?_) #[true, true, true, false, false, false, false, false, false, false, false] rfl rfl (by kernel_rfl) (fun _ _ _ h => h) (Or.inl ⟨by rfl, ?_⟩) ?_ ?_
                      rotate_left
                      · intro w'
                        go_simp
                        with_reducible rfl
                      rotate_left
                      · simp only [Act.put, List.setIfInBounds_toArray, List.set_cons_zero, List.set_cons_succ, i64_w, i32_w]
                        rfl
                      refine pure_ (i := 3) (N := (some 173)) (v := ?_) (a' := ?_) #[true, true, true, true, false, false, false, false, false, false, false] rfl rfl (by kernel_rfl) (fun _ _ _ h => h) (Or.inl ⟨by rfl, ?_⟩) ?_ ?_
                      rotate_left
                      · intro w'
                        go_simp
                        with_reducible rfl
                      rotate_left
                      · simp only [Act.put, List.setIfInBounds_toArray, List.set_cons_zero, List.set_cons_succ, i64_w, i32_w]
                        rfl
                      refine pure_ (i := 4) (N := (some 174)) (v := ?_) (a' := ?_) #[true, true, true, true, true, false, false, false, false, false, false] rfl rfl (by kernel_rfl) (fun _ _ _ h => h) (Or.inl ⟨by rfl, ?_⟩) ?_ ?_
                      rotate_left
                      · intro w'
                        go_simp
                        with_reducible rfl
                      rotate_left
                      · simp only [Act.put, List.setIfInBounds_toArray, List.set_cons_zero, List.set_cons_succ, i64_w, i32_w]
                        rfl
                      refine pure_ (i := 5) (N := (some 175)) (v := ?_) (a' := ?_) #[true, true, true, true, true, true, false, false, false, false, false] rfl rfl (by kernel_rfl) (fun _ _ _ h => h) (Or.inl ⟨by rfl, ?_⟩) ?_ ?_
                      rotate_left
                      · intro w'
                        go_simp
                        with_reducible rfl
                      rotate_left
                      · simp only [Act.put, List.setIfInBounds_toArray, List.set_cons_zero, List.set_cons_succ, i64_w, i32_w]
                        rfl
                      refine pure_ (i := 6) (N := (some 176)) (v := ?_) (a' := ?_) #[true, true, true, true, true, true, true, false, false, false, false] rfl rfl (by kernel_rfl) (fun _ _ _ h => h) (Or.inl ⟨by rfl, ?_⟩) ?_ ?_
                      rotate_left
                      · intro w'
                        go_simp
                        with_reducible rfl
                      rotate_left
                      · simp only [Act.put, List.setIfInBounds_toArray, List.set_cons_zero, List.set_cons_succ, i64_w, i32_w]
                        rfl
                      refine pure_ (i := 7) (N := (some 177)) (v := ?_) (a' := ?_) #[true, true, true, true, true, true, true, true, false, false, false] rfl rfl (by kernel_rfl) (fun _ _ _ h => h) (Or.inl ⟨by rfl, ?_⟩) ?_ ?_
                      rotate_left
                      · intro w'
                        go_simp
                        with_reducible rfl
                      rotate_left
                      · simp only [Act.put, List.setIfInBounds_toArray, List.set_cons_zero, List.set_cons_succ, i64_w, i32_w]
                        rfl
                      refine one_ (i := 8) (N := (some 178)) #[true, true, true, true, true, true, true, true, true, false, false] rfl rfl (by kernel_rfl) (by decide) (fun K hK => ?_)
                      refine goes_ Try.func14 (by kernel_rfl) rfl #[.int .u8 W.toNat] (by rfl) rfl rfl (by (try simp only [List.map_toArray, List.map_cons, List.map_nil]); first | done | rfl) ?_
                      refine (HFL.out _).mono ?_
                      rintro e x1 ⟨rfl, hb⟩
                      have hx := hHeld.1.below hb; have hy := low_then hHeld.2.1 hHeld.2.1.size hb; have hz := hHeld.2.2.step hb
                      clear hHeld hb
                      refine ⟨_, rfl, ?_⟩
                      refine hK.out _ _ ⟨hx, hy, hz⟩ (fun hHeld => ?_)
                      clear hK K
                      refine norm_ (a' := ?_) ?_ ?_
                      rotate_left
                      · show Act.put _ (some 178) _ = _
                        simp only [Act.put, List.setIfInBounds_toArray, List.set_cons_zero, List.set_cons_succ, i64_w, i32_w]
                        rfl
                      refine pure_ (i := 9) (N := (some 179)) (v := ?_) (a' := ?_) #[true, true, true, true, true, true, true, true, true, true, false] rfl rfl (by kernel_rfl) (fun _ _ _ h => h) (Or.inl ⟨by rfl, ?_⟩) ?_ ?_
                      rotate_left
                      · intro w'
                        go_simp
                        with_reducible rfl
                      rotate_left
                      · simp only [Act.put, List.setIfInBounds_toArray, List.set_cons_zero, List.set_cons_succ, i64_w, i32_w]
                        rfl
                      refine pure_ (i := 10) (N := (some 180)) (v := ?_) (a' := ?_) #[true, true, true, true, true, true, true, true, true, true, true] rfl rfl (by kernel_rfl) (fun _ _ _ h => h) (Or.inl ⟨by rfl, ?_⟩) ?_ ?_
                      rotate_left
                      · intro w'
                        go_simp
                        with_reducible rfl
                      rotate_left
                      · simp only [Act.put, List.setIfInBounds_toArray, List.set_cons_zero, List.set_cons_succ, i64_w, i32_w]
                        rfl
                      refine done_ (by kernel_rfl) ?_
                      go_wp2_with fail
                      exact ⟨⟨k + 1, by omega, by go_num, hHeld.1, hHeld.2.1, hHeld.2.2⟩, by simp [intOf]; omega⟩
                · obtain rfl : k = 4 := by omega
                  go_wp2_with fail
                  exact ⟨⟨p + 1, by omega, by go_num, I8.out, L8.out, K8.out⟩, by simp [intOf]; omega⟩
            · obtain rfl : p = 4 := by omega
              go_wp2_with fail
              ((with_reducible refine (wakes_calls _).mono ?_); rintro e w13 ⟨rfl, hl⟩)
              have L14 := Lib.hid (low_then L6.out L6.out.size hl)
              clear hl L6
              go_wp2_with fail
              go_ret
              exact ⟨rfl, L14.out⟩
end Go.Proofs.Ytofmlmgdbcjeoaa.Dsk
