/- What this text proves: the law DiskFuses answers true at every two bytes. -/
import Derived.Test.YtofmlmgdbcjeoaaDskY
import Derived.Test.YtofmlmgdbcjeoaaDskQ
namespace Go.Proofs.Ytofmlmgdbcjeoaa.Dsk
open Go Go.RowKit Go.Proofs Go.Proofs.Ytofmlmgdbcjeoaa.Base
set_option linter.unusedSimpArgs false

theorem fine_G4 : Fine 0 G4 := by
  have h := (fine_new [] 4 g0).grow 4
  rw [show growM (newD [] 4) 4 = (G4, 0) from g1] at h
  exact h
theorem sync_len (D : DM) : (syncM D).1.st.length = D.st.length := by
  unfold syncM
  split
  · rfl
  split
  · rfl
  · exact putW_length _ _
theorem crash_len (D : DM) (ch : List Nat) : (crashM D ch).st.length = D.st.length := crashL_length _ _ _
theorem read_ok (D : DM) (x : Nat) (hd : D.down = false) (hx : x < D.st.length) : readM D x = (viewAt D x, 0) := by
  unfold readM
  rw [if_neg (by rw [hd]; simp), if_neg (by omega)]
  rfl
theorem sync_ok (D : DM) (hd : D.down = false) (hf : D.fuse ≠ 0) : syncM D = ({ D with fuse := burn D.fuse, st := putW D.st D.wt, wt := [] }, 0) := by
  unfold syncM
  rw [if_neg (by rw [hd]; simp), if_neg hf]
theorem len0 : (([] : List Nat).length) = 0 := rfl
theorem gf_len (k j : Nat) : (GF k j).st.length = 4 := by simp [GF, zer]
theorem gf_read (k j : Nat) : (readM (GF k j) 0).2 = if k < j then 2 else 0 := by
  by_cases h : k < j
  · rw [if_pos h]
    unfold readM
    rw [if_pos (by simp [GF, h])]
  · rw [if_neg h]
    rw [show (0 : Int) = ((0 : Nat) : Int) from rfl, read_ok _ 0 (by simp [GF]; omega) (by rw [gf_len]; omega)]
    rfl
theorem gf_sync (k j : Nat) : (syncM (GF k j)).2 = if j < k then 0 else 2 := by
  by_cases h : k < j
  · rw [if_neg (by omega)]
    unfold syncM
    rw [if_pos (by simp [GF, h])]
  · unfold syncM
    rw [if_neg (by simp [GF]; omega)]
    by_cases h2 : j < k
    · rw [if_neg (by simp [GF]; omega), if_pos h2]
    · rw [if_pos (by simp [GF]; omega), if_neg h2]
set_option maxHeartbeats 6400000 in
set_option maxRecDepth 100000 in
theorem fuses_law (n m : UInt8) (w : World) : Calls Try.prog 4 #[.int .u8 n.toNat, .int .u8 m.toNat] w fun e w' => e = .returned (.bool true) ∧ Below w.heap.size w w' := by
  have HN := Lib.hid (new_calls w.heap.size 4 w (Nat.le_refl _))
  rw [g0] at HN
  have bn := n.toNat_lt; have bm := m.toNat_lt
  generalize n.toNat = p at *
  generalize m.toNat = q at *
  go_enter Try.func4, Try.ntmps4
  go_wp2_with fail
  ((with_reducible refine HN.out.mono ?_); rintro e w0 ⟨hl, ⟨h, _⟩ | ⟨_, g, rfl, hI⟩⟩)
  · cases h
  have C0 := Lib.hid (grow_f hI hl.size (fine_new [] 4 g0) 4)
  rw [show growM (newD [] 4) 4 = (G4, 0) from g1] at C0
  have L0 := Lib.hid hl
  clear hl hI HN
  go_wp2_with fail
  ((with_reducible refine C0.out.mono ?_); rintro e w1 ⟨rfl, hI, hl⟩)
  have I1 := Lib.hid hI; have L1 := Lib.hid (L0.out.trans hl)
  clear hI hl C0 L0
  go_wp2_with fail
  have k0 : 0 ≤ (p : Int) % 10 ∧ (p : Int) % 10 < 10 := by omega
  have a0 : 0 ≤ (q : Int) % 12 ∧ (q : Int) % 12 < 12 := by omega
  generalize (p : Int) % 10 = k at *
  generalize (q : Int) % 12 = a at *
  obtain ⟨k, rfl⟩ := Int.eq_ofNat_of_zero_le k0.1
  obtain ⟨a, rfl⟩ := Int.eq_ofNat_of_zero_le a0.1
  have C1 := Lib.hid (fuse_calls w.heap.size g G4 k w1 I1.out)
  rw [← gf_zero] at C1
  ((with_reducible refine C1.out.mono ?_); rintro e w2 ⟨rfl, hI, hl⟩)
  have I2 := Lib.hid hI; have L2 := Lib.hid (L1.out.trans hl)
  have F2 := Lib.hid (fine_G4.burned k (by omega))
  rw [← gf_zero] at F2
  clear hI hl C1 L1 I1
  go_wp2_with fail
  go_loopw [9] (fun i wr => ∃ j : Nat, j ≤ a ∧ i = .int .i64 j ∧ IsD w.heap.size wr g (GF k j) ∧ Below w.heap.size w wr ∧ Fine j (GF k j)) (fun i _ => a - (intOf i).toNat)
  case atStart => exact ⟨0, Nat.zero_le _, rfl, I2.out, L2.out, F2.out⟩
  case round =>
    obtain ⟨j, hj, rfl, hI, hl, hF⟩ := hrel
    have I3 := Lib.hid hI; have L3 := Lib.hid hl; have F3 := Lib.hid hF
    clear hI hl hF I2 L2 F2
    by_cases hlt : j < a
    · have FI := Lib.hid (fun W => fill_calls (UInt8.ofNat (j + 1)) W)
      rw [show (((UInt8.ofNat (j + 1)).toNat : Nat) : Int) = (j : Int) + 1 by rw [UInt8.toNat_ofNat']; omega] at FI
      have hs := gf_step k j
      obtain ⟨u, hu⟩ : ∃ u, UInt8.ofNat (j + 1) = u := ⟨_, rfl⟩
      rw [hu] at FI hs
      have HS := Lib.hid hs
      clear hu hs
      have hj1 : (j : Int) < a := by omega
      go_wp2_with fail
      ((with_reducible refine (FI.out _).mono ?_); rintro e w3 ⟨rfl, hl⟩)
      have I4 := Lib.hid (I3.out.below hl); have L4 := Lib.hid (low_then L3.out L3.out.size hl)
      clear hl I3 L3
      have C4 := Lib.hid (write_f I4.out L4.out.size F3.out (by omega) ((j : Int) % 4) (bs (pageL u)))
      have F4 := Lib.hid (F3.out.write ((j : Int) % 4) (bs (pageL u)))
      rw [HS.out] at C4 F4
      clear F3
      go_wp2_with fail
      by_cases hk : j < k
      · rw [if_pos hk] at C4
        have hk' : (j : Int) < k := by omega
        ((with_reducible refine C4.out.mono ?_); rintro e w4 ⟨rfl, hI, hl⟩)
        have I5 := Lib.hid hI; have L5 := Lib.hid (L4.out.trans hl)
        clear hI hl C4 L4 I4
        go_wp2_with fail
        exact ⟨⟨j + 1, by omega, by go_num, I5.out, L5.out, F4.out⟩, by simp [intOf]; omega⟩
      · rw [if_neg hk] at C4
        have hk' : ¬ (j : Int) < k := by omega
        ((with_reducible refine C4.out.mono ?_); rintro e w4 ⟨rfl, hI, hl⟩)
        have I5 := Lib.hid hI; have L5 := Lib.hid (L4.out.trans hl)
        clear hI hl C4 L4 I4
        go_wp2_with fail
        exact ⟨⟨j + 1, by omega, by go_num, I5.out, L5.out, F4.out⟩, by simp [intOf]; omega⟩
    · obtain rfl : j = a := by omega
      have C3 := Lib.hid (wait_f I3.out F3.out (by omega))
      rw [show (GF k j).wt.length = min j k by simp [GF, fzW]] at C3
      go_wp2_with fail
      ((with_reducible refine C3.out.mono ?_); rintro e w3 ⟨v, rfl, hv, hl⟩)
      obtain ⟨A', c', rfl⟩ := own_form hv
      have I4 := Lib.hid (I3.out.below hl); have L4 := Lib.hid (low_then L3.out L3.out.size hl)
      clear hl I3 L3 hv C3
      go_wp2_with fail
      rcases Nat.lt_trichotomy k j with h | h | h
      · have hk1 : (k : Int) < j := by omega
        have h' := Lib.hid h
        have C5 := Lib.hid (read_f I4.out F3.out (by omega) 0)
        have hr := gf_read k j
        rw [if_pos h] at hr
        rw [hr] at C5
        clear hr
        generalize (readM (GF k j) 0).1 = s5 at *
        ((with_reducible refine C5.out.mono ?_); rintro e w5 ⟨rfl, hl⟩)
        have I5 := Lib.hid (I4.out.below hl); have L5 := Lib.hid (low_then L4.out L4.out.size hl)
        clear hl I4 L4 C5
        go_wp2_with fail
        have C6 := Lib.hid (sync_f I5.out L5.out.size F3.out (by omega))
        have F6 := Lib.hid F3.out.sync
        have hy := gf_sync k j
        rw [if_neg (by omega)] at hy
        rw [hy] at C6
        have hn6 := (sync_len (GF k j)).trans (gf_len k j)
        have HN6 := Lib.hid hn6
        clear hy hn6 F3
        generalize (syncM (GF k j)).1 = D6 at *
        ((with_reducible refine C6.out.mono ?_); rintro e w6 ⟨rfl, hI, hl⟩)
        have I6 := Lib.hid hI; have L6 := Lib.hid (L5.out.trans hl)
        clear hI hl I5 L5 C6
        go_wp2_with fail
        have C7 := Lib.hid (crash_f I6.out L6.out.size F6.out (by omega) none 0 [] (by exact ⟨by simp, .inl rfl⟩))
        rw [len0] at C7
        have F7 := Lib.hid (F6.out.crash [])
        have HN7 := Lib.hid ((crash_len D6 []).trans HN6.out)
        have HD7 := Lib.hid (show (crashM D6 []).down = false from rfl)
        have HF7 := Lib.hid (show (crashM D6 []).fuse = -1 from rfl)
        generalize crashM D6 [] = D7 at *
        ((with_reducible refine C7.out.mono ?_); rintro e w7 ⟨rfl, hI, hl⟩)
        have I7 := Lib.hid hI; have L7 := Lib.hid (L6.out.trans hl)
        clear hI hl I6 L6 C7 F6 HN6
        go_wp2_with fail
        have C8 := Lib.hid (read_f I7.out F7.out (by omega) ((0 : Nat) : Int))
        rw [read_ok D7 0 HD7.out (by rw [HN7.out]; omega)] at C8
        rw [show (((0 : Nat) : Int)) = 0 from rfl] at C8
        generalize viewAt D7 0 = s8 at *
        ((with_reducible refine C8.out.mono ?_); rintro e w8 ⟨rfl, hl⟩)
        have I8 := Lib.hid (I7.out.below hl); have L8 := Lib.hid (low_then L7.out L7.out.size hl)
        clear hl I7 L7 C8
        go_wp2_with fail
        have C9 := Lib.hid (sync_f I8.out L8.out.size F7.out (by omega))
        have F9 := Lib.hid F7.out.sync
        rw [sync_ok D7 HD7.out (by rw [HF7.out]; decide)] at C9 F9
        generalize hD9 : ({ D7 with fuse := burn D7.fuse, st := putW D7.st D7.wt, wt := [] } : DM) = D9 at *
        have HW9 := Lib.hid (show D9.wt.length = 0 by rw [← hD9]; rfl)
        clear hD9
        ((with_reducible refine C9.out.mono ?_); rintro e w9 ⟨rfl, hI, hl⟩)
        have I9 := Lib.hid hI; have L9 := Lib.hid (L8.out.trans hl)
        clear hI hl I8 L8 C9 F7
        go_wp2_with fail
        have C10 := Lib.hid (wait_f I9.out F9.out (by omega))
        rw [HW9.out] at C10
        ((with_reducible refine C10.out.mono ?_); rintro e w10 ⟨v', rfl, hv', hl⟩)
        obtain ⟨A'', c'', rfl⟩ := own_form hv'
        have L10 := Lib.hid (low_then L9.out L9.out.size hl)
        clear hl hv' I9 L9 C10
        go_wp2_with fail
        ((with_reducible refine (wakes_calls _).mono ?_); rintro e w11 ⟨rfl, hl⟩)
        have L11 := Lib.hid (low_then L10.out L10.out.size hl)
        clear hl L10
        go_wp2_with fail
        go_ret
        exact ⟨rfl, L11.out⟩
      · obtain rfl := h
        have h' : True := trivial
        have C5 := Lib.hid (read_f I4.out F3.out (by omega) 0)
        have hr := gf_read k k
        rw [if_neg (by omega)] at hr
        rw [hr] at C5
        clear hr
        generalize (readM (GF k k) 0).1 = s5 at *
        ((with_reducible refine C5.out.mono ?_); rintro e w5 ⟨rfl, hl⟩)
        have I5 := Lib.hid (I4.out.below hl); have L5 := Lib.hid (low_then L4.out L4.out.size hl)
        clear hl I4 L4 C5
        go_wp2_with fail
        have C6 := Lib.hid (sync_f I5.out L5.out.size F3.out (by omega))
        have F6 := Lib.hid F3.out.sync
        have hy := gf_sync k k
        rw [if_neg (by omega)] at hy
        rw [hy] at C6
        have hn6 := (sync_len (GF k k)).trans (gf_len k k)
        have HN6 := Lib.hid hn6
        clear hy hn6 F3
        generalize (syncM (GF k k)).1 = D6 at *
        ((with_reducible refine C6.out.mono ?_); rintro e w6 ⟨rfl, hI, hl⟩)
        have I6 := Lib.hid hI; have L6 := Lib.hid (L5.out.trans hl)
        clear hI hl I5 L5 C6
        go_wp2_with fail
        have C7 := Lib.hid (crash_f I6.out L6.out.size F6.out (by omega) none 0 [] (by exact ⟨by simp, .inl rfl⟩))
        rw [len0] at C7
        have F7 := Lib.hid (F6.out.crash [])
        have HN7 := Lib.hid ((crash_len D6 []).trans HN6.out)
        have HD7 := Lib.hid (show (crashM D6 []).down = false from rfl)
        have HF7 := Lib.hid (show (crashM D6 []).fuse = -1 from rfl)
        generalize crashM D6 [] = D7 at *
        ((with_reducible refine C7.out.mono ?_); rintro e w7 ⟨rfl, hI, hl⟩)
        have I7 := Lib.hid hI; have L7 := Lib.hid (L6.out.trans hl)
        clear hI hl I6 L6 C7 F6 HN6
        go_wp2_with fail
        have C8 := Lib.hid (read_f I7.out F7.out (by omega) ((0 : Nat) : Int))
        rw [read_ok D7 0 HD7.out (by rw [HN7.out]; omega)] at C8
        rw [show (((0 : Nat) : Int)) = 0 from rfl] at C8
        generalize viewAt D7 0 = s8 at *
        ((with_reducible refine C8.out.mono ?_); rintro e w8 ⟨rfl, hl⟩)
        have I8 := Lib.hid (I7.out.below hl); have L8 := Lib.hid (low_then L7.out L7.out.size hl)
        clear hl I7 L7 C8
        go_wp2_with fail
        have C9 := Lib.hid (sync_f I8.out L8.out.size F7.out (by omega))
        have F9 := Lib.hid F7.out.sync
        rw [sync_ok D7 HD7.out (by rw [HF7.out]; decide)] at C9 F9
        generalize hD9 : ({ D7 with fuse := burn D7.fuse, st := putW D7.st D7.wt, wt := [] } : DM) = D9 at *
        have HW9 := Lib.hid (show D9.wt.length = 0 by rw [← hD9]; rfl)
        clear hD9
        ((with_reducible refine C9.out.mono ?_); rintro e w9 ⟨rfl, hI, hl⟩)
        have I9 := Lib.hid hI; have L9 := Lib.hid (L8.out.trans hl)
        clear hI hl I8 L8 C9 F7
        go_wp2_with fail
        have C10 := Lib.hid (wait_f I9.out F9.out (by omega))
        rw [HW9.out] at C10
        ((with_reducible refine C10.out.mono ?_); rintro e w10 ⟨v', rfl, hv', hl⟩)
        obtain ⟨A'', c'', rfl⟩ := own_form hv'
        have L10 := Lib.hid (low_then L9.out L9.out.size hl)
        clear hl hv' I9 L9 C10
        go_wp2_with fail
        ((with_reducible refine (wakes_calls _).mono ?_); rintro e w11 ⟨rfl, hl⟩)
        have L11 := Lib.hid (low_then L10.out L10.out.size hl)
        clear hl L10
        go_wp2_with fail
        go_ret
        exact ⟨rfl, L11.out⟩
      · have hk1 : (j : Int) < k := by omega
        have h' := Lib.hid h
        have C5 := Lib.hid (read_f I4.out F3.out (by omega) 0)
        have hr := gf_read k j
        rw [if_neg (by omega)] at hr
        rw [hr] at C5
        clear hr
        generalize (readM (GF k j) 0).1 = s5 at *
        ((with_reducible refine C5.out.mono ?_); rintro e w5 ⟨rfl, hl⟩)
        have I5 := Lib.hid (I4.out.below hl); have L5 := Lib.hid (low_then L4.out L4.out.size hl)
        clear hl I4 L4 C5
        go_wp2_with fail
        have C6 := Lib.hid (sync_f I5.out L5.out.size F3.out (by omega))
        have F6 := Lib.hid F3.out.sync
        have hy := gf_sync k j
        rw [if_pos h] at hy
        rw [hy] at C6
        have hn6 := (sync_len (GF k j)).trans (gf_len k j)
        have HN6 := Lib.hid hn6
        clear hy hn6 F3
        generalize (syncM (GF k j)).1 = D6 at *
        ((with_reducible refine C6.out.mono ?_); rintro e w6 ⟨rfl, hI, hl⟩)
        have I6 := Lib.hid hI; have L6 := Lib.hid (L5.out.trans hl)
        clear hI hl I5 L5 C6
        go_wp2_with fail
        have C7 := Lib.hid (crash_f I6.out L6.out.size F6.out (by omega) none 0 [] (by exact ⟨by simp, .inl rfl⟩))
        rw [len0] at C7
        have F7 := Lib.hid (F6.out.crash [])
        have HN7 := Lib.hid ((crash_len D6 []).trans HN6.out)
        have HD7 := Lib.hid (show (crashM D6 []).down = false from rfl)
        have HF7 := Lib.hid (show (crashM D6 []).fuse = -1 from rfl)
        generalize crashM D6 [] = D7 at *
        ((with_reducible refine C7.out.mono ?_); rintro e w7 ⟨rfl, hI, hl⟩)
        have I7 := Lib.hid hI; have L7 := Lib.hid (L6.out.trans hl)
        clear hI hl I6 L6 C7 F6 HN6
        go_wp2_with fail
        have C8 := Lib.hid (read_f I7.out F7.out (by omega) ((0 : Nat) : Int))
        rw [read_ok D7 0 HD7.out (by rw [HN7.out]; omega)] at C8
        rw [show (((0 : Nat) : Int)) = 0 from rfl] at C8
        generalize viewAt D7 0 = s8 at *
        ((with_reducible refine C8.out.mono ?_); rintro e w8 ⟨rfl, hl⟩)
        have I8 := Lib.hid (I7.out.below hl); have L8 := Lib.hid (low_then L7.out L7.out.size hl)
        clear hl I7 L7 C8
        go_wp2_with fail
        have C9 := Lib.hid (sync_f I8.out L8.out.size F7.out (by omega))
        have F9 := Lib.hid F7.out.sync
        rw [sync_ok D7 HD7.out (by rw [HF7.out]; decide)] at C9 F9
        generalize hD9 : ({ D7 with fuse := burn D7.fuse, st := putW D7.st D7.wt, wt := [] } : DM) = D9 at *
        have HW9 := Lib.hid (show D9.wt.length = 0 by rw [← hD9]; rfl)
        clear hD9
        ((with_reducible refine C9.out.mono ?_); rintro e w9 ⟨rfl, hI, hl⟩)
        have I9 := Lib.hid hI; have L9 := Lib.hid (L8.out.trans hl)
        clear hI hl I8 L8 C9 F7
        go_wp2_with fail
        have C10 := Lib.hid (wait_f I9.out F9.out (by omega))
        rw [HW9.out] at C10
        ((with_reducible refine C10.out.mono ?_); rintro e w10 ⟨v', rfl, hv', hl⟩)
        obtain ⟨A'', c'', rfl⟩ := own_form hv'
        have L10 := Lib.hid (low_then L9.out L9.out.size hl)
        clear hl hv' I9 L9 C10
        go_wp2_with fail
        ((with_reducible refine (wakes_calls _).mono ?_); rintro e w11 ⟨rfl, hl⟩)
        have L11 := Lib.hid (low_then L10.out L10.out.size hl)
        clear hl L10
        go_wp2_with fail
        go_ret
        exact ⟨rfl, L11.out⟩
end Go.Proofs.Ytofmlmgdbcjeoaa.Dsk
