/- What this text proves: the law DiskFrom answers true at every list of texts and every limit. -/
import Derived.Test.YtofmlmgdbcjeoaaRefB
import Derived.Test.YtofmlmgdbcjeoaaCopP
namespace Go.Proofs.Ytofmlmgdbcjeoaa.Dsk
open Go Go.RowKit Go.Proofs Go.Proofs.Ytofmlmgdbcjeoaa.Base
set_option linter.unusedSimpArgs false

theorem read_newD (pages : List ByteArray) (lim : Int) (k : Nat) (hk : k < pages.length) : readM (newD pages lim) k = (pages[k], 0) := by
  unfold readM
  rw [if_neg (by simp [newD]), if_neg (by simp only [newD]; omega)]
  unfold viewAt
  rw [show ((k : Int)).toNat = k from rfl, show putW (newD pages lim).st (newD pages lim).wt = pages from rfl, List.getElem?_eq_getElem hk]
  rfl
theorem read_end (pages : List ByteArray) (lim : Int) : readM (newD pages lim) (pages.length : Int) = (⟨#[]⟩, 4) := by
  unfold readM
  rw [if_neg (by simp [newD]), if_pos (by simp only [newD]; omega)]
theorem own_off {w : World} {B n c : Nat} {e : TypeId} {size : Nat} {A : Option Addr} {xs : List Value} (h : w.ownsRow B e size (.slice A n c) n xs) : ∀ a, A = some a → ∃ b o, a = ⟨b, o, none⟩ := by
  rcases h.2 with ⟨h, _⟩ | ⟨g', cap, cur, hv, _⟩
  · injection h with h1 _ _
    intro a ha
    rw [h1] at ha
    cases ha
  · injection hv with h1 _ _
    intro a ha
    rw [h1] at ha
    injection ha with ha
    exact ⟨g', 0, ha.symm⟩
theorem own_nil {w : World} {B n c : Nat} {A : Option Addr} {l : List ByteArray} (h : w.ownsRow B 9 1 (.slice A n c) n (strs l)) : A = none → l = [] := by
  intro hA
  rcases h.2 with ⟨_, h0⟩ | ⟨g', cap, cur, hv, _⟩
  · have := h.1
    rw [strs_length] at this
    exact List.eq_nil_of_length_eq_zero (by omega)
  · injection hv with h1 _ _
    rw [hA] at h1
    cases h1
set_option maxHeartbeats 12800000 in
set_option maxRecDepth 100000 in
theorem from_law (A : Option Addr) (c : Nat) (pages : List ByteArray) (lim : Int) (w : World) (h : StrArg w A pages) (hA : A = none → pages = [] ∧ c = 0) (hoff : ∀ a, A = some a → ∃ b o, a = ⟨b, o, none⟩) (hs : ∀ s ∈ pages, s.size ≤ maxLen) (hm : pages.length ≤ maxLen) :
    Calls Try.prog 6 #[.slice A pages.length c, .int .i64 lim] w fun e w' => e = .returned (.bool true) ∧ Below w.heap.size w w' := by
  obtain ⟨i0, hi, hz0, hz1, hz2⟩ := info_parts info9
  have HLG := Lib.hid (long_calls A c pages w h hs hm)
  unfold LongPost at HLG
  have HP := Lib.hid h; have HA := Lib.hid hA; have HO := Lib.hid hoff
  obtain ⟨n, hnn⟩ : ∃ n, pages.length = n := ⟨_, rfl⟩
  have HN := Lib.hid hnn
  rw [hnn] at HLG ⊢
  clear hnn h hs hm
  go_enter Try.func6, Try.ntmps6
  go_wp2_with fail
  ((with_reducible refine HLG.out.mono ?_); rintro e w1 ⟨r, rfl, hr, rfl⟩)
  cases r with
  | true =>
    clear hr HLG
    go_wp2_with fail
    ((with_reducible refine (wakes_calls _).mono ?_); rintro e w1 ⟨rfl, hl⟩)
    go_wp2_with fail
    go_ret
    exact ⟨rfl, hl⟩
  | false =>
    have hn : n ≤ 60000 := hr rfl
    clear hr HLG
    have M0 := made0 w
    cases A with
    | none =>
      obtain ⟨hp, rfl⟩ := hA rfl
      have hn0 : n = 0 := by rw [← HN.out, hp]; rfl
      subst hn0
      have RI := Lib.hid (show StrArg (w.alloc (.cells #[] 9)) (some ⟨w.heap.size, 0, none⟩) pages from by
        intro j hj
        rw [hp] at hj
        exact absurd hj (by simp))
      have LI := Lib.hid (bel_alloc (Below.refl w.heap.size w) (.cells #[] 9))
      have HM := Lib.hid M0
      clear M0 hoff hA hp
      go_wp2_with (at_builtin; refine wpList_append_own_none rfl _ _ 47 rfl w.heap.size 9 i0 1 Try.underlying47 hi _ 0 [] rfl HM.out rfl ?_)
      go_wp2_with fail
      obtain ⟨AI, hAI⟩ : ∃ z : Option Addr, some ⟨w.heap.size, 0, none⟩ = z := ⟨_, rfl⟩
      have hAi : AI = none → pages = [] := fun e => by rw [e] at hAI; cases hAI
      have hoffi : ∀ a, AI = some a → ∃ b o, a = ⟨b, o, none⟩ := fun a ha => by
        rw [ha] at hAI
        injection hAI with hAI
        exact ⟨_, _, hAI.symm⟩
      rw [hAI] at RI ⊢
      clear hAI
      generalize w.alloc (.cells #[] 9) = WI at *
      have C1 := Lib.hid (from_calls w.heap.size AI 0 pages lim WI LI.out.size RI.out hAi hoffi (by have := HN.out; omega))
      rw [HN.out] at C1
      clear hAi hoffi
      ((with_reducible refine C1.out.mono ?_); rintro e w2 ⟨hl, ⟨hg, rfl⟩ | ⟨hg, g, rfl, hI⟩⟩)
      · have L2 := Lib.hid (low_then LI.out LI.out.size hl)
        have C2 := rfrom_calls none 0 pages lim w2 (HP.out.below L2.out) (fun _ => ⟨List.eq_nil_of_length_eq_zero HN.out, rfl⟩) HO.out (by have := HN.out; omega)
        unfold RFromPost at C2
        rw [HN.out, hg] at C2
        have C2 := Lib.hid C2
        clear hl hg C1 LI RI
        go_wp2_with fail
        ((with_reducible refine C2.out.mono ?_); rintro e w3 ⟨p, rfl, hl⟩)
        have L3 := Lib.hid (low_then L2.out L2.out.size hl)
        clear hl C2 L2
        go_wp2_with fail
        ((with_reducible refine (wakes_calls _).mono ?_); rintro e w4 ⟨rfl, hl⟩)
        have L4 := Lib.hid (low_then L3.out L3.out.size hl)
        clear hl L3
        go_wp2_with fail
        go_ret
        exact ⟨rfl, L4.out⟩
      · have L2 := Lib.hid (low_then LI.out LI.out.size hl); have R2 := Lib.hid (RI.out.below hl); have I2 := Lib.hid hI
        have F2 := Lib.hid (fine_new pages lim hg)
        have C2 := rfrom_calls none 0 pages lim w2 (HP.out.below L2.out) (fun _ => ⟨List.eq_nil_of_length_eq_zero HN.out, rfl⟩) HO.out (by have := HN.out; omega)
        unfold RFromPost at C2
        rw [HN.out, hg] at C2
        have C2 := Lib.hid C2
        clear hl hg hI C1 LI RI
        go_wp2_with fail
        ((with_reducible refine C2.out.mono ?_); rintro e w3 ⟨p, rfl, hl⟩)
        have L3 := Lib.hid (low_then L2.out L2.out.size hl); have R3 := Lib.hid (R2.out.below hl); have I3 := Lib.hid (I2.out.below hl)
        clear hl C2 L2 R2 I2
        go_wp2_with fail
        go_loopw [10] (fun i wr => ∃ k : Nat, k ≤ 0 ∧ i = .int .i64 k ∧ IsD w.heap.size wr g (newD pages lim) ∧ StrArg wr AI pages ∧ Below w.heap.size w wr) (fun i _ => 0 - (intOf i).toNat)
        case atStart => exact ⟨0, Nat.zero_le _, rfl, I3.out, R3.out, L3.out⟩
        case round =>
          obtain ⟨k, hk, rfl, hI, hR, hl⟩ := hrel
          have I4 := Lib.hid hI; have R4 := Lib.hid hR; have L4 := Lib.hid hl
          clear hI hR hl I3 R3 L3
          by_cases hlt : k < 0
          · exact absurd hlt (by omega)
          · obtain rfl : 0 = k := by omega
            have C4 := read_f I4.out F2.out (by omega) ((pages.length : Nat) : Int)
            rw [read_end pages lim, HN.out] at C4
            rw [show ((0 : Nat) : Int) = 0 from rfl] at C4
            have C4 := Lib.hid C4
            go_wp2_with fail
            ((with_reducible refine C4.out.mono ?_); rintro e w5 ⟨rfl, hl⟩)
            have I5 := Lib.hid (I4.out.below hl); have R5 := Lib.hid (R4.out.below hl); have L5 := Lib.hid (low_then L4.out L4.out.size hl)
            clear hl C4 I4 R4 L4
            have C5 := pages_f I5.out F2.out (by omega)
            rw [show allV (newD pages lim) = pages from rfl, show (newD pages lim).st.length = pages.length from rfl, HN.out] at C5
            have C5 := Lib.hid C5
            go_wp2_with fail
            ((with_reducible refine C5.out.mono ?_); rintro e w6 ⟨v, rfl, hv, hl⟩)
            obtain ⟨A6, c6, rfl⟩ := own_form hv
            have RP := Lib.hid (own_strArg hv)
            have I6 := Lib.hid (I5.out.below hl); have R6 := Lib.hid (R5.out.below hl); have L6 := Lib.hid (low_then L5.out L5.out.size hl)
            clear hl hv C5 I5 R5 L5
            have C6 := texts_at A6 none c6 0 0 0 pages pages w6 RP.out (HP.out.below L6.out) HN.out HN.out (by omega)
            rw [decide_eq_true (show pages = pages from rfl)] at C6
            have C6 := Lib.hid C6
            go_wp2_with fail
            ((with_reducible refine C6.out.mono ?_); rintro e w7 ⟨rfl, hl⟩)
            have I7 := Lib.hid (I6.out.below hl); have R7 := Lib.hid (R6.out.below hl); have L7 := Lib.hid (low_then L6.out L6.out.size hl)
            clear hl C6 I6 R6 L6 RP
            have C7 := Lib.hid (limit_calls _ g _ w7 I7.out)
            rw [show (newD pages lim).lim = lim from rfl] at C7
            go_wp2_with fail
            ((with_reducible refine C7.out.mono ?_); rintro e w8 ⟨rfl, rfl⟩)
            clear C7
            have C8 := Lib.hid (wait_f I7.out F2.out (by omega))
            rw [show (newD pages lim).wt.length = 0 from rfl] at C8
            go_wp2_with fail
            ((with_reducible refine C8.out.mono ?_); rintro e w8 ⟨v, rfl, hv, hl⟩)
            obtain ⟨A8, c8, rfl⟩ := own_form hv
            have R8 := Lib.hid (R7.out.below hl); have L8 := Lib.hid (low_then L7.out L7.out.size hl)
            clear hl hv C8 I7 R7 L7
            have C9 := texts_at AI none 0 0 0 0 pages pages w8 R8.out (HP.out.below L8.out) HN.out HN.out (by omega)
            rw [decide_eq_true (show pages = pages from rfl)] at C9
            have C9 := Lib.hid C9
            go_wp2_with fail
            ((with_reducible refine C9.out.mono ?_); rintro e w9 ⟨rfl, hl⟩)
            have L9 := Lib.hid (low_then L8.out L8.out.size hl)
            clear hl C9 R8 L8
            go_wp2_with fail
            ((with_reducible refine (wakes_calls _).mono ?_); rintro e w10 ⟨rfl, hl⟩)
            have L10 := Lib.hid (low_then L9.out L9.out.size hl)
            clear hl L9
            go_wp2_with fail
            go_ret
            exact ⟨rfl, L10.out⟩
    | some ad =>
      obtain ⟨b, o, rfl⟩ := hoff ad rfl
      have HM := Lib.hid M0
      have HNW := Lib.hid ((HP.out.below (bel_alloc (Below.refl w.heap.size w) (.cells #[] 9))).news)
      clear M0 hoff hA
      go_wp2_with (at_builtin; refine wpList_append_own _ rfl _ _ 47 rfl w.heap.size 9 i0 (.string ⟨#[]⟩) 1 16 Try.underlying47 hi hz0 hz1 hz2 rfl (by decide) (.slice (some ⟨w.heap.size, 0, none⟩) 0 0) 0 [] rfl HM.out ⟨b, o, none⟩ n c (strs pages) rfl (by rw [strs_length, HN.out]; omega) HNW.out (strs_one pages) (by unfold maxLen; omega) (by omega) (by simp) ?_; intro v' WI hown hgr _; rw [Nat.zero_add, List.nil_append] at hown; obtain ⟨AI, cI, rfl⟩ := own_form hown; have RI := Lib.hid (own_strArg hown); have LI := Lib.hid (Below.grown (bel_alloc (Below.refl w.heap.size w) (.cells #[] 9)) hgr (by simp) (fun k hk => by rw [← (show w.heap.size = k by simpa [Value.ownBlock] using hk)]; exact Nat.le_refl _)); have hAi := own_nil hown; have hoffi := own_off hown; clear hown hgr)
      have C1 := Lib.hid (from_calls w.heap.size AI cI pages lim WI LI.out.size RI.out hAi hoffi (by have := HN.out; omega))
      rw [HN.out] at C1
      clear hAi hoffi
      ((with_reducible refine C1.out.mono ?_); rintro e w2 ⟨hl, ⟨hg, rfl⟩ | ⟨hg, g, rfl, hI⟩⟩)
      · have L2 := Lib.hid (low_then LI.out LI.out.size hl)
        have C2 := rfrom_calls (some ⟨b, o, none⟩) c pages lim w2 (HP.out.below L2.out) HA.out HO.out (by have := HN.out; omega)
        unfold RFromPost at C2
        rw [HN.out, hg] at C2
        have C2 := Lib.hid C2
        clear hl hg C1 LI RI
        go_wp2_with fail
        ((with_reducible refine C2.out.mono ?_); rintro e w3 ⟨p, rfl, hl⟩)
        have L3 := Lib.hid (low_then L2.out L2.out.size hl)
        clear hl C2 L2
        go_wp2_with fail
        ((with_reducible refine (wakes_calls _).mono ?_); rintro e w4 ⟨rfl, hl⟩)
        have L4 := Lib.hid (low_then L3.out L3.out.size hl)
        clear hl L3
        go_wp2_with fail
        go_ret
        exact ⟨rfl, L4.out⟩
      · have L2 := Lib.hid (low_then LI.out LI.out.size hl); have R2 := Lib.hid (RI.out.below hl); have I2 := Lib.hid hI
        have F2 := Lib.hid (fine_new pages lim hg)
        have C2 := rfrom_calls (some ⟨b, o, none⟩) c pages lim w2 (HP.out.below L2.out) HA.out HO.out (by have := HN.out; omega)
        unfold RFromPost at C2
        rw [HN.out, hg] at C2
        have C2 := Lib.hid C2
        clear hl hg hI C1 LI RI
        go_wp2_with fail
        ((with_reducible refine C2.out.mono ?_); rintro e w3 ⟨p, rfl, hl⟩)
        have L3 := Lib.hid (low_then L2.out L2.out.size hl); have R3 := Lib.hid (R2.out.below hl); have I3 := Lib.hid (I2.out.below hl)
        clear hl C2 L2 R2 I2
        go_wp2_with fail
        go_loopw [10] (fun i wr => ∃ k : Nat, k ≤ n ∧ i = .int .i64 k ∧ IsD w.heap.size wr g (newD pages lim) ∧ StrArg wr AI pages ∧ Below w.heap.size w wr) (fun i _ => n - (intOf i).toNat)
        case atStart => exact ⟨0, Nat.zero_le _, rfl, I3.out, R3.out, L3.out⟩
        case round =>
          obtain ⟨k, hk, rfl, hI, hR, hl⟩ := hrel
          have I4 := Lib.hid hI; have R4 := Lib.hid hR; have L4 := Lib.hid hl
          clear hI hR hl I3 R3 L3
          by_cases hlt : k < n
          · have hkn : (k : Int) < n := by omega
            have hkl : k < pages.length := by rw [HN.out]; exact hlt
            have C4 := read_f I4.out F2.out (by omega) (k : Int)
            rw [read_newD pages lim k hkl] at C4
            have C4 := Lib.hid C4
            go_wp2_with fail
            ((with_reducible refine C4.out.mono ?_); rintro e w5 ⟨rfl, hl⟩)
            have I5 := Lib.hid (I4.out.below hl); have R5 := Lib.hid (R4.out.below hl); have L5 := Lib.hid (low_then L4.out L4.out.size hl)
            obtain ⟨b5, o5, ea, _, hc5⟩ := (HP.out.below L5.out) k hkl
            clear hl C4 I4 R4 L4
            obtain ⟨rfl, rfl⟩ : b = b5 ∧ o = o5 := by simpa using ea
            generalize pages[k] = s at *
            go_wp2_with fail
            exact ⟨⟨k + 1, by omega, by go_num, I5.out, R5.out, L5.out⟩, by simp [intOf]; omega⟩
          · obtain rfl : n = k := by omega
            have C4 := read_f I4.out F2.out (by omega) ((pages.length : Nat) : Int)
            rw [read_end pages lim, HN.out] at C4
            have C4 := Lib.hid C4
            go_wp2_with fail
            ((with_reducible refine C4.out.mono ?_); rintro e w5 ⟨rfl, hl⟩)
            have I5 := Lib.hid (I4.out.below hl); have R5 := Lib.hid (R4.out.below hl); have L5 := Lib.hid (low_then L4.out L4.out.size hl)
            clear hl C4 I4 R4 L4
            have C5 := pages_f I5.out F2.out (by omega)
            rw [show allV (newD pages lim) = pages from rfl, show (newD pages lim).st.length = pages.length from rfl, HN.out] at C5
            have C5 := Lib.hid C5
            go_wp2_with fail
            ((with_reducible refine C5.out.mono ?_); rintro e w6 ⟨v, rfl, hv, hl⟩)
            obtain ⟨A6, c6, rfl⟩ := own_form hv
            have RP := Lib.hid (own_strArg hv)
            have I6 := Lib.hid (I5.out.below hl); have R6 := Lib.hid (R5.out.below hl); have L6 := Lib.hid (low_then L5.out L5.out.size hl)
            clear hl hv C5 I5 R5 L5
            have C6 := texts_at A6 (some ⟨b, o, none⟩) c6 c n n pages pages w6 RP.out (HP.out.below L6.out) HN.out HN.out (by omega)
            rw [decide_eq_true (show pages = pages from rfl)] at C6
            have C6 := Lib.hid C6
            go_wp2_with fail
            ((with_reducible refine C6.out.mono ?_); rintro e w7 ⟨rfl, hl⟩)
            have I7 := Lib.hid (I6.out.below hl); have R7 := Lib.hid (R6.out.below hl); have L7 := Lib.hid (low_then L6.out L6.out.size hl)
            clear hl C6 I6 R6 L6 RP
            have C7 := Lib.hid (limit_calls _ g _ w7 I7.out)
            rw [show (newD pages lim).lim = lim from rfl] at C7
            go_wp2_with fail
            ((with_reducible refine C7.out.mono ?_); rintro e w8 ⟨rfl, rfl⟩)
            clear C7
            have C8 := Lib.hid (wait_f I7.out F2.out (by omega))
            rw [show (newD pages lim).wt.length = 0 from rfl] at C8
            go_wp2_with fail
            ((with_reducible refine C8.out.mono ?_); rintro e w8 ⟨v, rfl, hv, hl⟩)
            obtain ⟨A8, c8, rfl⟩ := own_form hv
            have R8 := Lib.hid (R7.out.below hl); have L8 := Lib.hid (low_then L7.out L7.out.size hl)
            clear hl hv C8 I7 R7 L7
            have C9 := texts_at AI (some ⟨b, o, none⟩) cI c n n pages pages w8 R8.out (HP.out.below L8.out) HN.out HN.out (by omega)
            rw [decide_eq_true (show pages = pages from rfl)] at C9
            have C9 := Lib.hid C9
            go_wp2_with fail
            ((with_reducible refine C9.out.mono ?_); rintro e w9 ⟨rfl, hl⟩)
            have L9 := Lib.hid (low_then L8.out L8.out.size hl)
            clear hl C9 R8 L8
            go_wp2_with fail
            ((with_reducible refine (wakes_calls _).mono ?_); rintro e w10 ⟨rfl, hl⟩)
            have L10 := Lib.hid (low_then L9.out L9.out.size hl)
            clear hl L9
            go_wp2_with fail
            go_ret
            exact ⟨rfl, L10.out⟩
end Go.Proofs.Ytofmlmgdbcjeoaa.Dsk
