/- What this text proves: when two lists of whole numbers are alike, as the statements' helper tells it; the law's constant part. -/
import Derived.Test.YtgpnceaplakemaaHpH
namespace Go.Proofs.Ytgpnceaplakemaa.Hp
open Go Go.RowKit Go.Proofs.Ytgpnceaplakemaa.Base Go.Proofs.Ytgpnceaplakemaa.Own
set_option linter.unusedSimpArgs false

theorem take_succ_eq (l m : List Int) (k : Nat) (h : k < l.length) (h' : k < m.length) (e : l.take k = m.take k) (e' : l[k] = m[k]) : l.take (k + 1) = m.take (k + 1) := by
  rw [List.take_add_one, List.take_add_one, List.getElem?_eq_getElem h, List.getElem?_eq_getElem h', e, e']
set_option maxHeartbeats 1600000 in
theorem ints_calls (A A' : Option Addr) (c c' n n' : Nat) (l m : List Int) (w : World) (h : IntArg w A l) (h' : IntArg w A' m) (hln : l.length = n) (hmn : m.length = n') (hn : n ≤ 1000000) :
    Calls Try.prog 20 #[.slice A n c, .slice A' n' c'] w fun e w' => e = .returned (.bool (decide (l = m))) ∧ Below w.heap.size w w' := by
  have HL := Lib.hid h; have HM := Lib.hid h'
  have HN := Lib.hid hln; have HN' := Lib.hid hmn
  by_cases hlm : n = n'
  · have hne : ((n : Int) != n') = false := by simp [hlm]
    have HLM := Lib.hid hlm
    clear hln hmn hlm h h'
    go_enter Try.func20, Try.ntmps20
    go_wp2_with fail
    go_loopw [5] (fun i wr => ∃ k : Nat, k ≤ n ∧ i = .int .i64 k ∧ l.take k = m.take k ∧ Below w.heap.size w wr) (fun i _ => n - (intOf i).toNat)
    case atStart => exact ⟨0, Nat.zero_le _, rfl, rfl, Below.refl _ _⟩
    case round =>
      obtain ⟨k, hk, rfl, htk, hlow⟩ := hrel
      have HT := Lib.hid htk
      have HW := Lib.hid hlow
      clear htk hlow
      by_cases hlt : k < n
      · have hkl : k < l.length := by rw [HN.out]; exact hlt
        have hkm : k < m.length := by rw [HN'.out, ← HLM.out]; exact hlt
        obtain ⟨b, o, rfl, hb, hc⟩ := (HL.out.below HW.out) k hkl
        obtain ⟨b', o', rfl, hb', hc'⟩ := (HM.out.below HW.out) k hkm
        have hkn : (k : Int) < n := by omega
        have hkm' : (k : Int) < n' := by have := HLM.out; omega
        by_cases hs : l[k] = m[k]
        · have HS := Lib.hid (take_succ_eq l m k hkl hkm HT.out hs)
          rw [← hs] at hc'
          clear hs
          generalize l[k] = s at *
          go_wp2_with fail
          go_quiet (fail)
          go_wp2_with fail
          exact ⟨⟨k + 1, by omega, by go_num, HS.out, bel_drewN HW.out _⟩, by simp [intOf]; omega⟩
        · have HD : Hid (decide (l = m) = false) := by
            refine decide_eq_false fun e => hs ?_
            subst e
            rfl
          have hs' : (l[k] != m[k]) = true := by simpa using hs
          clear hs
          generalize l[k] = s at *
          generalize m[k] = t at *
          go_wp2_with fail
          go_quiet (fail)
          go_wp2_with fail
          go_ret
          exact ⟨by rw [HD.out]; rfl, bel_drewN HW.out _⟩
      · obtain rfl : n = k := by omega
        have HE : Hid (decide (l = m) = true) := by
          refine decide_eq_true ?_
          have := HT.out
          rwa [List.take_of_length_le (by have := HN.out; omega), List.take_of_length_le (by have := HN'.out; have := HLM.out; omega)] at this
        go_wp2_with fail
        go_ret
        exact ⟨by rw [HE.out]; rfl, HW.out⟩
  · have hne : ((n : Int) != n') = true := by rw [bne_iff_ne]; omega
    have HF : Hid (decide (l = m) = false) := by
      refine decide_eq_false fun e => hlm ?_
      rw [← hln, ← hmn, e]
    clear hlm h h' hln hmn
    go_enter Try.func20, Try.ntmps20
    go_wp2_with fail
    go_ret
    exact ⟨by rw [HF.out]; rfl, Below.refl _ _⟩
theorem intArg_new (w : World) (l : List Int) (t : TypeId) : IntArg (w.alloc (.cells (ints l).toArray t)) (some ⟨w.heap.size, 0, none⟩) l := by
  intro j hj
  refine ⟨w.heap.size, 0, rfl, by simp, ?_⟩
  have h := (Blk.new w t (ints l)).cell j
  rw [Nat.zero_add, h, ints_get _ _ hj]
theorem wake_new (w : World) : Calls Try.prog 12 #[.slice (some ⟨w.heap.size, 0, none⟩) 4 4] (w.alloc (.cells #[.int .i64 3, .int .i64 1, .int .i64 2, .int .i64 1] 3)) fun e w' => ∃ q, e = .returned (.pointer (some ⟨q, 0, none⟩)) ∧ IsQ (fun k => w.heap.size ≤ k) w' q [1, 1, 2, 3] ∧ Below w.heap.size w w' := by
  have C0 := qnew_calls (some ⟨w.heap.size, 0, none⟩) 4 [3, 1, 2, 1] _ (intArg_new w [3, 1, 2, 1] 3) (by simp) (by decide)
  rw [show srt [3, 1, 2, 1] = [1, 1, 2, 3] by decide] at C0
  exact C0.mono fun e w' ⟨q, he, hI, hl⟩ => ⟨q, he, hI.mono (fun k _ hk => by simp at hk; omega), low_then (Below.refl _ _) (Nat.le_refl _) (bel_then (bel_alloc (Below.refl _ _) _) hl)⟩
theorem wake_ints (A : Option Addr) (c : Nat) (w : World) (h : IntArg w A [1, 2, 3]) : Calls Try.prog 20 #[.slice A 3 c, .slice (some ⟨w.heap.size, 0, none⟩) 3 3] (w.alloc (.cells #[.int .i64 1, .int .i64 2, .int .i64 3] 3)) fun e w' => e = .returned (.bool true) ∧ Below w.heap.size w w' := by
  have hb := bel_alloc (Below.refl w.heap.size w) (.cells (ints [1, 2, 3]).toArray 3)
  have C := ints_calls A (some ⟨w.heap.size, 0, none⟩) c 3 3 3 [1, 2, 3] [1, 2, 3] _ (h.below hb) (intArg_new w [1, 2, 3] 3) rfl rfl (by omega)
  exact C.mono fun e w' ⟨he, hl⟩ => ⟨by rw [he]; rfl, bel_then hb hl⟩
set_option maxHeartbeats 3200000 in
set_option maxRecDepth 100000 in
theorem wakes_calls (w : World) : Calls Try.prog 11 #[] w fun e w' => e = .returned (.bool true) ∧ Below w.heap.size w w' := by
  have C0 := Lib.hid (wake_new w)
  go_enter Try.func11, Try.ntmps11
  go_wp2_with fail
  ((with_reducible refine C0.out.mono ?_); rintro e w1 ⟨q, rfl, hI, hl⟩)
  have I1 := Lib.hid hI; have L1 := Lib.hid hl
  clear hI hl C0
  have C1 := Lib.hid (qpop_calls _ q 1 [1, 2, 3] w1 I1.out (by decide))
  go_wp2_with fail
  ((with_reducible refine C1.out.mono ?_); rintro e w2 ⟨rfl, hI, hl⟩)
  have I2 := Lib.hid hI; have L2 := Lib.hid (L1.out.trans (hl.below L1.out.size (fun k hk => hk)))
  clear hI hl C1 I1 L1
  have C2 := Lib.hid (peek_calls _ q 1 [2, 3] w2 I2.out)
  go_wp2_with fail
  ((with_reducible refine C2.out.mono ?_); rintro e w3 ⟨rfl, rfl⟩)
  clear C2
  have C3 := qpush_calls _ q 0 [1, 2, 3] w2 I2.out (fun k hk => Nat.le_trans L2.out.size hk) (by decide)
  rw [show ins 0 [1, 2, 3] = [0, 1, 2, 3] by decide] at C3
  have C3 := Lib.hid C3
  go_wp2_with fail
  ((with_reducible refine C3.out.mono ?_); rintro e w3 ⟨rfl, hI, hl⟩)
  have I3 := Lib.hid hI; have L3 := Lib.hid (L2.out.trans (hl.below L2.out.size (fun k hk => hk)))
  clear hI hl C3 I2 L2
  have C4 := Lib.hid (qpop_calls _ q 0 [1, 2, 3] w3 I3.out (by decide))
  go_wp2_with fail
  ((with_reducible refine C4.out.mono ?_); rintro e w4 ⟨rfl, hI, hl⟩)
  have I4 := Lib.hid hI; have L4 := Lib.hid (L3.out.trans (hl.below L3.out.size (fun k hk => hk)))
  clear hI hl C4 I3 L3
  go_wp2_with fail
  ((with_reducible refine (qpop_nil _).mono ?_); rintro e w5 ⟨rfl, rfl⟩)
  go_wp2_with fail
  ((with_reducible refine (qpush_nil _ _).mono ?_); rintro e w5 ⟨rfl, rfl⟩)
  have C5 := Lib.hid (qlen_calls _ q [1, 2, 3] w4 I4.out)
  rw [show ((([1, 2, 3] : List Int).length : Nat) : Int) = 3 from rfl] at C5
  go_wp2_with fail
  ((with_reducible refine C5.out.mono ?_); rintro e w5 ⟨rfl, rfl⟩)
  clear C5
  have C6 := Lib.hid (list_calls _ q [1, 2, 3] w4 I4.out (by decide))
  rw [show (([1, 2, 3] : List Int).length) = 3 from rfl] at C6
  go_wp2_with fail
  ((with_reducible refine C6.out.mono ?_); rintro e w5 ⟨v, rfl, hv, hl⟩)
  obtain ⟨A5, c5, rfl⟩ := own_form hv
  have C7 := Lib.hid (wake_ints A5 c5 w5 (own_intArg hv))
  have L5 := Lib.hid (low_then L4.out L4.out.size hl)
  clear hv hl C6 I4 L4
  go_wp2_with fail
  ((with_reducible refine C7.out.mono ?_); rintro e w6 ⟨rfl, hl⟩)
  have L6 := Lib.hid (low_then L5.out L5.out.size hl)
  clear hl C7 L5
  go_wp2_with fail
  ((with_reducible refine (qlen_nil _).mono ?_); rintro e w7 ⟨rfl, rfl⟩)
  go_wp2_with fail
  ((with_reducible refine (list_nil _).mono ?_); rintro e w7 ⟨rfl, rfl⟩)
  go_wp2_with fail
  go_ret
  exact ⟨rfl, L6.out⟩
end Go.Proofs.Ytgpnceaplakemaa.Hp
