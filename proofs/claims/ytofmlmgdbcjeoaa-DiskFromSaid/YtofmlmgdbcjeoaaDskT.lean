/- What this text proves: whether two lists of texts are alike, as the statements' helper tells it. -/
import Derived.Test.YtofmlmgdbcjeoaaDskS
namespace Go.Proofs.Ytofmlmgdbcjeoaa.Dsk
open Go Go.RowKit Go.Proofs Go.Proofs.Ytofmlmgdbcjeoaa.Base

theorem StrArg.at {w : World} {A : Option Addr} {l : List ByteArray} (h : StrArg w A l) (j : Nat) (hj : j < l.length) : ∃ b o, A = some ⟨b, o, none⟩ ∧ b < w.heap.size ∧ w.cell? ⟨b, o + j, none⟩ = some (.string l[j]) := h j hj
theorem own_strArg {w : World} {B : Nat} {A : Option Addr} {n c : Nat} {l : List ByteArray} (h : w.ownsRow B 9 1 (.slice A n c) n (strs l)) : StrArg w A l := by
  intro j hj
  have hn : n = l.length := by have := h.1; rw [strs_length] at this; omega
  obtain ⟨b, rfl, _, hc⟩ := own_cell h (by omega)
  refine ⟨b, 0, rfl, (own_lt h b rfl).2, ?_⟩
  rw [Nat.zero_add, hc j (by omega), strs_at _ _ hj]
theorem toList_inj {s t : ByteArray} (h : s.toList = t.toList) : s = t := by
  rw [← bs_mk s, ← bs_mk t] at h ⊢
  rw [bs_toList, bs_toList] at h
  rw [h]
theorem ne_spell {s t : ByteArray} (h : s ≠ t) : (!s.toList == t.toList) = true := by
  have h' : (s.toList == t.toList) = false := beq_eq_false_iff_ne.2 fun e => h (toList_inj e)
  rw [h']
  rfl
theorem take_succ_eq (l m : List ByteArray) (k : Nat) (h : k < l.length) (h' : k < m.length) (e : l.take k = m.take k) (e' : l[k] = m[k]) : l.take (k + 1) = m.take (k + 1) := by
  rw [List.take_add_one, List.take_add_one, List.getElem?_eq_getElem h, List.getElem?_eq_getElem h', e, e']
set_option maxHeartbeats 1600000 in
theorem texts_calls (A A' : Option Addr) (c c' : Nat) (l m : List ByteArray) (w : World) (h : StrArg w A l) (h' : StrArg w A' m) (hn : l.length ≤ 1000000) :
    Calls Try.prog 23 #[.slice A l.length c, .slice A' m.length c'] w fun e w' => e = .returned (.bool (decide (l = m))) ∧ Below w.heap.size w w' := by
  by_cases hlm : l.length = m.length
  · have hne : ((l.length : Int) != m.length) = false := by simp [hlm]
    have HL := Lib.hid h; have HM := Lib.hid h'
    have HLM := Lib.hid hlm
    obtain ⟨n, hnn⟩ : ∃ n, l.length = n := ⟨_, rfl⟩
    obtain ⟨n', hnn'⟩ : ∃ n', m.length = n' := ⟨_, rfl⟩
    have HN := Lib.hid hnn; have HN' := Lib.hid hnn'
    rw [hnn] at hn hne ⊢
    rw [hnn'] at hne ⊢
    clear hnn hnn' hlm h h'
    go_enter Try.func23, Try.ntmps23
    go_wp2_with fail
    go_loopw [5] (fun i wr => ∃ k : Nat, k ≤ n ∧ i = .int .i64 k ∧ l.take k = m.take k ∧ Below w.heap.size w wr) (fun i _ => n - (intOf i).toNat)
    case atStart => exact ⟨0, Nat.zero_le _, rfl, rfl, Below.refl _ _⟩
    case round =>
      obtain ⟨k, hk, rfl, htk, hlow⟩ := hrel
      have HT := Lib.hid htk
      have HW := Lib.hid hlow
      clear htk hlow
      by_cases hlt : k < n
      · have hkl : k < l.length := by rw [HN.out]; exact hlt
        have hkm : k < m.length := by rw [← HLM.out]; exact hkl
        obtain ⟨b, o, rfl, hb, hc⟩ := (HL.out.below HW.out) k hkl
        obtain ⟨b', o', rfl, hb', hc'⟩ := (HM.out.below HW.out) k hkm
        have hkn : (k : Int) < n := by omega
        have hkm' : (k : Int) < n' := by have := HN.out; have := HN'.out; have := HLM.out; omega
        by_cases hs : l[k] = m[k]
        · have HS := Lib.hid (take_succ_eq l m k hkl hkm HT.out hs)
          rw [← hs] at hc'
          clear hs
          generalize l[k] = s at *
          go_wp2_with fail
          go_quiet (fail)
          go_wp2_with fail
          exact ⟨⟨k + 1, by omega, by go_num, HS.out, bel_drewN HW.out _⟩, by simp [intOf]; omega⟩
        · have HD : Hid (decide (l = m) = false) := by
            refine decide_eq_false fun e => hs ?_
            subst e
            rfl
          have hs' := ne_spell hs
          clear hs
          generalize l[k] = s at *
          generalize m[k] = t at *
          go_wp2_with fail
          go_quiet (fail)
          go_wp2_with fail
          go_ret
          exact ⟨by rw [HD.out]; rfl, bel_drewN HW.out _⟩
      · obtain rfl : k = n := by omega
        have HE : Hid (decide (l = m) = true) := by
          refine decide_eq_true ?_
          have := HT.out
          rwa [List.take_of_length_le (by have := HN.out; omega), List.take_of_length_le (by have := HN'.out; have := HLM.out; have := HN.out; omega)] at this
        go_wp2_with fail
        go_ret
        exact ⟨by rw [HE.out]; rfl, HW.out⟩
  · have hne : ((l.length : Int) != m.length) = true := by rw [bne_iff_ne]; omega
    have HF : Hid (decide (l = m) = false) := by
      refine decide_eq_false fun e => hlm ?_
      rw [e]
    clear hlm h h'
    generalize l.length = n at *
    generalize m.length = n' at *
    go_enter Try.func23, Try.ntmps23
    go_wp2_with fail
    go_ret
    exact ⟨by rw [HF.out]; rfl, Below.refl _ _⟩
end Go.Proofs.Ytofmlmgdbcjeoaa.Dsk
