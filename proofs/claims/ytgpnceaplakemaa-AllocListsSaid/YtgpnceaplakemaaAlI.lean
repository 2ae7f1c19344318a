/- What this text proves: how often a number is on a list; the plain laws of lists' pages. -/
import Derived.Test.YtgpnceaplakemaaAlF
namespace Go.Proofs.Ytgpnceaplakemaa.Hp
open Go Go.RowKit Go.Proofs.Ytgpnceaplakemaa.Base Go.Proofs.Ytgpnceaplakemaa.Own
set_option linter.unusedSimpArgs false

theorem count_step {l : List Int} {k : Nat} {v a : Int} (h : k < l.length) (ha : l[k] = a) : (l.take (k + 1)).count v = (l.take k).count v + (if a == v then 1 else 0) := by
  rw [List.take_add_one, List.getElem?_eq_getElem h, ha, List.count_append]
  simp [List.count_cons]
set_option maxHeartbeats 1600000 in
theorem count_calls (A : Option Addr) (c n : Nat) (l : List Int) (v : Int) (w : World) (h : IntArg w A l) (hln : l.length = n) (hn : n ≤ 1000000) :
    Calls Try.prog 31 #[.slice A n c, .int .i64 v] w fun e w' => e = .returned (.int .i64 (l.count v : Nat)) ∧ Below w.heap.size w w' := by
  have HL := Lib.hid h
  have HN := Lib.hid hln
  clear hln h
  go_enter Try.func31, Try.ntmps31
  go_wp2_with fail
  go_loopw [5, 6] (fun s i wr => ∃ (k q : Nat), k ≤ n ∧ i = .int .i64 k ∧ s = .int .i64 q ∧ q ≤ k ∧ q = (l.take k).count v ∧ Below w.heap.size w wr) (fun _ i _ => n - (intOf i).toNat)
  case atStart => exact ⟨0, 0, Nat.zero_le _, rfl, rfl, Nat.le_refl _, by simp, Below.refl _ _⟩
  case round =>
    obtain ⟨k, q, hk, rfl, rfl, hqk, hq, hlow⟩ := hrel
    have HQ := Lib.hid hq
    have HW := Lib.hid hlow
    clear hq
    by_cases hlt : k < n
    · have hkl : k < l.length := by rw [HN.out]; exact hlt
      obtain ⟨b, o, rfl, hb, hc⟩ := (HL.out.below hlow) k hkl
      have hkn : (k : Int) < n := by omega
      have HS := Lib.hid (fun a ha => count_step (v := v) (a := a) hkl ha)
      have HE := Lib.hid (rfl : l[k] = l[k])
      clear hlow
      by_cases hs : l[k] = v
      · have X : Hid (q + 1 = (l.take (k + 1)).count v) := by unfold Hid; rw [HS.out v hs, ← HQ.out]; simp
        rw [hs] at hc
        clear hs HS HE
        go_wp2_with fail
        exact ⟨⟨k + 1, q + 1, by omega, by go_num, by go_num, by omega, X.out, HW.out⟩, by simp [intOf]; omega⟩
      · have X : Hid (q = (l.take (k + 1)).count v) := by unfold Hid; rw [HS.out _ rfl, ← HQ.out]; simp [hs]
        have hne : (l[k] == v) = false := beq_eq_false_iff_ne.2 hs
        clear hs HS HE
        generalize l[k] = a at *
        go_wp2_with fail
        exact ⟨⟨k + 1, q, by omega, by go_num, rfl, by omega, X.out, HW.out⟩, by simp [intOf]; omega⟩
    · obtain rfl : n = k := by omega
      have X : Hid (q = l.count v) := by
        have := HQ.out
        rwa [List.take_of_length_le (by have := HN.out; omega)] at this
      clear hlow
      go_wp2_with fail
      go_ret
      exact ⟨by rw [X.out]; rfl, HW.out⟩
end Go.Proofs.Ytgpnceaplakemaa.Hp
