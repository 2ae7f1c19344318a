/- What this text proves: what the statements' helper Long comes to. -/
import Derived.Test.YtofmlmgdbcjeoaaArgs
namespace Go.Proofs.Ytofmlmgdbcjeoaa.Dsk
open Go Go.RowKit Go.Proofs Go.Proofs.Ytofmlmgdbcjeoaa.Base

def LongPost (l : List ByteArray) (w : World) (e : Ending) (w' : World) : Prop := ∃ r : Bool, e = .returned (.bool r) ∧ (r = false → l.length ≤ 60000) ∧ w = w'
set_option maxHeartbeats 1600000 in
theorem long_calls (A : Option Addr) (c : Nat) (l : List ByteArray) (w : World) (h : StrArg w A l) (hs : ∀ s ∈ l, s.size ≤ maxLen) (hn : l.length ≤ maxLen) :
    Calls Try.prog 20 #[.slice A l.length c, .int .i64 60000] w (LongPost l w) := by
  unfold maxLen at hs hn
  obtain ⟨n, hnn⟩ : ∃ n, l.length = n := ⟨_, rfl⟩
  have HN := Lib.hid hnn
  have HS := Lib.hid hs
  have HA := Lib.hid h
  rw [hnn] at hn ⊢
  clear hnn hs h
  go_enter Try.func20, Try.ntmps20
  go_wp2_with fail
  go_loopw [5, 6] (fun v i wr => ∃ k q : Nat, k ≤ n ∧ i = .int .i64 k ∧ v = .int .i64 q ∧ k ≤ q ∧ q ≤ 120001 ∧ w = wr) (fun _ i _ => n - (intOf i).toNat)
  case atStart => exact ⟨0, 0, Nat.zero_le _, rfl, rfl, Nat.le_refl _, by omega, rfl⟩
  case round =>
    obtain ⟨k, q, hk, rfl, rfl, hkq, hq, rfl⟩ := hrel
    by_cases hlt : k < n
    · have hkn : (k : Int) < n := by omega
      by_cases hq6 : q ≤ 60000
      · have hq6' : (q : Int) ≤ 60000 := by omega
        have hkl : k < l.length := by rw [HN.out]; exact hlt
        obtain ⟨b, o, rfl, hb, hc⟩ := HA.out k hkl
        have hsz := HS.out l[k] (List.getElem_mem _)
        generalize l[k] = s at *
        go_wp2_with fail
        exact ⟨⟨k + 1, q + (1 + min s.size 60000), by omega, by go_num, congrArg (Value.int .i64) (by omega), by omega, by omega, trivial⟩, by simp [intOf]; omega⟩
      · have hq6' : ¬ (q : Int) ≤ 60000 := by omega
        go_wp2_with fail
        go_ret
        exact ⟨true, rfl, (fun h => nomatch h), rfl⟩
    · obtain rfl : k = n := by omega
      go_wp2_with fail
      go_ret
      exact ⟨_, rfl, (fun h => by have := of_decide_eq_false h; have := HN.out; omega), rfl⟩
end Go.Proofs.Ytofmlmgdbcjeoaa.Dsk
