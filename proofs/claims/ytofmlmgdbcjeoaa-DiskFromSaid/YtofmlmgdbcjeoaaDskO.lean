/- What this text proves: New; what a disk's Pages come to. -/
import Derived.Test.YtofmlmgdbcjeoaaDskN
namespace Go.Proofs.Ytofmlmgdbcjeoaa.Dsk
open Go Go.RowKit Go.Proofs Go.Proofs.Ytofmlmgdbcjeoaa.Base

set_option maxHeartbeats 800000 in
theorem new_calls (B : Nat) (lim : Int) (w : World) (hB : B ≤ w.heap.size) :
    Calls Try.prog 11 #[.int .i64 lim] w fun e w' => Below w.heap.size w w' ∧ ((goodF [] lim = false ∧ e = .returned (.tuple #[.pointer none, .bool false])) ∨ (goodF [] lim = true ∧ ∃ g, e = .returned (.tuple #[.pointer (some ⟨g, 0, none⟩), .bool true]) ∧ IsD B w' g (newD [] lim))) := by
  have HF := Lib.hid (from_calls B none 0 [] lim w hB (fun j hj => absurd hj (by simp)) (fun _ => rfl) (fun a h => by cases h) (by simp))
  rw [show (([] : List ByteArray).length) = 0 from rfl] at HF
  cases hg : goodF [] lim
  · rw [hg] at HF
    clear hg
    go_enter Try.func11, Try.ntmps11
    go_wp2_with fail
    ((with_reducible refine HF.out.mono ?_); rintro e w1 ⟨hl, ⟨_, rfl⟩ | ⟨h, _⟩⟩)
    · go_wp2_with fail
      go_ret2
      exact ⟨hl, .inl ⟨trivial, rfl⟩⟩
    · cases h
  · rw [hg] at HF
    clear hg
    go_enter Try.func11, Try.ntmps11
    go_wp2_with fail
    ((with_reducible refine HF.out.mono ?_); rintro e w1 ⟨hl, ⟨h, _⟩ | ⟨_, g, rfl, hI⟩⟩)
    · cases h
    · have HI := Lib.hid hI
      clear hI
      go_wp2_with fail
      go_ret2
      exact ⟨hl, .inr ⟨trivial, g, rfl, HI.out⟩⟩
end Go.Proofs.Ytofmlmgdbcjeoaa.Dsk
