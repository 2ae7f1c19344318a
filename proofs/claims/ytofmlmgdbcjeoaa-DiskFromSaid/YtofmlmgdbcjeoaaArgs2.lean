/- What this text proves: a list of texts opened, with what a nil list is. -/
import Derived.Test.YtofmlmgdbcjeoaaArgs
import Derived.WideShapes
namespace Go.Proofs.Ytofmlmgdbcjeoaa.Dsk
open Go Go.RowKit Go.ChangeShapes Go.WideShapes Go.Proofs Go.Proofs.Ytofmlmgdbcjeoaa.Base
section
variable {H : Type} {enc : TypeId × Value → H} {P : Program} {w : World} {base : Nat} {spare : Nat → Bool} {held : Bool} {r : Reach} {b0 : Nat}
theorem slice_spot {t e : TypeId} {a : Addr} {len cap : Nat} (ht : P.underlying t = some (.slice e)) (h : Value.okWide P w r b0 t (.slice (some a) len cap)) : a.spot = none := by
  simp only [Value.okWide, ht, Cell.okWide, Cell.ok] at h
  exact h.2.2.2.1
theorem slice_nil {t e : TypeId} {len cap : Nat} (ht : P.underlying t = some (.slice e)) (h : Value.okWide P w r b0 t (.slice none len cap)) : len = 0 ∧ cap = 0 := by
  simp only [Value.okWide, ht, Cell.okWide] at h
  unfold Cell.ok at h
  rw [ht] at h
  split at h <;> simp_all
theorem open_texts2 {t e : TypeId} {fuel : Nat} {v : Value} {x : DataW H × List MemPlace} (hval : Value.okWide P w r b0 t v) (ht : P.underlying t = some (.slice e)) (he : P.underlying e = some .string) (hc : P.cellsOf e = 1)
    (h : DataW.trod enc P w base spare held fuel t v.cells.toList = some x) (hv : v.cells = #[v]) : ∃ (A : Option Addr) (c : Nat) (l : List ByteArray), v = .slice A l.length c ∧ StrArg w A l ∧ (A = none → l = [] ∧ c = 0) ∧ (∀ a, A = some a → ∃ b o, a = ⟨b, o, none⟩) ∧ (∀ s ∈ l, s.size ≤ maxLen) ∧ l.length ≤ maxLen := by
  obtain ⟨A, c, l, e1, hS, hn, hs, hm⟩ := open_texts ht he hc h hv
  refine ⟨A, c, l, e1, hS, fun hA => ?_, fun a ha => ?_, hs, hm⟩
  · subst hA
    rw [e1] at hval
    exact ⟨hn rfl, (slice_nil ht hval).2⟩
  · subst ha
    rw [e1] at hval
    have := slice_spot ht hval
    obtain ⟨b, o, s⟩ := a
    obtain rfl : s = none := this
    exact ⟨b, o, rfl⟩
end
end Go.Proofs.Ytofmlmgdbcjeoaa.Dsk
