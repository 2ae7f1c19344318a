/- What this text proves: what Pop, least and all of a pile of numbers come to. -/
import Derived.Test.YtgpnceaplakemaaHpC
import Derived.Test.YtgpnceaplakemaaShelf
import Derived.Sort.OwnSortedInts
namespace Go.Proofs.Ytgpnceaplakemaa.Hp
open Go Go.RowKit Go.Proofs.Ytgpnceaplakemaa.Base Go.Proofs.Ytgpnceaplakemaa.Own
set_option linter.unusedSimpArgs false

set_option maxHeartbeats 1600000 in
set_option maxRecDepth 100000 in
theorem pop_calls (F : Nat → Prop) (p m : Nat) (xs : List Int) (w : World) (h : IsP F w p xs) (hm : xs.length = m + 1) (hn : xs.length ≤ 1000000) :
    Calls Try.prog 82 #[.pointer (some ⟨p, 0, none⟩)] w fun e w' => e = .returned (.iface 3 (.int .i64 (at_ xs m))) ∧ IsP F w' p (xs.take m) ∧ Within F w w' := by
  obtain ⟨hB, u, hb, h1, hF1⟩ := h
  obtain ⟨A, c, rfl⟩ := own_form h1
  have cp := hb.cell 0; have fp := hb.frozen 0
  obtain ⟨b, rfl, hc⟩ := row_cell h1 (by omega)
  have cm := (hc m (by omega)).1
  have HT := Lib.hid (own_take h1 (show m ≤ xs.length by omega) (by simp))
  have HB := Lib.hid hb; have HF1 := Lib.hid hF1
  have HL := Lib.hid (show (xs.take m).length = m by rw [List.length_take]; omega)
  have HC : xs.length ≤ c := by
    rcases h1.2 with ⟨h, _⟩ | ⟨g, cap, cur, hv, _, _, hcc, _⟩
    · cases h
    · injection hv with _ _ e3
      omega
  clear hb h1 hF1 hc
  rw [hm] at cp HB HC hn
  generalize at_ xs m = x at *
  go_enter Try.func82, Try.ntmps82
  go_wp2_with fail
  go_ret
  refine ⟨rfl, ⟨hB, _, HB.out.set_ 0 _, ?_, HF1.out⟩, (Within.refl F w).set hB 0 _⟩
  rw [HL.out]
  exact own_set_far HT.out (own_blk_ne HT.out HB.out (by decide)) _ _
theorem least_calls (A : Option Addr) (n c : Nat) (xs : List Int) (w : World) (h : w.ownsRow 0 3 1 (.slice A n c) n (ints xs)) (hn : 0 < n) :
    Calls Try.prog 60 #[.slice A n c] w fun e w' => e = .returned (.int .i64 (at_ xs 0)) ∧ w = w' := by
  obtain ⟨b, rfl, hc⟩ := row_cell h hn
  have c0 := (hc 0 hn).1
  have hn' : (0 : Int) < n := by omega
  clear hc h
  generalize at_ xs 0 = x at *
  go_enter Try.func60, Try.ntmps60
  go_wp2_with fail
  go_ret
  exact ⟨rfl, rfl⟩
end Go.Proofs.Ytgpnceaplakemaa.Hp
