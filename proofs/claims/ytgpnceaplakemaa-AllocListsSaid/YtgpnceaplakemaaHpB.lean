/- What this text proves: what the methods of a pile of numbers come to. -/
import Derived.Test.YtgpnceaplakemaaHpA
namespace Go.Proofs.Ytgpnceaplakemaa.Hp
open Go Go.RowKit Go.Proofs.Ytgpnceaplakemaa.Base Go.Proofs.Ytgpnceaplakemaa.Own
set_option linter.unusedSimpArgs false

theorem row_len {w : World} {B n : Nat} {v : Value} {xs : List Int} (h : w.ownsRow B 3 1 v n (ints xs)) : xs.length = n := by have := h.1; rw [ints_length] at this; omega
theorem row_cell {w : World} {B n c : Nat} {A : Option Addr} {xs : List Int} (h : w.ownsRow B 3 1 (.slice A n c) n (ints xs)) (hn : 0 < n) : ∃ b, A = some ⟨b, 0, none⟩ ∧ ∀ i, i < n → w.cell? ⟨b, i, none⟩ = some (.int .i64 (at_ xs i)) ∧ w.frozen? ⟨b, i, none⟩ = false := by
  obtain ⟨b, rfl, _, hc⟩ := own_cell h hn
  have hl := row_len h
  refine ⟨b, rfl, fun i hi => ⟨?_, h.frozenAt i⟩⟩
  rw [hc i (by omega), ints_at xs i (by omega)]
set_option maxHeartbeats 800000 in
theorem less_calls (A : Option Addr) (n c i j : Nat) (xs : List Int) (w : World) (h : w.ownsRow 0 3 1 (.slice A n c) n (ints xs)) (hn : n ≤ 1000000) (hi : i < n) (hj : j < n) :
    Calls Try.prog 57 #[.slice A n c, .int .i64 i, .int .i64 j] w fun e w' => e = .returned (.bool (decide (at_ xs i < at_ xs j))) ∧ Below w.heap.size w w' := by
  obtain ⟨b, rfl, hc⟩ := row_cell h (by omega)
  have ci := (hc i hi).1; have cj := (hc j hj).1
  clear hc h
  generalize at_ xs i = x at *
  generalize at_ xs j = y at *
  have hi' : (i : Int) < n := by omega
  have hj' : (j : Int) < n := by omega
  go_enter Try.func57, Try.ntmps57
  go_wp2_with fail
  go_quiet (fail)
  go_wp2_with fail
  go_ret
  exact ⟨rfl, bel_drewN (Below.refl _ _) _⟩
set_option maxHeartbeats 1600000 in
theorem swap_calls (b n c i j : Nat) (xs : List Int) (w : World) (h : w.ownsRow 0 3 1 (.slice (some ⟨b, 0, none⟩) n c) n (ints xs)) (hn : n ≤ 1000000) (hi : i < n) (hj : j < n) :
    Calls Try.prog 58 #[.slice (some ⟨b, 0, none⟩) n c, .int .i64 i, .int .i64 j] w fun e w' => e = .returned (.tuple #[]) ∧ w'.ownsRow 0 3 1 (.slice (some ⟨b, 0, none⟩) n c) n (ints (swp xs i j)) ∧ Within (fun k => k = b) w w' := by
  obtain ⟨b', hb, hc⟩ := row_cell h (by omega)
  obtain rfl : b = b' := by simpa using hb
  have ci := (hc i hi).1; have cj := (hc j hj).1; have fi := (hc i hi).2; have fj := (hc j hj).2
  have HO := Lib.hid h
  clear hc h hb
  obtain ⟨x, hx⟩ : ∃ x, at_ xs i = x := ⟨_, rfl⟩
  obtain ⟨y, hy⟩ : ∃ x, at_ xs j = x := ⟨_, rfl⟩
  have HX := Lib.hid hx; have HY := Lib.hid hy
  rw [hx] at ci
  rw [hy] at cj
  clear hx hy
  have hi' : (i : Int) < n := by omega
  have hj' : (j : Int) < n := by omega
  by_cases hij : i = j
  · subst hij
    obtain rfl : x = y := HX.out.symm.trans HY.out
    clear cj fj hj'
    go_enter Try.func58, Try.ntmps58
    go_region
    go_end0
    refine ⟨rfl, ?_, ?_⟩
    · have h2 := ((HO.out.stored i (.int .i64 x)).1.stored i (.int .i64 x)).1.drew
      rw [ints_set, ints_set] at h2
      unfold swp
      rw [HX.out]
      exact h2
    · exact (((Within.refl _ w).set (F := fun k => k = b) rfl i _).set rfl i _).drew
  · have hij' : ¬ (j = i) := fun e => hij e.symm
    go_enter Try.func58, Try.ntmps58
    go_region
    go_end0
    refine ⟨rfl, ?_, ?_⟩
    · have h2 := ((HO.out.stored i (.int .i64 y)).1.stored j (.int .i64 x)).1.drew
      rw [ints_set, ints_set] at h2
      unfold swp
      rw [HX.out, HY.out]
      exact h2
    · exact (((Within.refl _ w).set (F := fun k => k = b) rfl i _).set rfl j _).drew
end Go.Proofs.Ytgpnceaplakemaa.Hp
