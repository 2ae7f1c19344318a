/- What this text proves: what a pile's numbers, cloned and sorted, are. -/
import Derived.Test.YtgpnceaplakemaaHpD
namespace Go.Proofs.Ytgpnceaplakemaa.Hp
open Go Go.RowKit Go.Sort Go.Proofs.Ytgpnceaplakemaa.Base Go.Proofs.Ytgpnceaplakemaa.Own
set_option linter.unusedSimpArgs false

theorem merge_srt (xs : List Int) : xs.mergeSort (fun x y => decide (x ≤ y)) = srt xs := by
  refine srt_eq ((List.mergeSort_perm xs _).trans (srt_perm xs).symm) ?_ (srt_srt xs)
  have h := List.pairwise_mergeSort (le := fun x y : Int => decide (x ≤ y)) (fun a b c h1 h2 => by simp at h1 h2 ⊢; omega) (fun a b => by simp; omega) xs
  exact h.imp fun h => by simpa using h
theorem srt_length (xs : List Int) : (srt xs).length = xs.length := (srt_perm xs).length_eq
theorem sort_calls (B : Nat) (A : Option Addr) (n c : Nat) (xs : List Int) (w : World) (h : w.ownsRow B 3 1 (.slice A n c) n (ints xs)) (hn : n ≤ 1000000) :
    Calls Try.prog 61 #[.slice A n c] w fun e w' => e = .returned (.tuple #[]) ∧ w'.ownsRow B 3 1 (.slice A n c) n (ints (srt xs)) ∧ Within (fun k => B ≤ k) w w' := by
  have hl := row_len h
  rcases h.2 with ⟨hv, h0⟩ | ⟨g, cap, cur, hv, hb, hh, h1, h2, h3, h4⟩
  · injection hv with e1 e2 e3
    subst e1 e3
    subst h0
    obtain rfl : xs = [] := List.eq_nil_of_length_eq_zero hl
    refine (Try.slices_Sort_int_none none 0 w).mono fun e w' hw => ?_
    obtain ⟨he, rfl⟩ := hw
    exact ⟨he, h, Within.refl _ _⟩
  · injection hv with e1 e2 e3
    subst e1 e3
    have hH := holds_of_blockI (ss := xs) hh (by rw [hl]; simpa [ints] using h4)
    have hc := Try.slices_Sort_int g 0 c xs w hH (Array.getElem?_eq_some_iff.1 hh).1 (by omega)
    rw [hl] at hc
    refine hc.mono fun e w' ⟨he, nn, os, hw⟩ => ?_
    subst hw
    rw [merge_srt]
    have h5 := ownsRow_sortedI (n := nn) (os := os) (ss := xs) (ts := srt xs) (srt_length xs) hb hh (by omega) h2 h3
    rw [hl] at h5
    exact ⟨he, h5, (Within.refl _ w).grown (grownBy_sortedI _) (fun k hk => by injection hk with hk; omega)⟩
theorem clone_calls (A : Option Addr) (c : Nat) (xs : List Int) (w : World) (h : IntArg w A xs) (hA : A = none → xs = []) (hn : xs.length ≤ 1000000000) :
    Calls Try.prog 32 #[.slice A xs.length c] w fun e w' => ∃ v, e = .returned v ∧ w'.ownsRow w.heap.size 3 1 v xs.length (ints xs) ∧ Below w.heap.size w w' := by
  cases A with
  | none =>
    obtain rfl := hA rfl
    exact (Try.slices_Clone_int_nil 0 c w).mono fun e w' ⟨he, hw⟩ => ⟨_, he, ⟨rfl, .inl ⟨rfl, rfl⟩⟩, hw ▸ Below.refl _ _⟩
  | some a =>
    cases xs with
    | nil => exact (Try.slices_Clone_int_zero a c w).mono fun e w' ⟨v, he, hv, _, hB⟩ => ⟨v, he, hv, hB⟩
    | cons x r =>
      obtain ⟨b, o, e, _, _⟩ := h 0 (by simp)
      obtain rfl : a = ⟨b, o, none⟩ := by simpa using e
      have hc := Try.slices_Clone_int b o (x :: r).length c (x :: r) w (Nat.le_refl _) (by omega) (fun j hj => by
        obtain ⟨b', o', e', _, hcell⟩ := h j hj
        obtain ⟨rfl, rfl⟩ : b = b' ∧ o = o' := by simpa using e'
        rw [hcell, List.getD_eq_getElem?_getD, List.getElem?_eq_getElem hj]
        rfl)
      rw [List.take_of_length_le (Nat.le_refl _)] at hc
      exact hc.mono fun e w' ⟨v, he, hv, _, hB⟩ => ⟨v, he, hv, hB⟩
set_option maxHeartbeats 800000 in
theorem all_calls (A : Option Addr) (n c : Nat) (xs : List Int) (w : World) (h : w.ownsRow 0 3 1 (.slice A n c) n (ints xs)) (hn : n ≤ 1000000) :
    Calls Try.prog 59 #[.slice A n c] w fun e w' => ∃ v, e = .returned v ∧ w'.ownsRow w.heap.size 3 1 v n (ints (srt xs)) ∧ Below w.heap.size w w' := by
  have hl := row_len h
  have C1 := clone_calls A c xs w (own_intArg h) (fun hA => by
    rcases h.2 with ⟨_, h0⟩ | ⟨g, cap, cur, hv, _⟩
    · exact List.eq_nil_of_length_eq_zero (by omega)
    · rw [hA] at hv
      cases hv) (by omega)
  rw [hl] at C1
  have C1 := Lib.hid C1
  clear h hl
  go_enter Try.func59, Try.ntmps59
  go_wp2_with fail
  ((with_reducible refine C1.out.mono ?_); rintro e w1 ⟨v, rfl, hv, hl⟩)
  obtain ⟨A1, c1, rfl⟩ := own_form hv
  have C2 := Lib.hid (sort_calls w.heap.size A1 n c1 xs w1 hv hn)
  have L1 := Lib.hid hl
  clear hv hl C1
  go_wp2_with fail
  ((with_reducible refine C2.out.mono ?_); rintro e w2 ⟨rfl, hv, hw⟩)
  have V2 := Lib.hid hv
  have L2 := Lib.hid (L1.out.trans (hw.below L1.out.size (fun k hk => hk)))
  clear hv hw C2 L1
  go_wp2_with fail
  go_ret
  exact ⟨_, rfl, V2.out, L2.out⟩
end Go.Proofs.Ytgpnceaplakemaa.Hp
