/- What this text proves: what a disk's Waiting comes to. -/
import Derived.Test.YtofmlmgdbcjeoaaDskJ
import Derived.Test.YtofmlmgdbcjeoaaDskF
namespace Go.Proofs.Ytofmlmgdbcjeoaa.Dsk
open Go Go.RowKit Go.Proofs Go.Proofs.Ytofmlmgdbcjeoaa.Base

def clones_ren : Go.Shelf.Ren := ⟨fun | 41 => 46 | n => n, fun | 22 => 41 | 23 => 76 | 4 => 4 | n => n, fun | n => n⟩
theorem clones_lays : Go.Proofs.SlLaysE0.n41 Try.prog clones_ren := {
  mixed := by kernel_rfl
  f41 := ⟨Try.f46.name, by decide, Try.func46.trans (congrArg some (by kernel_rfl))⟩
  t4 := Try.underlying4
  a4 := Try.isAgg4
  z4 := Try.sizeOf4
  v4 := Try.zeroValue4
  t22 := Try.underlying41
  a22 := Try.isAgg41
  z22 := Try.sizeOf41
  v22 := Try.zeroValue41 }
theorem wcells_one (l : List (Nat × ByteArray)) : ∀ u ∈ wcells l, u.oneCell' = true := by
  intro u hu
  simp only [wcells, List.mem_flatMap, wcell] at hu
  obtain ⟨x, _, hx⟩ := hu
  simp at hx
  rcases hx with rfl | rfl <;> rfl
theorem own_nonempty {w : World} {B : Nat} {A : Option Addr} {n c : Nat} {e : TypeId} {size : Nat} {xs : List Value} (h : w.ownsRow B e size (.slice A n c) n xs) : (A = none ∧ n = 0 ∧ c = 0) ∨ ∃ b, A = some ⟨b, 0, none⟩ := by
  rcases h.2 with ⟨h, e⟩ | ⟨g', cap, cur, hv, _⟩
  · injection h with h1 h2 h3; exact .inl ⟨h1, e, h3⟩
  · injection hv with h1 h2 h3; exact .inr ⟨_, h1⟩
theorem clone_calls (B : Nat) (A : Option Addr) (c : Nat) (l : List (Nat × ByteArray)) (w : World) (h : w.ownsRow B 76 2 (.slice A l.length c) l.length (wcells l)) (hn : l.length ≤ 1000000) :
    Calls Try.prog 46 #[.slice A l.length c] w fun e w' => ∃ v, e = .returned v ∧ w'.ownsRow w.heap.size 76 2 v l.length (wcells l) ∧ Below w.heap.size w w' := by
  obtain ⟨i0, hi, hz0, hz1, hz2⟩ := info_parts infoW
  rcases own_nonempty h with ⟨rfl, e, rfl⟩ | ⟨b, rfl⟩
  · obtain rfl : l = [] := List.eq_nil_of_length_eq_zero e
    refine (AnyE.slices_Clone_nil clones_lays 0 0 w).mono fun e w' ⟨he, hw⟩ => ⟨_, he, ?_, hw ▸ Below.refl _ _⟩
    exact ⟨rfl, .inl ⟨rfl, rfl⟩⟩
  · refine (AnyE.slices_Clone clones_lays i0 _ 2 24 hi hz0 hz1 hz2 rfl (by omega) Try.sizeOf76 b 0 l.length c (wcells l) w (wcells_length l) (by unfold maxLen; omega) (by omega) (fun j u hj => ?_) (wcells_one l)).mono fun e w' ⟨v, he, hv, _, hB⟩ => ⟨v, he, hv, hB⟩
    have hlt : j < l.length * 2 := by rw [← wcells_length]; exact (List.getElem?_eq_some_iff.1 hj).1
    rw [Nat.zero_add]
    exact (h.cellAt j hlt).trans hj
set_option maxHeartbeats 1600000 in
theorem waiting_calls (B g : Nat) (D : DM) (w : World) (h : IsD B w g D) (hn : D.wt.length ≤ 1000000) :
    Calls Try.prog 19 #[.pointer (some ⟨g, 0, none⟩)] w fun e w' => ∃ v, e = .returned v ∧ w'.ownsRow w.heap.size 76 2 v D.wt.length (wcells D.wt) ∧ Below w.heap.size w w' := by
  obtain ⟨hB, v1, v2, hb, h1, h2⟩ := h
  obtain ⟨A, c, rfl⟩ := own_form h2
  have c1 := hb.cell 1
  have HC := Lib.hid (clone_calls B A c D.wt w h2 hn)
  clear h1 h2 hb
  go_enter Try.func19, Try.ntmps19
  go_wp2_with fail
  ((with_reducible refine HC.out.mono ?_); rintro e w1 ⟨v, rfl, hv, hl⟩)
  go_wp2_with fail
  go_ret
  exact ⟨_, rfl, hv, hl⟩
end Go.Proofs.Ytofmlmgdbcjeoaa.Dsk
