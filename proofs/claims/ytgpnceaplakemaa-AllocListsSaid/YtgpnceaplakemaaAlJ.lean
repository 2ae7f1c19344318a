/- What this text proves: pages for lists: each page is one of three, and there is not one list too many. -/
import Derived.Test.YtgpnceaplakemaaAlI
namespace Go.Proofs.Ytgpnceaplakemaa.Hp
open Go Go.RowKit Go.Proofs.Ytgpnceaplakemaa.Base Go.Proofs.Ytgpnceaplakemaa.Own
set_option linter.unusedSimpArgs false

theorem mem_leftL {T : List Int} {len p : Int} : p ∈ leftL T len ↔ 2 ≤ p ∧ p < len ∧ p ∉ T := by
  unfold leftL leftN
  rw [List.mem_filter, List.mem_map]
  constructor
  · rintro ⟨⟨j, hj, rfl⟩, h⟩
    have := List.mem_range.1 hj
    exact ⟨by omega, by omega, by simpa using h⟩
  · rintro ⟨h1, h2, h3⟩
    exact ⟨⟨(p - 2).toNat, List.mem_range.2 (by omega), by omega⟩, by simpa using h3⟩
theorem nodup_leftL (T : List Int) (len : Int) : (leftL T len).Nodup := by
  unfold leftL leftN
  refine List.Pairwise.filter _ ?_
  rw [List.pairwise_map]
  refine List.pairwise_lt_range.imp ?_
  intro a b hab
  omega
theorem leftL_snoc (T : List Int) (a len : Int) : leftL (T ++ [a]) len = (leftL T len).filter fun v => v != a := by
  unfold leftL leftN
  rw [List.filter_filter]
  apply List.filter_congr
  intro v _
  by_cases h1 : v ∈ T <;> by_cases h2 : v = a <;> simp [h1, h2]
theorem leftL_less (T : List Int) (a len : Int) : (leftL T len).length ≤ (leftL (T ++ [a]) len).length + 1 := by
  rw [leftL_snoc]
  have h1 := List.length_eq_countP_add_countP (fun v => v != a) (l := leftL T len)
  rw [List.countP_eq_length_filter] at h1
  have h2 : (leftL T len).countP (fun v => decide ¬ (v != a) = true) = (leftL T len).count a := by
    rw [List.count]
    apply List.countP_congr
    intro v _
    simp
  have h3 := List.nodup_iff_count.1 (nodup_leftL T len) a
  omega
theorem leftL_more {T : List Int} {len : Int} (h2 : 2 ≤ len) : (leftL T len).length ≤ (leftL (T ++ [len]) (len + 1)).length := by
  unfold leftL
  obtain ⟨m, hm⟩ : ∃ m : Nat, (len - 2).toNat = m := ⟨_, rfl⟩
  have hl : len = 2 + (m : Int) := by omega
  rw [hm, show (len + 1 - 2).toNat = m + 1 by omega, leftN_old (by rw [← hl]; simp)]
  have : leftN (T ++ [len]) m = leftN T m := by
    unfold leftN
    apply List.filter_congr
    intro v hv
    obtain ⟨j, hj, rfl⟩ := List.mem_map.1 hv
    have := List.mem_range.1 hj
    have hne : (2 : Int) + (j : Int) ≠ len := by omega
    simp [hne]
  rw [this]
  exact Nat.le_refl _
/-- How Lists' pages stand. -/
structure LsInv (T0 free : List Int) (len cap : Int) (T ls : List Int) : Prop where
  good : aGood free len cap = true
  tk : T = T0 ++ ls
  nod : ls.Nodup
  dis : ∀ p ∈ ls, p ∉ T0
  fre : ∀ p ∈ free, p ∉ T
  bnd : ∀ p ∈ T, p < len
  few : ls = [] ∨ 20 * (ls.length - 1) < (leftL T len).length + 1
theorem LsInv.snoc {T0 free free' : List Int} {len len' cap a : Int} {T ls : List Int} (h : LsInv T0 free len cap T ls) (hg : aGood free' len' cap = true) (ha : a ∉ T) (hf : ∀ p ∈ free', p ∉ T ∧ p ≠ a) (hb : a < len') (hl : len ≤ len') (hm : 20 * ls.length < (leftL T len).length) (hw : (leftL T len).length ≤ (leftL (T ++ [a]) len').length + 1) : LsInv T0 free' len' cap (T ++ [a]) (ls ++ [a]) := by
  have htk := h.tk
  refine ⟨hg, by rw [htk, List.append_assoc], ?_, fun p hp => ?_, fun p hp => ?_, fun p hp => ?_, .inr ?_⟩
  · rw [List.nodup_append]
    refine ⟨h.nod, by simp, fun x hx y hy e => ?_⟩
    have : y = a := by simpa using hy
    subst this
    subst e
    exact ha (by rw [htk]; exact List.mem_append_right _ hx)
  · rcases List.mem_append.1 hp with hp | hp
    · exact h.dis p hp
    · have : p = a := by simpa using hp
      subst this
      exact fun e => ha (by rw [htk]; exact List.mem_append_left _ e)
  · have := hf p hp
    simp [this.1, this.2]
  · rcases List.mem_append.1 hp with hp | hp
    · have := h.bnd p hp
      omega
    · have : p = a := by simpa using hp
      omega
  · simp only [List.length_append, List.length_singleton, Nat.add_sub_cancel]
    omega
theorem lsGo_inv {T0 : List Int} {cap : Int} : ∀ {f : Nat} {free : List Int} {len : Int} {T ls : List Int} {free' : List Int} {len' : Int} {T' ls' : List Int}, LsInv T0 free len cap T ls → lsGo cap f free len T ls = some (free', len', T', ls') → LsInv T0 free' len' cap T' ls' ∧ ¬ 20 * ls'.length < (leftL T' len').length
  | 0, free, len, T, ls, _, _, _, _, h, e => by
    simp only [lsGo] at e
    split at e
    · cases e
    · rename_i hn
      injection e with e
      injection e with e1 e
      injection e with e2 e
      injection e with e3 e4
      subst e1 e2 e3 e4
      exact ⟨h, hn⟩
  | f + 1, free, len, T, ls, _, _, _, _, h, e => by
    simp only [lsGo] at e
    split at e
    · rename_i hm
      cases free with
      | cons a r =>
        obtain ⟨g1, g2, g3, g4⟩ := aGood_iff.1 h.good
        have ho := goodL_all g4
        refine lsGo_inv (h.snoc (aGood_tail h.good) (h.fre a (by simp)) (fun p hp => ⟨h.fre p (by simp [hp]), fun e => ?_⟩) (ho.1 a (by simp)).2 (Int.le_refl _) hm (leftL_less T a len)) e
        have := (List.pairwise_cons.1 ho.2).1 p hp
        omega
      | nil =>
        simp only at e
        split at e
        · rename_i hl
          obtain ⟨g1, _⟩ := aGood_iff.1 h.good
          exact lsGo_inv (h.snoc (aGood_more h.good hl) (fun hb => by have := h.bnd _ hb; omega) (fun p hp => by simp at hp) (by omega) (by omega) hm (by have := leftL_more (T := T) g1; omega)) e
        · cases e
    · rename_i hn
      injection e with e
      injection e with e1 e
      injection e with e2 e
      injection e with e3 e4
      subst e1 e2 e3 e4
      exact ⟨h, hn⟩
theorem LsInv.one {T0 free : List Int} {len cap : Int} {T ls : List Int} (h : LsInv T0 free len cap T ls) {p : Int} (h2 : 2 ≤ p) (hl : p < len) : ls.count p + (leftL T len).count p + (if p ∈ T0 then 1 else 0) = 1 := by
  have hc := (nodup_leftL T len).count (a := p)
  have hd := h.nod.count (a := p)
  rw [hc, hd]
  have hm : p ∈ leftL T len ↔ p ∉ T := by rw [mem_leftL]; simp [h2, hl]
  have ht : p ∈ T ↔ p ∈ T0 ∨ p ∈ ls := by rw [h.tk, List.mem_append]
  have hx := h.dis p
  by_cases h3 : p ∈ T0 <;> by_cases h4 : p ∈ ls
  · exact absurd h3 (hx h4)
  · have : p ∉ leftL T len := fun e => hm.1 e (ht.2 (.inl h3))
    simp [h3, h4, this]
  · have : p ∉ leftL T len := fun e => hm.1 e (ht.2 (.inr h4))
    simp [h3, h4, this]
  · have : p ∈ leftL T len := hm.2 (fun e => (ht.1 e).elim h3 h4)
    simp [h3, h4, this]
end Go.Proofs.Ytgpnceaplakemaa.Hp
