/- What this text proves: plain laws of a heap in a list: what a step down and a step up leave; the least one stands first; sorted lists. -/
import Derived.Test.YtgpnceaplakemaaBase
namespace Go.Proofs.Ytgpnceaplakemaa.Hp
open Go.Proofs.Ytgpnceaplakemaa.Base

def at_ (xs : List Int) (i : Nat) : Int := xs.getD i 0
def swp (xs : List Int) (i j : Nat) : List Int := (xs.set i (at_ xs j)).set j (at_ xs i)
theorem at_eq (xs : List Int) (i : Nat) (h : i < xs.length) : at_ xs i = xs[i] := by simp [at_, List.getD_eq_getElem?_getD, h]
theorem swp_length (xs : List Int) (i j : Nat) : (swp xs i j).length = xs.length := by simp [swp]
theorem at_set (xs : List Int) (i k : Nat) (v : Int) (h : i < xs.length) : at_ (xs.set i v) k = if i = k then v else at_ xs k := by
  unfold at_
  rw [List.getD_eq_getElem?_getD, List.getD_eq_getElem?_getD, List.getElem?_set]
  by_cases e : i = k
  · subst e
    simp [h]
  · simp [e]
theorem at_swp (xs : List Int) (i j k : Nat) (hi : i < xs.length) (hj : j < xs.length) : at_ (swp xs i j) k = if j = k then at_ xs i else if i = k then at_ xs j else at_ xs k := by
  unfold swp
  rw [at_set _ _ _ _ (by simpa using hj), at_set _ _ _ _ hi]
theorem swp_perm (xs : List Int) (i j : Nat) (hi : i < xs.length) (hj : j < xs.length) : (swp xs i j).Perm xs := by
  have h := Array.swap_perm (xs := xs.toArray) (i := i) (j := j) (by simpa using hi) (by simpa using hj)
  have h2 := Array.perm_iff_toList_perm.1 h
  rw [Array.toList_swap] at h2
  simpa [swp, at_eq _ _ hi, at_eq _ _ hj] using h2

/-- From parent b on no one is greater than its children. -/
def Heap (xs : List Int) (n b : Nat) : Prop := ∀ c, 1 ≤ c → c < n → b ≤ (c - 1) / 2 → at_ xs ((c - 1) / 2) ≤ at_ xs c
/-- On the way down: all is a heap from b on but for i and its children. -/
structure Down (xs : List Int) (n b i : Nat) : Prop where
  lo : b ≤ i
  ok : ∀ c, 1 ≤ c → c < n → b ≤ (c - 1) / 2 → (c - 1) / 2 ≠ i → at_ xs ((c - 1) / 2) ≤ at_ xs c
  up : ∀ c, 1 ≤ c → c < n → (c - 1) / 2 = i → 1 ≤ i → b ≤ (i - 1) / 2 → at_ xs ((i - 1) / 2) ≤ at_ xs c
theorem down_start {xs : List Int} {n b : Nat} (h : Heap xs n (b + 1)) : Down xs n b b :=
  ⟨Nat.le_refl _, fun c h1 h2 h3 h4 => h c h1 h2 (by omega), fun c h1 h2 h3 h4 h5 => by omega⟩
theorem down_stop0 {xs : List Int} {n b i : Nat} (h : Down xs n b i) (hn : n ≤ 2 * i + 1) : Heap xs n b := fun c h1 h2 h3 => h.ok c h1 h2 h3 (by omega)
/-- The lesser child. -/
def kid (xs : List Int) (n i : Nat) : Nat := if 2 * i + 2 < n ∧ at_ xs (2 * i + 2) < at_ xs (2 * i + 1) then 2 * i + 2 else 2 * i + 1
theorem kid_lt {xs : List Int} {n i : Nat} (hn : 2 * i + 1 < n) : i < kid xs n i ∧ kid xs n i < n ∧ (kid xs n i - 1) / 2 = i := by
  unfold kid
  split <;> omega
theorem kid_le {xs : List Int} {n i c : Nat} (h1 : 1 ≤ c) (h2 : c < n) (hc : (c - 1) / 2 = i) : at_ xs (kid xs n i) ≤ at_ xs c := by
  have e : c = 2 * i + 1 ∨ c = 2 * i + 2 := by omega
  unfold kid
  split
  · rename_i h
    rcases e with rfl | rfl
    · omega
    · exact Int.le_refl _
  · rename_i h
    rcases e with rfl | rfl
    · exact Int.le_refl _
    · have : ¬ at_ xs (2 * i + 2) < at_ xs (2 * i + 1) := fun hh => h ⟨h2, hh⟩
      omega
theorem down_stop {xs : List Int} {n b i : Nat} (h : Down xs n b i) (hk : at_ xs i ≤ at_ xs (kid xs n i)) : Heap xs n b := by
  intro c h1 h2 h3
  by_cases e : (c - 1) / 2 = i
  · have := kid_le (xs := xs) h1 h2 e
    rw [e]
    omega
  · exact h.ok c h1 h2 h3 e
theorem down_step {xs : List Int} {n b i : Nat} (h : Down xs n b i) (hn : 2 * i + 1 < n) (hl : n ≤ xs.length) (hk : at_ xs (kid xs n i) < at_ xs i) : Down (swp xs i (kid xs n i)) n b (kid xs n i) := by
  obtain ⟨k1, k2, k3⟩ := kid_lt (xs := xs) hn
  have hle := fun c h1 h2 hc => kid_le (xs := xs) (n := n) (i := i) (c := c) h1 h2 hc
  generalize kid xs n i = j at *
  have hlo := h.lo
  have hat := fun k => at_swp xs i j k (by omega) (by omega)
  refine ⟨by omega, fun c h1 h2 h3 h4 => ?_, fun c h1 h2 h3 h4 h5 => ?_⟩
  · rw [hat, hat]
    rw [if_neg (fun e => h4 e.symm)]
    by_cases hp : i = (c - 1) / 2
    · rw [if_pos hp]
      by_cases hc : j = c
      · rw [if_pos hc]; omega
      · rw [if_neg hc, if_neg (by omega)]
        exact hle c h1 h2 hp.symm
    · rw [if_neg hp]
      rw [if_neg (show ¬ j = c from fun e => hp (by rw [← e]; exact k3.symm))]
      by_cases hc : i = c
      · rw [if_pos hc]
        subst hc
        exact h.up j (by omega) k2 k3 (by omega) h3
      · rw [if_neg hc]
        exact h.ok c h1 h2 h3 (fun e => hp e.symm)
  · rw [hat, hat]
    rw [k3, if_neg (by omega), if_pos rfl, if_neg (by omega), if_neg (by omega)]
    have := h.ok c h1 h2 (by omega) (by omega)
    rwa [h3] at this

/-- On the way up: all is a heap but for j and its parent. -/
structure Up (xs : List Int) (n j : Nat) : Prop where
  lt : j < n
  ok : ∀ c, 1 ≤ c → c < n → c ≠ j → at_ xs ((c - 1) / 2) ≤ at_ xs c
  up : ∀ c, 1 ≤ c → c < n → (c - 1) / 2 = j → 1 ≤ j → at_ xs ((j - 1) / 2) ≤ at_ xs c
theorem up_start {xs : List Int} {v : Int} (h : Heap xs xs.length 0) : Up (xs ++ [v]) (xs.length + 1) xs.length := by
  have ha : ∀ k, k < xs.length → at_ (xs ++ [v]) k = at_ xs k := fun k hk => by
    unfold at_
    rw [List.getD_eq_getElem?_getD, List.getD_eq_getElem?_getD, List.getElem?_append_left hk]
  refine ⟨by omega, fun c h1 h2 h3 => ?_, fun c h1 h2 h3 h4 => by omega⟩
  rw [ha _ (by omega), ha _ (by omega)]
  exact h c h1 (by omega) (Nat.zero_le _)
theorem up_stop0 {xs : List Int} {n : Nat} (h : Up xs n 0) : Heap xs n 0 := fun c h1 h2 _ => h.ok c h1 h2 (by omega)
theorem up_stop {xs : List Int} {n j : Nat} (h : Up xs n j) (hk : at_ xs ((j - 1) / 2) ≤ at_ xs j) : Heap xs n 0 := by
  intro c h1 h2 _
  by_cases e : c = j
  · subst e; exact hk
  · exact h.ok c h1 h2 e
theorem up_step {xs : List Int} {n j : Nat} (h : Up xs n j) (hj : 1 ≤ j) (hl : n ≤ xs.length) (hk : at_ xs j < at_ xs ((j - 1) / 2)) : Up (swp xs ((j - 1) / 2) j) n ((j - 1) / 2) := by
  have hlt := h.lt
  obtain ⟨i, hi⟩ : ∃ i, (j - 1) / 2 = i := ⟨_, rfl⟩
  rw [hi] at hk ⊢
  have hat := fun k => at_swp xs i j k (by omega) (by omega)
  refine ⟨by omega, fun c h1 h2 h3 => ?_, fun c h1 h2 h3 h4 => ?_⟩
  · rw [hat c, hat ((c - 1) / 2)]
    by_cases hc : j = c
    · subst hc
      rw [hi, if_neg (show ¬ j = i by omega), if_pos rfl, if_pos rfl]
      omega
    · rw [if_neg (show ¬ j = c from hc), if_neg (show ¬ i = c from fun e => h3 e.symm)]
      have hok := h.ok c h1 h2 (fun e => hc e.symm)
      by_cases hp : j = (c - 1) / 2
      · rw [if_pos hp]
        have := h.up c h1 h2 hp.symm hj
        rwa [hi] at this
      · rw [if_neg hp]
        by_cases hq : i = (c - 1) / 2
        · rw [if_pos hq]
          rw [← hq] at hok
          omega
        · rw [if_neg hq]
          exact hok
  · have hii : 1 ≤ i := h4
    have h5 := h.ok i hii (by omega) (by omega)
    rw [hat, hat]
    rw [if_neg (by omega), if_neg (by omega)]
    by_cases hc : j = c
    · rw [if_pos hc]
      exact h5
    · rw [if_neg hc, if_neg (by omega)]
      have := h.ok c h1 h2 (fun e => hc e.symm)
      rw [h3] at this
      omega
/-- The first one is the least. -/
theorem heap_least {xs : List Int} {n : Nat} (h : Heap xs n 0) : ∀ c, c < n → at_ xs 0 ≤ at_ xs c := by
  intro c
  induction c using Nat.strongRecOn with
  | _ c ih =>
    intro hc
    by_cases h0 : c = 0
    · subst h0; exact Int.le_refl _
    · have h1 := ih ((c - 1) / 2) (by omega) (by omega)
      have h2 := h c (by omega) hc (Nat.zero_le _)
      omega

/-! ### Sorted lists -/
def Srt (l : List Int) : Prop := l.Pairwise (· ≤ ·)
theorem srt_eq {l m : List Int} (hp : l.Perm m) : Srt l → Srt m → l = m := by
  intro hl hm
  exact List.Perm.eq_of_pairwise (fun a b _ _ h1 h2 => Int.le_antisymm h1 h2) hl hm hp
/-- A number laid in behind those that are not greater. -/
def ins (v : Int) (l : List Int) : List Int := l.takeWhile (· ≤ v) ++ v :: l.dropWhile (· ≤ v)
theorem ins_perm (v : Int) (l : List Int) : (ins v l).Perm (v :: l) := by
  unfold ins
  refine List.perm_middle.trans ?_
  rw [List.takeWhile_append_dropWhile]
theorem ins_srt (v : Int) (l : List Int) (h : Srt l) : Srt (ins v l) := by
  induction l with
  | nil => simp [ins, Srt]
  | cons a l ih =>
    have hl : Srt l := (List.pairwise_cons.1 h).2
    have ha := (List.pairwise_cons.1 h).1
    by_cases hv : a ≤ v
    · have e : ins v (a :: l) = a :: ins v l := by simp [ins, hv]
      rw [e]
      refine List.pairwise_cons.2 ⟨fun b hb => ?_, ih hl⟩
      rcases List.mem_cons.1 ((ins_perm v l).mem_iff.1 hb) with rfl | hb
      · exact hv
      · exact ha b hb
    · have e : ins v (a :: l) = v :: a :: l := by simp [ins, hv]
      rw [e]
      refine List.pairwise_cons.2 ⟨fun b hb => ?_, h⟩
      rcases List.mem_cons.1 hb with rfl | hb
      · omega
      · have := ha b hb; omega
/-- Any numbers, sorted. -/
def srt (l : List Int) : List Int := l.foldl (fun a v => ins v a) []
theorem foldl_ins (l : List Int) : ∀ a : List Int, Srt a → Srt (l.foldl (fun a v => ins v a) a) ∧ (l.foldl (fun a v => ins v a) a).Perm (a ++ l) := by
  induction l with
  | nil => intro a h; exact ⟨h, by simp⟩
  | cons v l ih =>
    intro a h
    obtain ⟨h1, h2⟩ := ih (ins v a) (ins_srt v a h)
    refine ⟨h1, h2.trans ?_⟩
    exact ((ins_perm v a).append_right l).trans (by simpa using (List.perm_middle (a := v) (l₁ := a) (l₂ := l)).symm)
theorem srt_srt (l : List Int) : Srt (srt l) := (foldl_ins l [] List.Pairwise.nil).1
theorem srt_perm (l : List Int) : (srt l).Perm l := (foldl_ins l [] List.Pairwise.nil).2
/-- What a heap's first number is in the sorted list of its numbers. -/
theorem heap_head {xs l : List Int} (h : Heap xs xs.length 0) (hp : xs.Perm l) (hl : Srt l) (h0 : 0 < xs.length) : ∃ r, l = at_ xs 0 :: r := by
  cases l with
  | nil => have := hp.length_eq; rw [List.length_nil] at this; omega
  | cons a r =>
    refine ⟨r, ?_⟩
    have hm : at_ xs 0 ∈ a :: r := hp.mem_iff.1 (by rw [at_eq _ _ h0]; exact List.getElem_mem _)
    have ha : a ∈ xs := hp.mem_iff.2 (List.mem_cons_self ..)
    obtain ⟨k, hk, rfl⟩ := List.getElem_of_mem ha
    have h1 := heap_least h k hk
    rw [at_eq _ k hk] at h1
    rcases List.mem_cons.1 hm with e | e
    · rw [e]
    · have := (List.pairwise_cons.1 hl).1 _ e
      rw [Int.le_antisymm h1 this]
end Go.Proofs.Ytgpnceaplakemaa.Hp
