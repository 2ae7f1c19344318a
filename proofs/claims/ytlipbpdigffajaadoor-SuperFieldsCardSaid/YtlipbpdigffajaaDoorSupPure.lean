/- What this text proves: the plain laws of a superblock's bytes: each field stands in them, and two that differ have unlike bytes. -/
import Derived.Test.YtlipbpdigffajaaDoorBase
namespace Go.Proofs.YtlipbpdigffajaaDoor.Sup
open Go Go.RowKit Go.Proofs.YtlipbpdigffajaaDoor.Base

/-- A superblock's six numbers. -/
structure S6 where
  (q g l r li k : Int)
def btw (v a b : Int) : Bool := decide (a ≤ v) && decide (v ≤ b)
def goodB (s : S6) : Bool := btw s.q 1 2147483647 && btw s.g 1 2147483647 && btw s.l 3 200 && btw s.r 2 (s.l - 1) && (decide (s.li = 0) || btw s.li 2 (s.l - 1)) && !decide (s.li = s.r) && btw s.k 1 6
theorem btw_iff (v a b : Int) : btw v a b = true ↔ a ≤ v ∧ v ≤ b := by simp [btw]
theorem good_range {s : S6} (h : goodB s = true) : 1 ≤ s.q ∧ s.q ≤ 2147483647 ∧ 1 ≤ s.g ∧ s.g ≤ 2147483647 ∧ 3 ≤ s.l ∧ s.l ≤ 200 ∧ 2 ≤ s.r ∧ s.r ≤ 200 ∧ 0 ≤ s.li ∧ s.li ≤ 200 ∧ 1 ≤ s.k ∧ s.k ≤ 6 := by
  simp only [goodB, Bool.and_eq_true, Bool.or_eq_true, btw_iff, decide_eq_true_eq] at h
  omega
/-- The bytes ahead of the sum. -/
def secH (s : S6) : List UInt8 := [85, 77, 66, 49] ++ putL s.q.toNat 4 ++ putL s.g.toNat 4 ++ putL s.l.toNat 2 ++ putL s.r.toNat 2 ++ putL s.li.toNat 2 ++ putL s.k.toNat 1 ++ List.replicate 41 0
theorem secH_length (s : S6) : (secH s).length = 60 := by simp [secH, putL_length]
/-- The field numbered i, its bytes, where it begins. -/
def fld (s : S6) (i : Nat) : Int := [s.q, s.g, s.l, s.r, s.li, s.k].getD i 0
def wid (i : Nat) : Nat := [4, 4, 2, 2, 2, 1].getD i 0
def off (i : Nat) : Nat := [4, 8, 12, 14, 16, 18, 19].getD i 0
theorem secH_field (s : S6) (i : Nat) (hi : i < 6) : ((secH s).drop (off i)).take (wid i) = putL (fld s i).toNat (wid i) := by
  have e : i = 0 ∨ i = 1 ∨ i = 2 ∨ i = 3 ∨ i = 4 ∨ i = 5 := by omega
  rcases e with rfl | rfl | rfl | rfl | rfl | rfl <;>
    simp [secH, off, wid, fld, putL, List.range_succ]
theorem fld_lt {s : S6} (h : goodB s = true) (i : Nat) (hi : i < 6) : 0 ≤ fld s i ∧ (fld s i).toNat < 256 ^ wid i := by
  obtain ⟨_, _, _, _, _, _, _, _, _, _, _, _⟩ := good_range h
  have e : i = 0 ∨ i = 1 ∨ i = 2 ∨ i = 3 ∨ i = 4 ∨ i = 5 := by omega
  rcases e with rfl | rfl | rfl | rfl | rfl | rfl <;> simp [fld, wid] <;> omega
theorem num_field {s : S6} (h : goodB s = true) (i : Nat) (hi : i < 6) : numL (((secH s).drop (off i)).take (wid i)) = (fld s i).toNat := by
  rw [secH_field s i hi, num_put _ _ (fld_lt h i hi).2]
theorem secH_zero (s : S6) (j : Nat) (h1 : 19 ≤ j) (h2 : j < 60) : (secH s)[j]? = some 0 := by
  have e : (secH s) = (secH s).take 19 ++ List.replicate 41 0 := by
    simp [secH, putL, List.range_succ]
  rw [e, List.getElem?_append_right (by simp; omega), List.getElem?_replicate, if_pos (by simp [secH_length]; omega)]
theorem secH_inj {s t : S6} (hs : goodB s = true) (ht : goodB t = true) (h : secH s = secH t) : s = t := by
  have f : ∀ i, i < 6 → fld s i = fld t i := fun i hi => by
    have h1 := num_field hs i hi
    rw [h, num_field ht i hi] at h1
    have h2 := (fld_lt hs i hi).1
    have h3 := (fld_lt ht i hi).1
    omega
  have f0 := f 0 (by omega); have f1 := f 1 (by omega); have f2 := f 2 (by omega); have f3 := f 3 (by omega); have f4 := f 4 (by omega); have f5 := f 5 (by omega)
  simp only [fld, List.getD_cons_zero, List.getD_cons_succ] at f0 f1 f2 f3 f4 f5
  obtain ⟨q, g, l, r, li, k⟩ := s
  obtain ⟨q', g', l', r', li', k'⟩ := t
  simp_all
end Go.Proofs.YtlipbpdigffajaaDoor.Sup
