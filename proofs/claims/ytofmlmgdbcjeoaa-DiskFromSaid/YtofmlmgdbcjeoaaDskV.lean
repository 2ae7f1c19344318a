/- What this text proves: plain facts of writes under a fuse. -/
import Derived.Test.YtofmlmgdbcjeoaaDskP
namespace Go.Proofs.Ytofmlmgdbcjeoaa.Dsk
open Go Go.RowKit Go.Proofs Go.Proofs.Ytofmlmgdbcjeoaa.Base
set_option linter.unusedSimpArgs false

def G0 : DM := ⟨[], [], 4, -1, false⟩
def zer (n : Nat) : List ByteArray := List.replicate n page0
def G4 : DM := ⟨zer 4, [], 4, -1, false⟩
theorem g0 : goodF [] 4 = true := by simp [goodF]
theorem g1 : growM G0 4 = (G4, 0) := by simp [growM, G0, G4, growL, burn, zer]
/-- Behind j writes with a fuse of k: what waits, the fuse, whether all is down. -/
def fzW (j : Nat) : List (Nat × ByteArray) := (List.range j).map fun i => (i % 4, bs (pageL (UInt8.ofNat (i + 1))))
def GF (k j : Nat) : DM := ⟨zer 4, fzW (min j k), 4, ((k - j : Nat) : Int), decide (k < j)⟩
theorem fzW_len (j : Nat) : (fzW j).length = j := by simp [fzW]
theorem gf_zero (k : Nat) : GF k 0 = { G4 with fuse := max (k : Int) (-1) } := by
  simp [GF, G4, fzW]
  omega
theorem gf_step (k j : Nat) : writeM (GF k j) ((j : Int) % 4) (bs (pageL (UInt8.ofNat (j + 1)))) = (GF k (j + 1), if j < k then 0 else 2) := by
  have h4 : 0 ≤ (j : Int) % 4 ∧ (j : Int) % 4 < 4 := by omega
  have h4' : ((j : Int) % 4).toNat = j % 4 := by omega
  unfold writeM
  by_cases h1 : k < j
  · rw [if_pos (show (GF k j).down = true by simp [GF, h1]), if_neg (by omega)]
    simp [GF, show min j k = k by omega, show min (j + 1) k = k by omega, show k - j = 0 by omega, show k - (j + 1) = 0 by omega, h1, show k < j + 1 by omega]
  · rw [if_neg (show ¬ (GF k j).down = true by simp [GF]; omega), if_neg (by rw [size_page]; simp), if_neg (by simp [GF, zer]; omega)]
    by_cases h2 : k = j
    · rw [if_pos (show (GF k j).fuse = 0 by simp [GF]; omega), if_neg (by omega)]
      simp [GF, h2]
    · rw [if_neg (show ¬ (GF k j).fuse = 0 by simp [GF]; omega), if_pos (by omega), h4']
      simp only [GF, Prod.mk.injEq, DM.mk.injEq, true_and, and_true]
      refine ⟨?_, ?_, ?_⟩
      · rw [show min j k = j by omega, show min (j + 1) k = j + 1 by omega]
        simp [fzW, List.range_succ]
      · simp [burn]; omega
      · simp; omega
end Go.Proofs.Ytofmlmgdbcjeoaa.Dsk
