/- What this text proves: the reference's disk in memory; what its New and From come to. -/
import Derived.Test.YtofmlmgdbcjeoaaLongP
import Derived.Test.YtofmlmgdbcjeoaaFskC
namespace Go.Proofs.Ytofmlmgdbcjeoaa.Dsk
open Go Go.RowKit Go.Proofs Go.Proofs.Ytofmlmgdbcjeoaa.Base
set_option linter.unusedSimpArgs false

/-- The reference's disk: its struct in block g, its rows in blocks of their own, all in F. -/
def IsR (F : Nat → Prop) (w : World) (g : Nat) (D : DM) : Prop :=
  F g ∧ ∃ v1 v2, Blk w g 66 [.int .i64 D.lim, v1, v2, .int .i64 D.fuse, .bool D.down] ∧ w.ownsRow 0 9 1 v1 D.st.length (strs D.st) ∧ w.ownsRow 0 76 2 v2 D.wt.length (wcells D.wt) ∧ (∀ k, v1.ownBlock = some k → F k) ∧ (∀ k, v2.ownBlock = some k → F k)
section
variable {F : Nat → Prop} {w w1 : World} {g : Nat} {D : DM}
theorem IsR.lt (h : IsR F w g D) : g < w.heap.size := h.2.elim fun _ h => h.elim fun _ h => h.1.lt
theorem IsR.mono {F' : Nat → Prop} (h : IsR F w g D) (hF : ∀ k, k < w.heap.size → F k → F' k) : IsR F' w g D := by
  obtain ⟨hB, v1, v2, hb, h1, h2, hF1, hF2⟩ := h
  exact ⟨hF g hb.lt hB, v1, v2, hb, h1, h2, fun k hk => hF k (own_lt h1 k hk).2 (hF1 k hk), fun k hk => hF k (own_lt h2 k hk).2 (hF2 k hk)⟩
theorem IsR.keep (h : IsR F w g D) (hk : ∀ k, k < w.heap.size → F k → w1.heap[k]? = w.heap[k]?) : IsR F w1 g D := by
  obtain ⟨hB, v1, v2, hb, h1, h2, hF1, hF2⟩ := h
  exact ⟨hB, v1, v2, (hk g hb.lt hB).trans hb, own_kept h1 (fun k e => hk k (own_lt h1 k e).2 (hF1 k e)), own_kept h2 (fun k e => hk k (own_lt h2 k e).2 (hF2 k e)), hF1, hF2⟩
theorem IsR.below (h : IsR F w g D) (hb : Below w.heap.size w w1) : IsR F w1 g D := h.keep fun k hk _ => hb.block k hk
theorem IsR.within {F' : Nat → Prop} (h : IsR F w g D) (hb : Within F' w w1) (hd : ∀ k, k < w.heap.size → F k → ¬ F' k) : IsR F w1 g D := h.keep fun k hk hF => hb.block k hk (hd k hk hF)
theorem IsR.alloc (h : IsR F w g D) (o : Obj) : IsR F (w.alloc o) g D := h.below (bel_alloc (Below.refl _ _) o)
theorem IsR.drew (h : IsR F w g D) : IsR F w.drew g D := h.below (bel_drew (Below.refl _ _))
theorem IsR.drewN (h : IsR F w g D) (n : Nat) : IsR F (w.drewN n) g D := h.below (bel_drewN (Below.refl _ _) n)
end
def goodR (lim : Int) : Bool := decide (1 ≤ lim) && decide (lim ≤ 200)
theorem goodR_nil (lim : Int) : goodF [] lim = goodR lim := by
  rw [Bool.eq_iff_iff]
  simp [goodF, goodR]
  intros
  omega
/-- The world in which a fresh reference disk lies in the block w.heap.size. -/
theorem rnew_calls (lim : Int) (w : World) :
    Calls Try.prog 27 #[.int .i64 lim] w fun e w' => (goodR lim = false ∧ e = .returned (.tuple #[.pointer none, .bool false]) ∧ w' = w) ∨ (goodR lim = true ∧ e = .returned (.tuple #[.pointer (some ⟨w.heap.size, 0, none⟩), .bool true]) ∧ w' = w.alloc (.cells #[.int .i64 lim, .slice none 0 0, .slice none 0 0, .int .i64 (-1), .bool false] 66)) := by
  by_cases h1 : lim < 1
  · have h1' : decide (lim < 1) = true := decide_eq_true h1
    have HG : Hid (goodR lim = false) := by simp [Hid, goodR]; omega
    clear h1
    go_enter Try.func27, Try.ntmps27
    go_wp2
    go_ret2
    exact .inl ⟨HG.out, rfl, rfl⟩
  · have h1' : decide (lim < 1) = false := decide_eq_false h1
    by_cases h2 : 200 < lim
    · have h2' : decide (200 < lim) = true := decide_eq_true h2
      have HG : Hid (goodR lim = false) := by simp [Hid, goodR]; intros; omega
      clear h1 h2
      go_enter Try.func27, Try.ntmps27
      go_wp2
      go_ret2
      exact .inl ⟨HG.out, rfl, rfl⟩
    · have h2' : decide (200 < lim) = false := decide_eq_false h2
      have HG : Hid (goodR lim = true) := by simp [Hid, goodR]; omega
      clear h1 h2
      go_enter Try.func27, Try.ntmps27
      go_wp2
      go_ret2
      exact .inr ⟨HG.out, rfl, rfl⟩
end Go.Proofs.Ytofmlmgdbcjeoaa.Dsk
