/- What this text proves: what is kept of a disk into which pages are written; two lists of texts held against each other, at lengths that are known. -/
import Derived.Test.YtofmlmgdbcjeoaaFskC
import Derived.Test.YtofmlmgdbcjeoaaArgs
import Derived.Test.YtofmlmgdbcjeoaaDskQ
namespace Go.Proofs.Ytofmlmgdbcjeoaa.Dsk
open Go Go.RowKit Go.Proofs Go.Proofs.Ytofmlmgdbcjeoaa.Base

theorem texts_at (A A' : Option Addr) (c c' n n' : Nat) (l m : List ByteArray) (w : World) (h : StrArg w A l) (h' : StrArg w A' m) (hl : l.length = n) (hm : m.length = n') (hn : n ≤ 1000000) :
    Calls Try.prog 23 #[.slice A n c, .slice A' n' c'] w fun e w' => e = .returned (.bool (decide (l = m))) ∧ Below w.heap.size w w' := by
  subst hl hm
  exact texts_calls A A' c c' l m w h h' hn
/-- What a law keeps of a disk of four pages. -/
structure FourJ (c : Nat) (D : DM) (now : List UInt8) : Prop where
  fine : Fine c D
  calm : Calm D
  len : D.st.length = 4
  now4 : now.length = 4
  all : allV D = now.map pg
def G4' (lim : Int) : DM := ⟨[page0, page0, page0, page0], [], lim, -1, false⟩
theorem g4_good (lim : Int) (h : 4 ≤ lim ∧ lim ≤ 200) : goodF [] lim = true := by simp [goodF]; omega
theorem g4_grow (lim : Int) (h : 4 ≤ lim ∧ lim ≤ 200) : growM (newD [] lim) 4 = (G4' lim, 0) := by
  unfold growM
  rw [if_neg (by simp [newD]), if_neg (by omega), if_neg (by simp only [newD]; omega), if_neg (by simp [newD])]
  simp [newD, G4', growL, burn, List.replicate]
theorem fourJ_zero (lim : Int) (h : 4 ≤ lim ∧ lim ≤ 200) : FourJ 0 (G4' lim) [0, 0, 0, 0] := by
  have h1 := (fine_new [] lim (g4_good lim h)).grow 4
  rw [g4_grow lim h] at h1
  exact ⟨h1, ⟨rfl, rfl⟩, rfl, rfl, rfl⟩
theorem FourJ.write {c : Nat} {D : DM} {now : List UInt8} (h : FourJ c D now) (x : Nat) (u : UInt8) (hx : x < 4) : writeM D x (pg u) = ({ D with wt := D.wt ++ [(x, pg u)] }, 0) ∧ FourJ (c + 1) { D with wt := D.wt ++ [(x, pg u)] } (now.set x u) := by
  have h1 := write_yes h.calm x (pg u) (by rw [h.len]; exact hx) (pg_size u)
  have h2 := h.fine.write x (pg u)
  rw [h1] at h2
  exact ⟨h1, h2, ⟨h.calm.down, h.calm.fuse⟩, h.len, by rw [List.length_set]; exact h.now4, by rw [allV_write, h.all, List.map_set]⟩
theorem crash_empty (pages : List ByteArray) (lim : Int) (ch : List Nat) : crashM (newD pages lim) ch = newD pages lim := by simp [crashM, newD, crashL]
theorem allV_new (pages : List ByteArray) (lim : Int) : allV (newD pages lim) = pages := rfl
theorem good_pages (now : List UInt8) (lim : Int) (h : 1 ≤ lim ∧ lim ≤ 200) (hn : (now.length : Int) ≤ lim) : goodF (now.map pg) lim = true := by
  simp only [goodF, Bool.and_eq_true, decide_eq_true_eq, Bool.not_eq_true', List.any_eq_false]
  refine ⟨⟨h, by simpa using hn⟩, fun s hs => ?_⟩
  obtain ⟨u, _, rfl⟩ := List.mem_map.1 hs
  simp [badP, pg_size]
end Go.Proofs.Ytofmlmgdbcjeoaa.Dsk
