/- What this text proves: pages for lists, in plain words; how it stands in Lists' memory. -/
import Derived.Test.YtgpnceaplakemaaAlD
namespace Go.Proofs.Ytgpnceaplakemaa.Hp
open Go Go.RowKit Go.ChangeShapes Go.Maps Go.Proofs.Ytgpnceaplakemaa.Base Go.Proofs.Ytgpnceaplakemaa.Own
set_option linter.unusedSimpArgs false

/-- Pages are taken for lists till these are enough: what is free, the length, what is taken, the lists. -/
def lsGo (cap : Int) : Nat → List Int → Int → List Int → List Int → Option (List Int × Int × List Int × List Int)
  | 0, free, len, T, ls => if 20 * ls.length < (leftL T len).length then none else some (free, len, T, ls)
  | f + 1, free, len, T, ls =>
    if 20 * ls.length < (leftL T len).length then
      match free with
      | a :: r => lsGo cap f r len (T ++ [a]) (ls ++ [a])
      | [] => if len < cap then lsGo cap f [] (len + 1) (T ++ [len]) (ls ++ [len]) else none
    else some (free, len, T, ls)
def fuelL (free : List Int) (len cap : Int) : Nat := free.length + (cap - len).toNat
theorem goodL_low {len : Int} : ∀ {l : List Int} {a b : Int}, b ≤ a → goodL len a l = true → goodL len b l = true
  | [], _, _, _, _ => rfl
  | v :: r, a, b, h, hg => by
    simp only [goodL, Bool.and_eq_true, decide_eq_true_eq] at hg ⊢
    exact ⟨⟨by omega, hg.1.2⟩, hg.2⟩
theorem aGood_tail {a : Int} {r : List Int} {len cap : Int} (h : aGood (a :: r) len cap = true) : aGood r len cap = true := by
  obtain ⟨h1, h2, h3, h4⟩ := aGood_iff.1 h
  simp only [goodL, Bool.and_eq_true, decide_eq_true_eq] at h4
  exact aGood_iff.2 ⟨h1, h2, h3, goodL_low (by omega) h4.2⟩
theorem aGood_more {len cap : Int} (h : aGood [] len cap = true) (hl : len < cap) : aGood [] (len + 1) cap = true := by
  obtain ⟨h1, h2, h3, h4⟩ := aGood_iff.1 h
  exact aGood_iff.2 ⟨by omega, by omega, h3, rfl⟩
theorem lsGo_done {cap len : Int} {free T ls : List Int} {f : Nat} (h : ¬ 20 * ls.length < (leftL T len).length) : lsGo cap f free len T ls = some (free, len, T, ls) := by
  cases f <;> simp [lsGo, h]
theorem lsGo_pop {cap len a : Int} {r T ls : List Int} {f : Nat} (hf : f = fuelL (a :: r) len cap) (h : 20 * ls.length < (leftL T len).length) : lsGo cap f (a :: r) len T ls = lsGo cap (fuelL r len cap) r len (T ++ [a]) (ls ++ [a]) := by
  subst hf
  rw [show fuelL (a :: r) len cap = fuelL r len cap + 1 by simp [fuelL]; omega, lsGo, if_pos h]
theorem lsGo_more {cap len : Int} {T ls : List Int} {f : Nat} (hf : f = fuelL [] len cap) (hl : len < cap) (h : 20 * ls.length < (leftL T len).length) : lsGo cap f [] len T ls = lsGo cap (fuelL [] (len + 1) cap) [] (len + 1) (T ++ [len]) (ls ++ [len]) := by
  subst hf
  rw [show fuelL [] len cap = fuelL [] (len + 1) cap + 1 by simp [fuelL]; omega, lsGo, if_pos h, if_pos hl]
theorem lsGo_none {cap len : Int} {T ls : List Int} {f : Nat} (hl : ¬ len < cap) (h : 20 * ls.length < (leftL T len).length) : lsGo cap f [] len T ls = none := by
  cases f <;> simp [lsGo, h, hl]

theorem own_ne_map {w : World} {B bm n : Nat} {T : List Int} {e : TypeId} {size m : Nat} {v : Value} {xs : List Value} (h : w.ownsRow B e size v m xs) (ht : IsT w bm n T) : v.ownBlock ≠ some bm := by
  obtain ⟨D, ⟨es, clock, hb, _⟩, _⟩ := ht
  rcases h.2 with ⟨rfl, _⟩ | ⟨g, cap, cur, rfl, _, hh, _⟩
  · simp [Value.ownBlock]
  · intro e
    have : g = bm := by simpa [Value.ownBlock] using e
    subst this
    rw [hh] at hb
    cases hb
theorem blk_ne_map {w : World} {g bm n : Nat} {t : TypeId} {cs : List Value} {T : List Int} (h : Blk w g t cs) (ht : IsT w bm n T) : g ≠ bm := by
  obtain ⟨D, ⟨es, clock, hb, _⟩, _⟩ := ht
  rintro rfl
  unfold Blk at h
  rw [h] at hb
  cases hb
/-- How it stands in Lists. -/
structure LI (w wr : World) (bm n : Nat) (T : List Int) (vf : Value) (free : List Int) (x cap : Int) (vl : Value) (ls : List Int) : Prop where
  tk : IsT wr bm n T
  blk : Blk wr w.heap.size 41 [vf, .int .i64 x, .int .i64 cap]
  zer : Blk wr (w.heap.size + 1) 41 [.slice none 0 0, .int .i64 0, .int .i64 0]
  own : wr.ownsRow (w.heap.size + 2) 3 1 vf free.length (ints free)
  lst : wr.ownsRow (w.heap.size + 2) 3 1 vl ls.length (ints ls)
  nfl : vf.ownBlock = none ∨ vf.ownBlock ≠ vl.ownBlock
  bel : Below w.heap.size w wr
  siz : w.heap.size + 2 ≤ wr.heap.size
section
variable {w wr w1 : World} {bm n : Nat} {T T' : List Int} {vf vl v' : Value} {free ls free' ls' : List Int} {x x' cap : Int}
theorem LI.step (h : LI w wr bm n T vf free x cap vl ls) (hb : Below wr.heap.size wr w1) : LI w w1 bm n T vf free x cap vl ls :=
  ⟨h.tk.below hb, h.blk.step hb, h.zer.step hb, own_below h.own hb, own_below h.lst hb, h.nfl, bel_then h.bel hb, Nat.le_trans h.siz hb.size⟩
theorem LI.put (h : LI w wr bm n T vf free x cap vl ls) (ht : IsT w1 bm (n + 1) T') (hg : wr.grownBy w1 (some bm)) (hm : w.heap.size ≤ bm) : LI w w1 bm (n + 1) T' vf free x cap vl ls :=
  ⟨ht, h.blk.grown hg (fun e => blk_ne_map h.blk h.tk (by injection e)), h.zer.grown hg (fun e => blk_ne_map h.zer h.tk (by injection e)), h.own.kept hg (.inr (own_ne_map h.own h.tk)), h.lst.kept hg (.inr (own_ne_map h.lst h.tk)), h.nfl, Below.grown h.bel hg h.bel.size (fun k hk => by injection hk with hk; omega), Nat.le_trans h.siz hg.size⟩
theorem LI.app (h : LI w wr bm n T vf free x cap vl ls) {o : Obj} (ho : w1.ownsRow (w.heap.size + 2) 3 1 v' ls'.length (ints ls')) (hg : (wr.alloc o).grownBy w1 vl.ownBlock) (hv : v'.ownBlock = vl.ownBlock ∨ v'.ownBlock = some (wr.heap.size + 1)) : LI w w1 bm n T vf free x cap v' ls' := by
  have hsiz := h.siz
  have hne : ∀ k, k < w.heap.size + 2 → some k ≠ vl.ownBlock := fun k hk e => by have := (own_lt h.lst k e.symm).1; omega
  refine ⟨?_, (h.blk.alloc o).grown hg (hne _ (by omega)), (h.zer.alloc o).grown hg (hne _ (by omega)), (h.own.alloc o).kept hg h.nfl, ho, ?_, ?_, ?_⟩
  · exact (h.tk.alloc o).keep (hg.block bm (h.tk.alloc o).lt (fun e => own_ne_map h.lst h.tk e.symm))
  · rcases hv with e | e
    · rw [e]; exact h.nfl
    · refine .inr fun he => ?_
      rw [e] at he
      have := (own_lt h.own _ he).2
      omega
  · exact Below.grown (bel_alloc h.bel o) hg (by have := h.bel.size; simp; omega) (fun k hk => by have := (own_lt h.lst k hk).1; omega)
  · have := hg.size
    simp at this
    omega
theorem LI.take (h : LI w wr bm n T vf free x cap vl ls) (ho : wr.ownsRow (w.heap.size + 2) 3 1 v' free'.length (ints free')) (hn : v'.ownBlock = none ∨ v'.ownBlock ≠ vl.ownBlock) : LI w (wset3 wr w.heap.size v' (.int .i64 x') (.int .i64 cap)) bm n T v' free' x' cap vl ls := by
  have hsiz := h.siz
  have hb := blk_ne_map h.blk h.tk
  refine ⟨?_, blk_set3 h.blk _ _ _, blk_far3 h.zer (by simp) _ _ _, own_far3 ho (fun e => by have := (own_lt ho _ e).1; omega) _ _ _, own_far3 h.lst (fun e => by have := (own_lt h.lst _ e).1; omega) _ _ _, hn, bel_set3 h.bel (Nat.le_refl _) _ _ _, by simp [wset3, World.setCell]; omega⟩
  refine h.tk.keep ?_
  unfold wset3
  rw [Below.heap_setCell _ _ _ bm (Ne.symm hb), Below.heap_setCell _ _ _ bm (Ne.symm hb), Below.heap_setCell _ _ _ bm (Ne.symm hb)]
end
theorem own_rowOf {w : World} {B n c : Nat} {A : Option Addr} {l : List Int} (h : w.ownsRow B 3 1 (.slice A n c) n (ints l)) : RowOf w A c l := rowOf_own h
end Go.Proofs.Ytgpnceaplakemaa.Hp
