/- What this text proves: a disk whose blocks lie in a given set; what its small functions leave of all other blocks. -/
import Derived.Test.YtofmlmgdbcjeoaaDskY
namespace Go.Proofs.Ytofmlmgdbcjeoaa.Dsk
open Go Go.RowKit Go.Proofs Go.Proofs.Ytofmlmgdbcjeoaa.Base
set_option linter.unusedSimpArgs false

/-- Outside the set F no block that was there has changed. -/
structure Within (F : Nat → Prop) (w w' : World) : Prop where
  os : w'.os = w.os
  tape : w'.tape = w.tape
  output : w'.output = w.output
  size : w.heap.size ≤ w'.heap.size
  block : ∀ k, k < w.heap.size → ¬ F k → w'.heap[k]? = w.heap[k]?
theorem Within.refl (F : Nat → Prop) (w : World) : Within F w w := ⟨rfl, rfl, rfl, Nat.le_refl _, fun _ _ _ => rfl⟩
theorem Within.trans {F : Nat → Prop} {a b c : World} (h : Within F a b) (k : Within F b c) : Within F a c :=
  ⟨k.os.trans h.os, k.tape.trans h.tape, k.output.trans h.output, Nat.le_trans h.size k.size, fun i hi hF => (k.block i (Nat.lt_of_lt_of_le hi h.size) hF).trans (h.block i hi hF)⟩
theorem Within.bel {F : Nat → Prop} {a b : World} (h : Below a.heap.size a b) : Within F a b := ⟨h.os, h.tape, h.output, h.size, fun k hk _ => h.block k hk⟩
theorem Within.then {F : Nat → Prop} {a b c : World} (h : Within F a b) (k : Below b.heap.size b c) : Within F a c := h.trans (Within.bel k)
theorem Within.set {F : Nat → Prop} {a b : World} (h : Within F a b) {g : Nat} (hg : F g) (i : Nat) (u : Value) : Within F a (b.setCell ⟨g, i, none⟩ u) :=
  h.trans ⟨rfl, rfl, rfl, by simp [World.setCell], fun k _ hk => Below.heap_setCell _ ⟨g, i, none⟩ _ _ (fun e => hk (by rw [show k = g from e]; exact hg))⟩
theorem Within.alloc {F : Nat → Prop} {a b : World} (h : Within F a b) (o : Obj) : Within F a (b.alloc o) := h.then (bel_alloc (Below.refl _ _) o)
theorem Within.drew {F : Nat → Prop} {a b : World} (h : Within F a b) : Within F a b.drew := h.then (bel_drew (Below.refl _ _))
theorem Within.drewN {F : Nat → Prop} {a b : World} (h : Within F a b) (n : Nat) : Within F a (b.drewN n) := h.then (bel_drewN (Below.refl _ _) n)
theorem Within.grown {F : Nat → Prop} {a b c : World} {row : Option Nat} (h : Within F a b) (hg : b.grownBy c row) (hr : ∀ k, row = some k → F k) : Within F a c :=
  h.trans ⟨hg.os, hg.tape, hg.output, hg.size, fun k hk hF => hg.block k hk (fun e => hF (hr k e.symm))⟩
theorem Within.mono {F F' : Nat → Prop} {a b : World} (h : Within F a b) (hF : ∀ k, k < a.heap.size → F k → F' k) : Within F' a b :=
  ⟨h.os, h.tape, h.output, h.size, fun k hk hn => h.block k hk (fun e => hn (hF k hk e))⟩
theorem Within.below {F : Nat → Prop} {B : Nat} {a b : World} (h : Within F a b) (hB : B ≤ a.heap.size) (hF : ∀ k, F k → B ≤ k) : Below B a b :=
  ⟨h.os, h.tape, h.output, h.size, fun k hk => h.block k (by omega) (fun e => by have := hF k e; omega)⟩
theorem Within.blk {F : Nat → Prop} {a b : World} {g : Nat} {t : TypeId} {cs : List Value} (h : Within F a b) (hb : Blk a g t cs) (hg : ¬ F g) : Blk b g t cs := (h.block g hb.lt hg).trans hb

/-- The disk's struct lies in block g, its rows in blocks of their own, all in F. -/
def IsF (F : Nat → Prop) (w : World) (g : Nat) (D : DM) : Prop :=
  F g ∧ ∃ v1 v2, Blk w g 71 [v1, v2, .int .i64 D.lim, .int .i64 D.fuse, .bool D.down] ∧ w.ownsRow 0 9 1 v1 D.st.length (strs D.st) ∧ w.ownsRow 0 76 2 v2 D.wt.length (wcells D.wt) ∧ (∀ k, v1.ownBlock = some k → F k) ∧ (∀ k, v2.ownBlock = some k → F k)
theorem own_base {w : World} {B B' : Nat} {e : TypeId} {size n : Nat} {v : Value} {xs : List Value} (h : w.ownsRow B e size v n xs) (hB : ∀ k, v.ownBlock = some k → B' ≤ k) : w.ownsRow B' e size v n xs :=
  ⟨h.1, h.2.imp id fun ⟨g, cap, cur, e, _, r⟩ => ⟨g, cap, cur, e, hB g (by rw [e]; rfl), r⟩⟩
theorem own_kept {w w1 : World} {B : Nat} {e : TypeId} {size n : Nat} {v : Value} {xs : List Value} (h : w.ownsRow B e size v n xs) (hk : ∀ k, v.ownBlock = some k → w1.heap[k]? = w.heap[k]?) : w1.ownsRow B e size v n xs :=
  ⟨h.1, h.2.imp id fun ⟨g, cap, cur, e, hb, hh, r⟩ => ⟨g, cap, cur, e, hb, (hk g (by rw [e]; rfl)).trans hh, r⟩⟩
section
variable {F : Nat → Prop} {w w1 : World} {g : Nat} {D : DM}
theorem IsF.isD (h : IsF F w g D) : IsD 0 w g D := by
  obtain ⟨_, v1, v2, hb, h1, h2, _, _⟩ := h
  exact ⟨Nat.zero_le _, v1, v2, hb, h1, h2⟩
theorem IsD.isF {B : Nat} (h : IsD B w g D) (hF : ∀ k, B ≤ k → k < w.heap.size → F k) : IsF F w g D := by
  obtain ⟨hB, v1, v2, hb, h1, h2⟩ := h
  exact ⟨hF g hB hb.lt, v1, v2, hb, own_base h1 (fun _ _ => Nat.zero_le _), own_base h2 (fun _ _ => Nat.zero_le _), fun k hk => hF k (own_lt h1 k hk).1 (own_lt h1 k hk).2, fun k hk => hF k (own_lt h2 k hk).1 (own_lt h2 k hk).2⟩
theorem IsF.lt (h : IsF F w g D) : g < w.heap.size := h.isD.lt
theorem IsF.mono {F' : Nat → Prop} (h : IsF F w g D) (hF : ∀ k, k < w.heap.size → F k → F' k) : IsF F' w g D := by
  obtain ⟨hB, v1, v2, hb, h1, h2, hF1, hF2⟩ := h
  exact ⟨hF g hb.lt hB, v1, v2, hb, h1, h2, fun k hk => hF k (own_lt h1 k hk).2 (hF1 k hk), fun k hk => hF k (own_lt h2 k hk).2 (hF2 k hk)⟩
theorem IsF.keep (h : IsF F w g D) (hk : ∀ k, k < w.heap.size → F k → w1.heap[k]? = w.heap[k]?) : IsF F w1 g D := by
  obtain ⟨hB, v1, v2, hb, h1, h2, hF1, hF2⟩ := h
  exact ⟨hB, v1, v2, (hk g hb.lt hB).trans hb, own_kept h1 (fun k e => hk k (own_lt h1 k e).2 (hF1 k e)), own_kept h2 (fun k e => hk k (own_lt h2 k e).2 (hF2 k e)), hF1, hF2⟩
theorem IsF.below (h : IsF F w g D) (hb : Below w.heap.size w w1) : IsF F w1 g D := h.keep fun k hk _ => hb.block k hk
theorem IsF.within {F' : Nat → Prop} (h : IsF F w g D) (hb : Within F' w w1) (hd : ∀ k, F k → ¬ F' k) : IsF F w1 g D := h.keep fun k hk hF => hb.block k hk (hd k hF)
theorem IsF.alloc (h : IsF F w g D) (o : Obj) : IsF F (w.alloc o) g D := h.below (bel_alloc (Below.refl _ _) o)
theorem IsF.drew (h : IsF F w g D) : IsF F w.drew g D := h.below (bel_drew (Below.refl _ _))
theorem IsF.drewN (h : IsF F w g D) (n : Nat) : IsF F (w.drewN n) g D := h.below (bel_drewN (Below.refl _ _) n)
theorem IsF.fuse (h : IsF F w g D) (x : Int) : IsF F (w.setCell ⟨g, 3, none⟩ (.int .i64 x)) g { D with fuse := x } := by
  obtain ⟨hB, v1, v2, hk, h1, h2, hF1, hF2⟩ := h
  exact ⟨hB, v1, v2, hk.set_ 3 _, own_set_far h1 (own_blk_ne h1 hk (by decide)) _ _, own_set_far h2 (own_blk_ne h2 hk (by decide)) _ _, hF1, hF2⟩
theorem IsF.setDown (h : IsF F w g D) (b : Bool) : IsF F (w.setCell ⟨g, 4, none⟩ (.bool b)) g { D with down := b } := by
  obtain ⟨hB, v1, v2, hk, h1, h2, hF1, hF2⟩ := h
  exact ⟨hB, v1, v2, hk.set_ 4 _, own_set_far h1 (own_blk_ne h1 hk (by decide)) _ _, own_set_far h2 (own_blk_ne h2 hk (by decide)) _ _, hF1, hF2⟩
end
theorem fuseF (F : Nat → Prop) (g : Nat) (D : DM) (x : Int) (w : World) (h : IsF F w g D) :
    Calls Try.prog 18 #[.pointer (some ⟨g, 0, none⟩), .int .i64 x] w fun e w' => e = .returned (.tuple #[]) ∧ IsF F w' g { D with fuse := max x (-1) } ∧ Within F w w' := by
  have HF := Lib.hid (h.fuse (max x (-1)))
  obtain ⟨hB, v1, v2, hb, h1, h2, hF1, hF2⟩ := h
  have c3 := hb.cell 3
  have f3 := hb.frozen 3
  have HB := Lib.hid (Within.set (Within.refl F w) hB 3 (.int .i64 (max x (-1))))
  clear h1 h2 hb hF1 hF2
  go_enter Try.func18, Try.ntmps18
  go_wp2
  go_end0
  exact ⟨rfl, HF.out, HB.out⟩
theorem acts_noF (F : Nat → Prop) (g : Nat) (D : DM) (f : Nat) (cs : Array Value) (w : World) (h : IsF F w g D) (h0 : D.fuse = 0) :
    Calls Try.prog 38 #[.pointer (some ⟨g, 0, none⟩), .func (.func f) #[] cs] w fun e w' => e = .returned (.int .i64 2) ∧ IsF F w' g { D with down := true } ∧ Within F w w' := by
  have HF := Lib.hid (h.setDown true)
  obtain ⟨hB, v1, v2, hb, h1, h2, hF1, hF2⟩ := h
  rw [h0] at hb
  have c3 := hb.cell 3
  have c4 := hb.cell 4
  have f4 := hb.frozen 4
  have HB := Lib.hid (Within.set (Within.refl F w) hB 4 (.bool true))
  clear h1 h2 hF1 hF2 hb h0
  go_enter Try.func38, Try.ntmps38
  go_wp2
  go_ret
  exact ⟨rfl, HF.out, HB.out⟩
theorem acts_yesF (F : Nat → Prop) (g : Nat) (D : DM) (f : Nat) (cs : Array Value) (w : World) (h : IsF F w g D) (h0 : D.fuse ≠ 0) (hr : D.fuse ≤ 9223372036854775807) (hfn : ∀ a W, (callFunc f a).run Try.prog W = .ok (.enter f a) W) {Q : World → Prop}
    (hq : ∀ W, IsF F W g { D with fuse := burn D.fuse } → Within F w W → w.heap.size = W.heap.size → (∀ k, k ≠ g → W.heap[k]? = w.heap[k]?) → Calls Try.prog f cs W fun e w' => e = .returned (.tuple #[]) ∧ Q w') :
    Calls Try.prog 38 #[.pointer (some ⟨g, 0, none⟩), .func (.func f) #[] cs] w fun e w' => e = .returned (.int .i64 0) ∧ Q w' := by
  have hz : (D.fuse == 0) = false := beq_eq_false_iff_ne.2 h0
  by_cases hx : 0 < D.fuse
  · have HF := h.fuse (D.fuse - 1)
    rw [show D.fuse - 1 = burn D.fuse by unfold burn; rw [if_pos hx]] at HF
    have hq1 := hq _ HF (Within.set (Within.refl F w) h.1 3 _) (by simp [World.setCell]) (fun k hk => Below.heap_setCell w ⟨g, 3, none⟩ _ k hk)
    rw [show burn D.fuse = D.fuse - 1 by unfold burn; rw [if_pos hx]] at hq1
    obtain ⟨hB, v1, v2, hb, h1, h2, hF1, hF2⟩ := h
    have c3 := hb.cell 3
    have f3 := hb.frozen 3
    have HQ := Lib.hid hq1
    clear h1 h2 hF1 hF2 hb h0 hq1 hq HF
    generalize D.fuse = x at *
    go_enter Try.func38, Try.ntmps38
    go_wp2_with fail
    ((with_reducible refine HQ.out.mono ?_); rintro e w1 ⟨rfl, hQ⟩)
    go_wp2_with fail
    go_ret
    exact ⟨rfl, hQ⟩
  · have HF : IsF F w g { D with fuse := burn D.fuse } := by
      rw [show burn D.fuse = D.fuse by unfold burn; rw [if_neg hx]]
      exact h
    have hq1 := hq _ HF (Within.refl F w) rfl (fun _ _ => rfl)
    have hx' : decide (0 < D.fuse) = false := decide_eq_false hx
    obtain ⟨hB, v1, v2, hb, h1, h2, hF1, hF2⟩ := h
    have c3 := hb.cell 3
    have HQ := Lib.hid hq1
    clear h1 h2 hF1 hF2 hb h0 hq1 hq HF hx
    generalize D.fuse = x at *
    go_enter Try.func38, Try.ntmps38
    go_wp2_with fail
    ((with_reducible refine HQ.out.mono ?_); rintro e w1 ⟨rfl, hQ⟩)
    go_wp2_with fail
    go_ret
    exact ⟨rfl, hQ⟩
end Go.Proofs.Ytofmlmgdbcjeoaa.Dsk
