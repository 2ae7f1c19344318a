/- What this text proves: how a disk lies in memory; what its small functions come to. -/
import Derived.Test.YtofmlmgdbcjeoaaBase
import Derived.Deep.RegionHeld3
import Derived.Deep.DeepCutAuto
import Derived.Laws.OwnMore
import Derived.OwnWalk
import Derived.Maps.AppendAt
namespace Go.Proofs.Ytofmlmgdbcjeoaa.Dsk
open Go Go.RowKit Go.Proofs.Ytofmlmgdbcjeoaa.Base

/-- A disk: stable pages, what waits, the limit, the fuse, whether it is down. -/
structure DM where
  st : List ByteArray
  wt : List (Nat × ByteArray)
  lim : Int
  fuse : Int
  down : Bool
def strs (l : List ByteArray) : List Value := l.map Value.string
def wcell (x : Nat × ByteArray) : List Value := [.int .i64 x.1, .string x.2]
def wcells (l : List (Nat × ByteArray)) : List Value := l.flatMap wcell
/-- The disk's struct lies in block g, its rows in blocks of their own, all from B on. -/
def IsD (B : Nat) (w : World) (g : Nat) (D : DM) : Prop :=
  B ≤ g ∧ ∃ v1 v2, Blk w g 71 [v1, v2, .int .i64 D.lim, .int .i64 D.fuse, .bool D.down] ∧ w.ownsRow B 9 1 v1 D.st.length (strs D.st) ∧ w.ownsRow B 76 2 v2 D.wt.length (wcells D.wt)
def ptr (g : Nat) : Value := .pointer (some ⟨g, 0, none⟩)

/-! ### How it is kept -/
theorem own_form {w : World} {B : Nat} {e : TypeId} {size n : Nat} {v : Value} {xs : List Value} (h : w.ownsRow B e size v n xs) : ∃ A c, v = .slice A n c := by
  rcases h.2 with ⟨rfl, e⟩ | ⟨g', cap, cur, rfl, _⟩
  · exact ⟨none, 0, by rw [e]⟩
  · exact ⟨_, cap, rfl⟩
theorem own_cell {w : World} {B : Nat} {e : TypeId} {size n : Nat} {A : Option Addr} {c : Nat} {xs : List Value} (h : w.ownsRow B e size (.slice A n c) n xs) (hn : 0 < n) : ∃ b, A = some ⟨b, 0, none⟩ ∧ B ≤ b ∧ ∀ j, j < n * size → w.cell? ⟨b, j, none⟩ = xs[j]? := by
  rcases h.2 with ⟨_, e⟩ | ⟨g', cap, cur, hv, hb, _⟩
  · omega
  · injection hv with hA _ hc
    subst hA hc
    exact ⟨g', rfl, hb, fun j hj => h.cellAt j hj⟩
theorem own_lt {w : World} {B : Nat} {e : TypeId} {size n : Nat} {v : Value} {xs : List Value} (h : w.ownsRow B e size v n xs) (k : Nat) (hk : v.ownBlock = some k) : B ≤ k ∧ k < w.heap.size := by
  rcases h.2 with ⟨rfl, _⟩ | ⟨g, cap, cur, rfl, hb, hh, _⟩
  · simp [Value.ownBlock] at hk
  · have : g = k := by simpa [Value.ownBlock] using hk
    subst this
    exact ⟨hb, (Array.getElem?_eq_some_iff.1 hh).1⟩
theorem own_below {w w1 : World} {B : Nat} {e : TypeId} {size n : Nat} {v : Value} {xs : List Value} (h : w.ownsRow B e size v n xs) (hb : Below w.heap.size w w1) : w1.ownsRow B e size v n xs :=
  h.kept (row := none) ⟨hb.os, hb.tape, hb.output, hb.size, fun i hi _ => hb.block i hi⟩ (by cases v.ownBlock <;> simp)
theorem own_blk_ne {w : World} {B g : Nat} {e t : TypeId} {size n : Nat} {v : Value} {xs cs : List Value} (h : w.ownsRow B e size v n xs) (hg : Blk w g t cs) (hne : e ≠ t) : v.ownBlock ≠ some g := by
  rcases h.2 with ⟨rfl, _⟩ | ⟨g', cap, cur, rfl, _, hh, _⟩
  · simp [Value.ownBlock]
  · intro he
    have : g' = g := by simpa [Value.ownBlock] using he
    subst this
    unfold Blk at hg
    rw [hh] at hg
    injection hg with hg
    injection hg with _ ht
    exact hne ht
theorem own_own_ne {w : World} {B B' : Nat} {e e' : TypeId} {size n size' n' : Nat} {v v' : Value} {xs xs' : List Value} (h : w.ownsRow B e size v n xs) (h' : w.ownsRow B' e' size' v' n' xs') (hne : e ≠ e') : v.ownBlock = none ∨ v.ownBlock ≠ v'.ownBlock := by
  rcases h.2 with ⟨rfl, _⟩ | ⟨g, cap, cur, rfl, _, hh, _⟩
  · exact .inl rfl
  · refine .inr fun hk => ?_
    rcases h'.2 with ⟨rfl, _⟩ | ⟨g', cap', cur', rfl, _, hh', _⟩
    · simp [Value.ownBlock] at hk
    · have : g = g' := by simpa [Value.ownBlock] using hk
      subst this
      rw [hh] at hh'
      injection hh' with hh'
      injection hh' with _ ht
      exact hne ht
theorem own_set_far {w : World} {B g : Nat} {e : TypeId} {size n : Nat} {v : Value} {xs : List Value} (h : w.ownsRow B e size v n xs) (hne : v.ownBlock ≠ some g) (i : Nat) (u : Value) : (w.setCell ⟨g, i, none⟩ u).ownsRow B e size v n xs :=
  h.kept (row := some g) ⟨rfl, rfl, rfl, by simp [World.setCell], fun k _ hk => Below.heap_setCell w ⟨g, i, none⟩ u k (fun e => hk (congrArg some e))⟩ (.inr hne)
theorem IsD.below {B g : Nat} {w w1 : World} {D : DM} (h : IsD B w g D) (hb : Below w.heap.size w w1) : IsD B w1 g D := by
  obtain ⟨hB, v1, v2, hk, h1, h2⟩ := h
  exact ⟨hB, v1, v2, hk.step hb, own_below h1 hb, own_below h2 hb⟩
theorem IsD.alloc {B g : Nat} {w : World} {D : DM} (h : IsD B w g D) (o : Obj) : IsD B (w.alloc o) g D := h.below (bel_alloc (Below.refl _ _) o)
theorem IsD.drew {B g : Nat} {w : World} {D : DM} (h : IsD B w g D) : IsD B w.drew g D := h.below (bel_drew (Below.refl _ _))
/-- The fuse or the mark 'down' is written. -/
theorem IsD.fuse {B g : Nat} {w : World} {D : DM} (h : IsD B w g D) (x : Int) : IsD B (w.setCell ⟨g, 3, none⟩ (.int .i64 x)) g { D with fuse := x } := by
  obtain ⟨hB, v1, v2, hk, h1, h2⟩ := h
  exact ⟨hB, v1, v2, hk.set_ 3 _, own_set_far h1 (own_blk_ne h1 hk (by decide)) _ _, own_set_far h2 (own_blk_ne h2 hk (by decide)) _ _⟩
theorem IsD.setDown {B g : Nat} {w : World} {D : DM} (h : IsD B w g D) (b : Bool) : IsD B (w.setCell ⟨g, 4, none⟩ (.bool b)) g { D with down := b } := by
  obtain ⟨hB, v1, v2, hk, h1, h2⟩ := h
  exact ⟨hB, v1, v2, hk.set_ 4 _, own_set_far h1 (own_blk_ne h1 hk (by decide)) _ _, own_set_far h2 (own_blk_ne h2 hk (by decide)) _ _⟩
theorem IsD.lt {B g : Nat} {w : World} {D : DM} (h : IsD B w g D) : g < w.heap.size := h.2.elim fun _ h => h.elim fun _ h => h.1.lt
/-- What lay below B is as it was. -/
theorem low_set {B g : Nat} {w W : World} (h : Below B w W) (hg : B ≤ g) (i : Nat) (u : Value) : Below B w (W.setCell ⟨g, i, none⟩ u) := h.setCell (p := ⟨g, i, none⟩) hg u
theorem low_then {B : Nat} {w w1 w2 : World} (h : Below B w w1) (hB : B ≤ w1.heap.size) (k : Below w1.heap.size w1 w2) : Below B w w2 := h.trans (k.mono hB)

/-! ### Length, Limit, there, Fuse -/
theorem length_calls (B g : Nat) (D : DM) (w : World) (h : IsD B w g D) :
    Calls Try.prog 26 #[.pointer (some ⟨g, 0, none⟩)] w fun e w' => e = .returned (.int .i64 D.st.length) ∧ w = w' := by
  obtain ⟨hB, v1, v2, hb, h1, h2⟩ := h
  have c0 := hb.cell 0
  obtain ⟨A, c, rfl⟩ := own_form h1
  go_enter Try.func26, Try.ntmps26
  go_wp2
  go_ret
  exact ⟨rfl, rfl⟩
theorem limit_calls (B g : Nat) (D : DM) (w : World) (h : IsD B w g D) :
    Calls Try.prog 25 #[.pointer (some ⟨g, 0, none⟩)] w fun e w' => e = .returned (.int .i64 D.lim) ∧ w = w' := by
  obtain ⟨hB, v1, v2, hb, h1, h2⟩ := h
  have c2 := hb.cell 2
  go_enter Try.func25, Try.ntmps25
  go_wp2
  go_ret
  exact ⟨rfl, rfl⟩
theorem there_calls (B g : Nat) (D : DM) (x : Int) (w : World) (h : IsD B w g D) :
    Calls Try.prog 41 #[.pointer (some ⟨g, 0, none⟩), .int .i64 x] w fun e w' => e = .returned (.bool (decide (0 ≤ x ∧ x < D.st.length))) ∧ w = w' := by
  obtain ⟨hB, v1, v2, hb, h1, h2⟩ := h
  have c0 := hb.cell 0
  obtain ⟨A, c, rfl⟩ := own_form h1
  generalize D.st.length = n at *
  by_cases hx : 0 ≤ x
  · have H : Hid (decide (0 ≤ x ∧ x < (n : Int)) = decide (x < n)) := by simp [Hid, hx]
    have hx' : decide (0 ≤ x) = true := decide_eq_true hx
    clear hx h1 h2
    go_enter Try.func41, Try.ntmps41
    go_wp2
    go_ret
    exact ⟨by rw [H.out]; rfl, rfl⟩
  · have H : Hid (decide (0 ≤ x ∧ x < (n : Int)) = false) := by simp [Hid, hx]
    have hx' : decide (0 ≤ x) = false := decide_eq_false hx
    clear hx h1 h2
    go_enter Try.func41, Try.ntmps41
    go_wp2
    go_ret
    exact ⟨by rw [H.out]; rfl, rfl⟩
theorem fuse_calls (B g : Nat) (D : DM) (x : Int) (w : World) (h : IsD B w g D) :
    Calls Try.prog 18 #[.pointer (some ⟨g, 0, none⟩), .int .i64 x] w fun e w' => e = .returned (.tuple #[]) ∧ IsD B w' g { D with fuse := max x (-1) } ∧ Below B w w' := by
  by_cases hx : x < -1
  · rw [show max x (-1) = -1 by omega]
    have HF := Lib.hid (h.fuse (-1))
    obtain ⟨hB, v1, v2, hb, h1, h2⟩ := h
    have c3 := hb.cell 3
    have f3 := hb.frozen 3
    have HB := Lib.hid (low_set (Below.refl B w) hB 3 (.int .i64 (-1)))
    clear h1 h2 hb
    go_enter Try.func18, Try.ntmps18
    go_wp2
    go_end0
    exact ⟨rfl, HF.out, HB.out⟩
  · rw [show max x (-1) = x by omega]
    have HF := Lib.hid (h.fuse x)
    obtain ⟨hB, v1, v2, hb, h1, h2⟩ := h
    have c3 := hb.cell 3
    have f3 := hb.frozen 3
    have HB := Lib.hid (low_set (Below.refl B w) hB 3 (.int .i64 x))
    clear h1 h2 hb
    go_enter Try.func18, Try.ntmps18
    go_wp2
    go_end0
    exact ⟨rfl, HF.out, HB.out⟩

/-! ### acts -/
theorem acts_no (B g : Nat) (D : DM) (f : Nat) (cs : Array Value) (w : World) (h : IsD B w g D) (h0 : D.fuse = 0) :
    Calls Try.prog 38 #[.pointer (some ⟨g, 0, none⟩), .func (.func f) #[] cs] w fun e w' => e = .returned (.int .i64 2) ∧ IsD B w' g { D with down := true } ∧ Below B w w' := by
  have HF := Lib.hid (h.setDown true)
  obtain ⟨hB, v1, v2, hb, h1, h2⟩ := h
  rw [h0] at hb
  have c3 := hb.cell 3
  have c4 := hb.cell 4
  have f4 := hb.frozen 4
  have HB := Lib.hid (low_set (Below.refl B w) hB 4 (.bool true))
  clear h1 h2 hb h0
  go_enter Try.func38, Try.ntmps38
  go_wp2
  go_ret
  exact ⟨rfl, HF.out, HB.out⟩
/-- The fuse behind an action. -/
def burn (x : Int) : Int := if 0 < x then x - 1 else x
theorem acts_yes (B g : Nat) (D : DM) (f : Nat) (cs : Array Value) (w : World) (h : IsD B w g D) (h0 : D.fuse ≠ 0) (hr : D.fuse ≤ 9223372036854775807) (hfn : ∀ a W, (callFunc f a).run Try.prog W = .ok (.enter f a) W) {Q : World → Prop}
    (hq : ∀ W, IsD B W g { D with fuse := burn D.fuse } → Below B w W → w.heap.size = W.heap.size → (∀ k, k ≠ g → W.heap[k]? = w.heap[k]?) → Calls Try.prog f cs W fun e w' => e = .returned (.tuple #[]) ∧ Q w') :
    Calls Try.prog 38 #[.pointer (some ⟨g, 0, none⟩), .func (.func f) #[] cs] w fun e w' => e = .returned (.int .i64 0) ∧ Q w' := by
  have hz : (D.fuse == 0) = false := beq_eq_false_iff_ne.2 h0
  by_cases hx : 0 < D.fuse
  · have HF := h.fuse (D.fuse - 1)
    rw [show D.fuse - 1 = burn D.fuse by unfold burn; rw [if_pos hx]] at HF
    have hq1 := hq _ HF (low_set (Below.refl B w) h.1 3 _) (by simp [World.setCell]) (fun k hk => Below.heap_setCell w ⟨g, 3, none⟩ _ k hk)
    rw [show burn D.fuse = D.fuse - 1 by unfold burn; rw [if_pos hx]] at hq1
    obtain ⟨hB, v1, v2, hb, h1, h2⟩ := h
    have c3 := hb.cell 3
    have f3 := hb.frozen 3
    have HQ := Lib.hid hq1
    clear h1 h2 hb h0 hq1 hq HF
    generalize D.fuse = x at *
    go_enter Try.func38, Try.ntmps38
    go_wp2_with fail
    ((with_reducible refine HQ.out.mono ?_); rintro e w1 ⟨rfl, hQ⟩)
    go_wp2_with fail
    go_ret
    exact ⟨rfl, hQ⟩
  · have HF : IsD B w g { D with fuse := burn D.fuse } := by
      rw [show burn D.fuse = D.fuse by unfold burn; rw [if_neg hx]]
      exact h
    have hq1 := hq _ HF (Below.refl B w) rfl (fun _ _ => rfl)
    have hx' : decide (0 < D.fuse) = false := decide_eq_false hx
    obtain ⟨hB, v1, v2, hb, h1, h2⟩ := h
    have c3 := hb.cell 3
    have HQ := Lib.hid hq1
    clear h1 h2 hb h0 hq1 hq HF hx
    generalize D.fuse = x at *
    go_enter Try.func38, Try.ntmps38
    go_wp2_with fail
    ((with_reducible refine HQ.out.mono ?_); rintro e w1 ⟨rfl, hQ⟩)
    go_wp2_with fail
    go_ret
    exact ⟨rfl, hQ⟩
end Go.Proofs.Ytofmlmgdbcjeoaa.Dsk
