/- What this text proves: a disk stays fine: its pages are of 256 bytes, what waits goes to pages that there are. -/
import Derived.Test.YtofmlmgdbcjeoaaDskV
namespace Go.Proofs.Ytofmlmgdbcjeoaa.Dsk
open Go Go.RowKit Go.Proofs Go.Proofs.Ytofmlmgdbcjeoaa.Base

structure Fine (c : Nat) (D : DM) : Prop where
  wf : Wf D
  full : Full D.st
  fullw : FullW D.wt
  wl : D.wt.length ≤ c
  sl : D.st.length ≤ 200
  fu : D.fuse ≤ 9223372036854775807
  fl : -1 ≤ D.fuse
  li : D.lim ≤ 200
theorem burn_le {x : Int} (h : x ≤ 9223372036854775807) : burn x ≤ 9223372036854775807 := by unfold burn; split <;> omega
theorem le_burn {x : Int} (h : -1 ≤ x) : -1 ≤ burn x := by unfold burn; split <;> omega
theorem Fine.mono {c c' : Nat} {D : DM} (h : Fine c D) (hc : c ≤ c') : Fine c' D := ⟨h.wf, h.full, h.fullw, Nat.le_trans h.wl hc, h.sl, h.fu, h.fl, h.li⟩
theorem Fine.write {c : Nat} {D : DM} (h : Fine c D) (x : Int) (s : ByteArray) : Fine (c + 1) (writeM D x s).1 := by
  unfold writeM
  split
  · exact h.mono (by omega)
  split
  · exact h.mono (by omega)
  split
  · exact h.mono (by omega)
  rename_i h1 h2 h3
  have h2' : s.size = 256 := Decidable.not_not.1 h2
  have h3' : 0 ≤ x ∧ x < D.st.length := Decidable.not_not.1 h3
  split
  · exact ⟨h.wf, h.full, h.fullw, by have := h.wl; simp only; omega, h.sl, h.fu, h.fl, h.li⟩
  · refine ⟨?_, h.full, ?_, ?_, h.sl, burn_le h.fu, le_burn h.fl, h.li⟩
    · intro p hp
      rcases List.mem_append.1 hp with hp | hp
      · exact h.wf p hp
      · rw [List.mem_singleton.1 hp]; simp only; omega
    · intro p hp
      rcases List.mem_append.1 hp with hp | hp
      · exact h.fullw p hp
      · rw [List.mem_singleton.1 hp]; exact h2'
    · have := h.wl
      rw [List.length_append]
      simp
      omega
theorem full_put (wt : List (Nat × ByteArray)) (hw : FullW wt) : ∀ st : List ByteArray, Full st → Full (putW st wt) := by
  induction wt with
  | nil => intro st h; exact h
  | cons x l ih => intro st h; exact ih (fun p hp => hw p (List.mem_cons_of_mem _ hp)) _ (full_set h _ _ (hw x (List.mem_cons_self ..)))
theorem Fine.sync {c : Nat} {D : DM} (h : Fine c D) : Fine c (syncM D).1 := by
  unfold syncM
  split
  · exact h
  split
  · exact ⟨h.wf, h.full, h.fullw, h.wl, h.sl, h.fu, h.fl, h.li⟩
  · exact ⟨fun _ hp => absurd hp (by simp), full_put _ h.fullw _ h.full, fun _ hp => absurd hp (by simp), Nat.zero_le _, by simp only [putW_length]; exact h.sl, burn_le h.fu, le_burn h.fl, h.li⟩
theorem full_grow {st : List ByteArray} (h : Full st) (n : Nat) : Full (growL st n) := by
  intro s hs
  rcases List.mem_append.1 hs with hs | hs
  · exact h s hs
  · rw [List.eq_of_mem_replicate hs]; exact page0_size
theorem growL_length (st : List ByteArray) (n : Nat) : (growL st n).length = max st.length n := by
  simp [growL]
  omega
theorem Fine.grow {c : Nat} {D : DM} (h : Fine c D) (x : Int) : Fine c (growM D x).1 := by
  unfold growM
  split
  · exact h
  split
  · exact h
  split
  · exact h
  split
  · exact ⟨h.wf, h.full, h.fullw, h.wl, h.sl, h.fu, h.fl, h.li⟩
  · refine ⟨fun p hp => ?_, full_grow h.full _, h.fullw, h.wl, ?_, burn_le h.fu, le_burn h.fl, h.li⟩
    · have := h.wf p hp
      simp only [growL_length]
      omega
    · have := h.sl; have := h.li
      simp only [growL_length]
      omega
def crashM (D : DM) (ch : List Nat) : DM := { D with st := crashL D.st D.wt ch, wt := [], down := false, fuse := -1 }
theorem full_crash (l : List ((Nat × ByteArray) × Nat)) : ∀ st : List ByteArray, (∀ p ∈ l, p.1.1 < st.length ∧ p.1.2.size = 256) → Full st → Full (l.foldl crashStep st) := by
  induction l with
  | nil => intro st _ h; exact h
  | cons p l ih =>
    intro st hl h
    refine ih _ (fun q hq => ?_) (full_step h p (hl p (List.mem_cons_self ..)).1 (hl p (List.mem_cons_self ..)).2)
    rw [crashStep_length]
    exact hl q (List.mem_cons_of_mem _ hq)
theorem crashL_length (st : List ByteArray) (wt : List (Nat × ByteArray)) (ch : List Nat) : (crashL st wt ch).length = st.length := crash_fold_length _ _
theorem Fine.crash {c : Nat} {D : DM} (h : Fine c D) (ch : List Nat) : Fine c (crashM D ch) := by
  refine ⟨fun _ hp => absurd hp (by simp [crashM]), full_crash _ _ (fun p hp => ?_) h.full, fun _ hp => absurd hp (by simp [crashM]), Nat.zero_le _, ?_, by simp [crashM], by simp [crashM], h.li⟩
  · have hp' := (List.of_mem_zip (a := p.1) (b := p.2) hp).1
    exact ⟨h.wf _ hp', h.fullw _ hp'⟩
  · rw [show (crashM D ch).st = crashL D.st D.wt ch from rfl, crashL_length]
    exact h.sl
theorem Fine.burned {c : Nat} {D : DM} (h : Fine c D) (x : Int) (hx : x ≤ 9223372036854775807) : Fine c { D with fuse := max x (-1) } :=
  ⟨h.wf, h.full, h.fullw, h.wl, h.sl, by simp only; omega, by simp only; omega, h.li⟩
theorem fine_new (pages : List ByteArray) (lim : Int) (h : goodF pages lim = true) : Fine 0 (newD pages lim) := by
  simp only [goodF, Bool.and_eq_true, decide_eq_true_eq, Bool.not_eq_true', List.any_eq_false] at h
  obtain ⟨⟨⟨h1, h2⟩, h3⟩, h4⟩ := h
  refine ⟨fun _ hp => absurd hp (by simp [newD]), fun s hs => ?_, fun _ hp => absurd hp (by simp [newD]), Nat.zero_le _, ?_, by simp [newD], by simp [newD], h2⟩
  · simpa [badP] using h4 s hs
  · show pages.length ≤ 200
    omega

/-! ### The contracts at a fine disk -/
section
variable {B g c : Nat} {D : DM} {w : World}
theorem write_f (h : IsD B w g D) (hB : B ≤ w.heap.size) (hf : Fine c D) (hc : c ≤ 1000000) (x : Int) (s : ByteArray) : Calls Try.prog 13 #[.pointer (some ⟨g, 0, none⟩), .int .i64 x, .string s] w fun e w' => e = .returned (.int .i64 (writeM D x s).2) ∧ IsD B w' g (writeM D x s).1 ∧ Below B w w' :=
  write_calls B g D x s w h hB (Nat.le_trans hf.wl hc) hf.fu
theorem sync_f (h : IsD B w g D) (hB : B ≤ w.heap.size) (hf : Fine c D) (hc : c ≤ 1000000) : Calls Try.prog 15 #[.pointer (some ⟨g, 0, none⟩)] w fun e w' => e = .returned (.int .i64 (syncM D).2) ∧ IsD B w' g (syncM D).1 ∧ Below B w w' :=
  sync_calls B g D w h hB hf.wf (Nat.le_trans hf.wl hc) (Nat.le_trans hf.sl (by omega)) hf.fu
theorem grow_f (h : IsD B w g D) (hB : B ≤ w.heap.size) (hf : Fine c D) (x : Int) : Calls Try.prog 12 #[.pointer (some ⟨g, 0, none⟩), .int .i64 x] w fun e w' => e = .returned (.int .i64 (growM D x).2) ∧ IsD B w' g (growM D x).1 ∧ Below B w w' :=
  grow_calls B g D x w h hB (by have := hf.li; omega) (Nat.le_trans hf.sl (by omega)) hf.fu
theorem crash_f (h : IsD B w g D) (hB : B ≤ w.heap.size) (hf : Fine c D) (hc : c ≤ 1000000) (A : Option Addr) (n : Nat) (ch : List Nat) (hch : ByteArg B w A ch) : Calls Try.prog 16 #[.pointer (some ⟨g, 0, none⟩), .slice A ch.length n] w fun e w' => e = .returned (.tuple #[]) ∧ IsD B w' g (crashM D ch) ∧ Below B w w' :=
  crash_calls B g D A n ch w h hB hf.wf hf.full hf.fullw (Nat.le_trans hf.wl hc) (Nat.le_trans hf.sl (by omega)) hch
theorem read_f (h : IsD B w g D) (hf : Fine c D) (hc : c ≤ 1000000) (x : Int) : Calls Try.prog 17 #[.pointer (some ⟨g, 0, none⟩), .int .i64 x] w fun e w' => e = .returned (.tuple #[.string (readM D x).1, .int .i64 (readM D x).2]) ∧ Below w.heap.size w w' :=
  read_calls B g D x w h (Nat.le_trans hf.wl hc)
theorem wait_f (h : IsD B w g D) (hf : Fine c D) (hc : c ≤ 1000000) : Calls Try.prog 19 #[.pointer (some ⟨g, 0, none⟩)] w fun e w' => ∃ v, e = .returned v ∧ w'.ownsRow w.heap.size 76 2 v D.wt.length (wcells D.wt) ∧ Below w.heap.size w w' :=
  waiting_calls B g D w h (Nat.le_trans hf.wl hc)
end
end Go.Proofs.Ytofmlmgdbcjeoaa.Dsk
