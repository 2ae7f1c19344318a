/- What this text proves: the disk's contracts at a fine disk whose blocks lie in a set; what is written and read of a calm disk. -/
import Derived.Test.YtofmlmgdbcjeoaaFskB
import Derived.Test.YtofmlmgdbcjeoaaFskD
import Derived.Test.YtofmlmgdbcjeoaaFskM
import Derived.Test.YtofmlmgdbcjeoaaDskS
namespace Go.Proofs.Ytofmlmgdbcjeoaa.Dsk
open Go Go.RowKit Go.Proofs Go.Proofs.Ytofmlmgdbcjeoaa.Base

section
variable {F : Nat → Prop} {g c : Nat} {D : DM} {w : World}
theorem writeF_f (h : IsF F w g D) (hB : ∀ k, w.heap.size ≤ k → F k) (hf : Fine c D) (hc : c ≤ 1000000) (x : Int) (s : ByteArray) : Calls Try.prog 13 #[.pointer (some ⟨g, 0, none⟩), .int .i64 x, .string s] w fun e w' => e = .returned (.int .i64 (writeM D x s).2) ∧ IsF F w' g (writeM D x s).1 ∧ Within F w w' :=
  writeF F g D x s w h hB (Nat.le_trans hf.wl hc) hf.fu
theorem syncF_f (h : IsF F w g D) (hf : Fine c D) (hc : c ≤ 1000000) : Calls Try.prog 15 #[.pointer (some ⟨g, 0, none⟩)] w fun e w' => e = .returned (.int .i64 (syncM D).2) ∧ IsF F w' g (syncM D).1 ∧ Within F w w' :=
  syncF F g D w h hf.wf (Nat.le_trans hf.wl hc) (Nat.le_trans hf.sl (by omega)) hf.fu
theorem crashF_f (h : IsF F w g D) (hf : Fine c D) (hc : c ≤ 1000000) (A : Option Addr) (n : Nat) (ch : List Nat) (hch : ByteArgF F w A ch) : Calls Try.prog 16 #[.pointer (some ⟨g, 0, none⟩), .slice A ch.length n] w fun e w' => e = .returned (.tuple #[]) ∧ IsF F w' g (crashM D ch) ∧ Within F w w' :=
  crashF F g D A n ch w h hf.wf hf.full hf.fullw (Nat.le_trans hf.wl hc) (Nat.le_trans hf.sl (by omega)) hch
theorem readF_f (h : IsF F w g D) (hf : Fine c D) (hc : c ≤ 1000000) (x : Int) : Calls Try.prog 17 #[.pointer (some ⟨g, 0, none⟩), .int .i64 x] w fun e w' => e = .returned (.tuple #[.string (readM D x).1, .int .i64 (readM D x).2]) ∧ Below w.heap.size w w' :=
  read_calls 0 g D x w h.isD (Nat.le_trans hf.wl hc)
theorem pages_f {B : Nat} (h : IsD B w g D) (hf : Fine c D) (hc : c ≤ 1000000) : Calls Try.prog 24 #[.pointer (some ⟨g, 0, none⟩)] w fun e w' => ∃ v, e = .returned v ∧ w'.ownsRow w.heap.size 9 1 v D.st.length (strs (allV D)) ∧ Below w.heap.size w w' :=
  pages_calls B g D w h (Nat.le_trans hf.wl hc) (Nat.le_trans hf.sl (by omega))
end

/-- A disk that is up, without a fuse. -/
structure Calm (D : DM) : Prop where
  down : D.down = false
  fuse : D.fuse = -1
theorem burn_neg : burn (-1) = -1 := by simp [burn]
theorem write_yes {D : DM} (h : Calm D) (x : Nat) (s : ByteArray) (hx : x < D.st.length) (hs : s.size = 256) : writeM D x s = ({ D with wt := D.wt ++ [(x, s)] }, 0) := by
  unfold writeM
  rw [if_neg (by rw [h.down]; simp), if_neg (by omega), if_neg (by omega), if_neg (by rw [h.fuse]; decide), h.fuse, burn_neg, ← h.fuse]
  rfl
theorem write_no {D : DM} (h : Calm D) (x : Nat) (s : ByteArray) (hx : D.st.length ≤ x) (hs : s.size = 256) : writeM D x s = (D, 4) := by
  unfold writeM
  rw [if_neg (by rw [h.down]; simp), if_neg (by omega), if_pos (by omega)]
theorem sync_yes {D : DM} (h : Calm D) : syncM D = ({ D with st := putW D.st D.wt, wt := [] }, 0) := by
  unfold syncM
  rw [if_neg (by rw [h.down]; simp), if_neg (by rw [h.fuse]; decide), h.fuse, burn_neg, ← h.fuse]
theorem calm_crash (D : DM) (ch : List Nat) : Calm (crashM D ch) := ⟨rfl, rfl⟩
theorem allV_write (D : DM) (x : Nat) (s : ByteArray) : allV { D with wt := D.wt ++ [(x, s)] } = (allV D).set x s := by
  unfold allV
  simp only [putW_append]
  rfl
theorem allV_sync (D : DM) : allV { D with st := putW D.st D.wt, wt := [] } = allV D := rfl
def pg (u : UInt8) : ByteArray := bs (pageL u)
theorem pg_size (u : UInt8) : (pg u).size = 256 := size_page u
theorem pg_inj {u v : UInt8} (h : pg u = pg v) : u = v := by
  have h1 := bs_inj h
  have h2 : (pageL u)[0]'(by rw [pageL_length]; omega) = (pageL v)[0]'(by rw [pageL_length]; omega) := by simp only [h1]
  simpa [pageL] using h2
theorem page0_pg : page0 = pg 0 := rfl
theorem read_pg {D : DM} (h : Calm D) (now : List UInt8) (hV : allV D = now.map pg) (p : Nat) (hp : p < now.length) : readM D p = (pg now[p], 0) := by
  have hl : D.st.length = now.length := by rw [← allV_length, hV]; simp
  unfold readM
  rw [if_neg (by rw [h.down]; simp), if_neg (by omega)]
  rw [show ((p : Int)).toNat = p from rfl, ← allV_at D p (by omega)]
  simp only [hV, List.getElem_map]
end Go.Proofs.Ytofmlmgdbcjeoaa.Dsk
