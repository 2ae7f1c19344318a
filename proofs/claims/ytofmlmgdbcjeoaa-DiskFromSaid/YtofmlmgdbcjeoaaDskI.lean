/- What this text proves: what a disk's Read comes to. -/
import Derived.Test.YtofmlmgdbcjeoaaDskH
namespace Go.Proofs.Ytofmlmgdbcjeoaa.Dsk
open Go Go.RowKit Go.Proofs.Ytofmlmgdbcjeoaa.Base

def readM (D : DM) (x : Int) : ByteArray × Int :=
  if D.down = true then (⟨#[]⟩, 2) else if ¬ (0 ≤ x ∧ x < D.st.length) then (⟨#[]⟩, 4) else (viewAt D x.toNat, 0)
set_option maxHeartbeats 1600000 in
theorem read_calls (B g : Nat) (D : DM) (x : Int) (w : World) (h : IsD B w g D) (hn : D.wt.length ≤ 1000000) :
    Calls Try.prog 17 #[.pointer (some ⟨g, 0, none⟩), .int .i64 x] w fun e w' => e = .returned (.tuple #[.string (readM D x).1, .int .i64 (readM D x).2]) ∧ Below w.heap.size w w' := by
  obtain ⟨v1, v2, hb⟩ : ∃ v1 v2, Blk w g 71 [v1, v2, .int .i64 D.lim, .int .i64 D.fuse, .bool D.down] := h.2.elim fun v1 h => h.elim fun v2 h => ⟨v1, v2, h.1⟩
  have c4 := hb.cell 4
  have HD := Lib.hid h
  clear hb h
  by_cases hd : D.down = true
  · have HM : Hid (readM D x = (⟨#[]⟩, 2)) := by simp [Hid, readM, hd]
    rw [hd] at c4
    clear hd
    go_enter Try.func17, Try.ntmps17
    go_wp2
    go_ret2
    exact ⟨by rw [HM.out]; rfl, Below.refl _ _⟩
  · rw [Bool.eq_false_iff.2 hd] at c4
    by_cases hx : 0 ≤ x ∧ x < D.st.length
    · obtain ⟨y, rfl⟩ := Int.eq_ofNat_of_zero_le hx.1
      have ht := fun w1 h1 => there_calls B g D y w1 h1
      rw [decide_eq_true hx] at ht
      have HT := Lib.hid ht
      have HM : Hid (readM D y = (viewAt D y, 0)) := by simp [Hid, readM, hd, hx]
      have HA := Lib.hid (fun w1 h1 => data_calls B g D y w1 h1 (by omega) hn)
      clear hd hx ht
      go_enter Try.func17, Try.ntmps17
      go_wp2_with fail
      ((with_reducible refine (HT.out _ HD.out).mono ?_); rintro e w1 ⟨rfl, rfl⟩)
      go_wp2_with fail
      ((with_reducible refine (HA.out _ HD.out).mono ?_); rintro e w1 ⟨rfl, hl⟩)
      go_wp2_with fail
      go_ret2
      exact ⟨by rw [HM.out]; rfl, hl⟩
    · have HM : Hid (readM D x = (⟨#[]⟩, 4)) := by simp [Hid, readM, hd, hx]
      have ht := fun w1 h1 => there_calls B g D x w1 h1
      rw [decide_eq_false hx] at ht
      have HT := Lib.hid ht
      clear hd hx ht
      go_enter Try.func17, Try.ntmps17
      go_wp2_with fail
      ((with_reducible refine (HT.out _ HD.out).mono ?_); rintro e w1 ⟨rfl, rfl⟩)
      go_wp2_with fail
      go_ret2
      exact ⟨by rw [HM.out]; rfl, Below.refl _ _⟩
end Go.Proofs.Ytofmlmgdbcjeoaa.Dsk
