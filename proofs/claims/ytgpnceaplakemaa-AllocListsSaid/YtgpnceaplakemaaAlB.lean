/- What this text proves: what Take comes to where it takes nothing. -/
import Derived.Test.YtgpnceaplakemaaAlA
namespace Go.Proofs.Ytgpnceaplakemaa.Hp
open Go Go.RowKit Go.Proofs.Ytgpnceaplakemaa.Base Go.Proofs.Ytgpnceaplakemaa.Own
set_option linter.unusedSimpArgs false

theorem goodL_all {len : Int} : ∀ {l : List Int} {last : Int}, goodL len last l = true → (∀ v ∈ l, last < v ∧ v < len) ∧ l.Pairwise (· < ·)
  | [], _, _ => ⟨by simp, List.Pairwise.nil⟩
  | a :: r, last, h => by
    simp only [goodL, Bool.and_eq_true, decide_eq_true_eq] at h
    obtain ⟨⟨h1, h2⟩, h3⟩ := h
    obtain ⟨h4, h5⟩ := goodL_all h3
    refine ⟨fun v hv => ?_, List.pairwise_cons.2 ⟨fun v hv => (h4 v hv).1, h5⟩⟩
    rcases List.mem_cons.1 hv with rfl | hv
    · exact ⟨h1, h2⟩
    · have := h4 v hv
      omega
theorem goodL_length {len : Int} : ∀ {l : List Int} {last : Int}, last < len → goodL len last l = true → (l.length : Int) < len - last
  | [], _, h0, _ => by simp; omega
  | a :: r, last, h0, h => by
    simp only [goodL, Bool.and_eq_true, decide_eq_true_eq] at h
    obtain ⟨⟨h1, h2⟩, h3⟩ := h
    have := goodL_length h2 h3
    simp only [List.length_cons]
    omega
theorem aGood_iff {free : List Int} {len cap : Int} : aGood free len cap = true ↔ 2 ≤ len ∧ len ≤ cap ∧ cap ≤ 200 ∧ goodL len 1 free = true := by
  simp [aGood, and_assoc]
theorem aGood_length {free : List Int} {len cap : Int} (h : aGood free len cap = true) : free.length < 199 := by
  obtain ⟨h1, h2, h3, h4⟩ := aGood_iff.1 h
  have := goodL_length (by omega) h4
  omega
theorem good_srt {free : List Int} {len cap : Int} (h : aGood free len cap = true) : srt free = free := by
  obtain ⟨h1, h2, h3, h4⟩ := aGood_iff.1 h
  refine srt_of (List.Perm.refl _) ?_
  exact ((goodL_all h4).2).imp fun h => Int.le_of_lt h
def wset3 (W : World) (g : Nat) (a b c : Value) : World := ((W.setCell ⟨g, 0, none⟩ a).setCell ⟨g, 1, none⟩ b).setCell ⟨g, 2, none⟩ c
theorem blk_set3 {W : World} {g : Nat} {t : TypeId} {x y z : Value} (h : Blk W g t [x, y, z]) (a b c : Value) : Blk (wset3 W g a b c) g t [a, b, c] := ((h.set_ 0 a).set_ 1 b).set_ 2 c
theorem blk_far3 {W : World} {g g' : Nat} {t : TypeId} {cs : List Value} (h : Blk W g t cs) (hg : g ≠ g') (a b c : Value) : Blk (wset3 W g' a b c) g t cs := ((h.far (p := ⟨g', 0, none⟩) hg a).far (p := ⟨g', 1, none⟩) hg b).far (p := ⟨g', 2, none⟩) hg c
theorem bel_set3 {w W : World} {g : Nat} (h : Below w.heap.size w W) (hg : w.heap.size ≤ g) (a b c : Value) : Below w.heap.size w (wset3 W g a b c) := bel_set (bel_set (bel_set h hg 0 a) hg 1 b) hg 2 c
theorem own_far3 {w : World} {B g : Nat} {e : TypeId} {size n : Nat} {v : Value} {xs : List Value} (h : w.ownsRow B e size v n xs) (hg : v.ownBlock ≠ some g) (a b c : Value) : (wset3 w g a b c).ownsRow B e size v n xs := own_set_far (own_set_far (own_set_far h hg 0 a) hg 1 b) hg 2 c
def tOk (free : List Int) (len cap n : Int) : Bool := aGood free len cap && decide (0 ≤ n) && decide (n - free.length ≤ cap - len)
/-- What is told where nothing is taken. -/
def NoPost (w : World) (e : Ending) (w' : World) : Prop := e = .returned (.tuple #[.agg #[.slice none 0 0, .int .i64 0, .int .i64 0], .slice none 0 0, .bool false]) ∧ Below w.heap.size w w'
set_option maxHeartbeats 3200000 in
set_option maxRecDepth 100000 in
theorem take_no (A : Option Addr) (c : Nat) (free : List Int) (len cap m : Int) (w : World) (h : RowOf w A c free) (hn : free.length ≤ 9223372036854775807) (hm : m ≤ 9223372036854775807) (ht : tOk free len cap m = false) :
    Calls Try.prog 24 #[.agg #[.slice A free.length c, .int .i64 len, .int .i64 cap], .int .i64 m] w (NoPost w) := by
  have LB := Lib.hid (bel_alloc (bel_alloc (Below.refl w.heap.size w) (.cells #[.slice A free.length c, .int .i64 len, .int .i64 cap] 41)) (.cells #[.slice none 0 0, .int .i64 0, .int .i64 0] 41))
  have KB := Lib.hid ((Blk.new w 41 [.slice A free.length c, .int .i64 len, .int .i64 cap]).alloc (.cells #[.slice none 0 0, .int .i64 0, .int .i64 0] 41))
  have KZ := Lib.hid (Blk.new (w.alloc (.cells #[.slice A free.length c, .int .i64 len, .int .i64 cap] 41)) 41 [.slice none 0 0, .int .i64 0, .int .i64 0])
  have CG := Lib.hid (good_calls A c free len cap _ (h.below LB.out) hn)
  have GL := Lib.hid (aGood_length (free := free) (len := len) (cap := cap))
  have GI := Lib.hid (aGood_iff (free := free) (len := len) (cap := cap))
  have HT := Lib.hid ht
  clear h ht
  unfold tOk at HT
  generalize free.length = n at *
  generalize hg : aGood free len cap = g at *
  cases g with
  | false =>
    clear HT GL GI KB
    unfold NoPost
    go_enter Try.func24, Try.ntmps24
    go_wp2_with fail
    ((with_reducible refine CG.out.mono ?_); rintro e w1 ⟨rfl, hl⟩)
    have Z1 := KZ.out.step hl
    have L1 := Lib.hid (bel_then LB.out hl)
    have hz : w.heap.size ≤ w.heap.size + 1 := Nat.le_succ _
    rw [show (w.alloc (.cells #[.slice A n c, .int .i64 len, .int .i64 cap] 41)).heap.size = w.heap.size + 1 by simp] at Z1
    have z0 := Z1.cell 0; have z1 := Z1.cell 1; have z2 := Z1.cell 2
    have y0 := Z1.frozen 0; have y1 := Z1.frozen 1; have y2 := Z1.frozen 2
    clear CG hl
    go_wp2_with fail
    have Z2 := blk_set3 Z1 (.slice none 0 0) (.int .i64 0) (.int .i64 0)
    have q0 := Z2.cell 0; have q1 := Z2.cell 1; have q2 := Z2.cell 2
    unfold wset3 at q0 q1 q2
    refine bodyPost_ret (v := .tuple #[.agg #[.slice none 0 0, .int .i64 0, .int .i64 0], .slice none 0 0, .bool false]) (by simp [results, Try.results24, go_sem, q0, q1, q2]) rfl ⟨rfl, bel_set3 L1.out hz _ _ _⟩
  | true =>
    obtain ⟨h2, h3, h4, h5⟩ := GI.out.1 rfl
    have hnn := GL.out rfl
    by_cases hm0 : m < 0
    · clear GL GI h5 KB HT
      unfold NoPost
      go_enter Try.func24, Try.ntmps24
      go_wp2_with fail
      ((with_reducible refine CG.out.mono ?_); rintro e w1 ⟨rfl, hl⟩)
      have Z1 := KZ.out.step hl
      have L1 := Lib.hid (bel_then LB.out hl)
      have hz : w.heap.size ≤ w.heap.size + 1 := Nat.le_succ _
      rw [show (w.alloc (.cells #[.slice A n c, .int .i64 len, .int .i64 cap] 41)).heap.size = w.heap.size + 1 by simp] at Z1
      have z0 := Z1.cell 0; have z1 := Z1.cell 1; have z2 := Z1.cell 2
      have y0 := Z1.frozen 0; have y1 := Z1.frozen 1; have y2 := Z1.frozen 2
      clear CG hl
      go_wp2_with fail
      have Z2 := blk_set3 Z1 (.slice none 0 0) (.int .i64 0) (.int .i64 0)
      have q0 := Z2.cell 0; have q1 := Z2.cell 1; have q2 := Z2.cell 2
      unfold wset3 at q0 q1 q2
      refine bodyPost_ret (v := .tuple #[.agg #[.slice none 0 0, .int .i64 0, .int .i64 0], .slice none 0 0, .bool false]) (by simp [results, Try.results24, go_sem, q0, q1, q2]) rfl ⟨rfl, bel_set3 L1.out hz _ _ _⟩
    · have hmore : decide (m - n > cap - len) = true := by
        have := HT.out
        simp only [Bool.true_and, decide_eq_true (show 0 ≤ m by omega), decide_eq_false_iff_not] at this
        exact decide_eq_true (by omega)
      have hm0' : decide (m < 0) = false := decide_eq_false hm0
      have w1' : IntKind.i64.wrap (m - n) = m - n := by rw [IntKind.wrap_i64]; omega
      have w2' : IntKind.i64.wrap (cap - len) = cap - len := by rw [IntKind.wrap_i64]; omega
      clear GL GI h5 HT
      unfold NoPost
      go_enter Try.func24, Try.ntmps24
      go_wp2_with fail
      ((with_reducible refine CG.out.mono ?_); rintro e w1 ⟨rfl, hl⟩)
      have K1 := KB.out.step hl
      have c0 := K1.cell 0; have c1 := K1.cell 1; have c2 := K1.cell 2
      have Z1 := KZ.out.step hl
      have L1 := Lib.hid (bel_then LB.out hl)
      have hz : w.heap.size ≤ w.heap.size + 1 := Nat.le_succ _
      rw [show (w.alloc (.cells #[.slice A n c, .int .i64 len, .int .i64 cap] 41)).heap.size = w.heap.size + 1 by simp] at Z1
      have z0 := Z1.cell 0; have z1 := Z1.cell 1; have z2 := Z1.cell 2
      have y0 := Z1.frozen 0; have y1 := Z1.frozen 1; have y2 := Z1.frozen 2
      clear CG hl
      go_wp2_with fail
      have Z2 := blk_set3 Z1 (.slice none 0 0) (.int .i64 0) (.int .i64 0)
      have q0 := Z2.cell 0; have q1 := Z2.cell 1; have q2 := Z2.cell 2
      unfold wset3 at q0 q1 q2
      refine bodyPost_ret (v := .tuple #[.agg #[.slice none 0 0, .int .i64 0, .int .i64 0], .slice none 0 0, .bool false]) (by simp [results, Try.results24, go_sem, q0, q1, q2]) rfl ⟨rfl, bel_set3 L1.out hz _ _ _⟩
end Go.Proofs.Ytgpnceaplakemaa.Hp
