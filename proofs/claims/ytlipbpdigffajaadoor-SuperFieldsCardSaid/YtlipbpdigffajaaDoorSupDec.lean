/- What this text proves: what super.Decode, Choose and the law's Fill come to, for every argument within the bounds that stand here. -/
import Derived.Test.YtlipbpdigffajaaDoorSupWalks
import Derived.Deep.DeepCutAuto
namespace Go.Proofs.YtlipbpdigffajaaDoor.Sup
open Go Go.RowKit Go.Proofs.YtlipbpdigffajaaDoor.Base Go.Proofs.YtlipbpdigffajaaDoor.Ext

theorem number_any (s : ByteArray) (hl : s.size ≤ 4) (w : World) :
    Calls Tryd.prog 22 #[.string s] w fun e w' => e = .returned (.int .i64 (numL s.data.toList)) ∧ w = w' := by
  have h := number_calls s.data.toList (by rw [← bs_size, bs_mk]; exact hl) w
  rwa [bs_mk] at h
/-- The field numbered i of bytes. -/
def fieldL (l : List UInt8) (i : Nat) : Int := numL ((l.drop (off i)).take (wid i))
def fields (l : List UInt8) : S6 := ⟨fieldL l 0, fieldL l 1, fieldL l 2, fieldL l 3, fieldL l 4, fieldL l 5⟩
def Z6 : S6 := ⟨0, 0, 0, 0, 0, 0⟩
def decB (l : List UInt8) : S6 × Bool := if l.length = 256 ∧ goodB (fields l) = true ∧ sec (fields l) = l.take 64 then (fields l, true) else (Z6, false)
theorem field_le (l : List UInt8) (i : Nat) (h : wid i ≤ 4) : 0 ≤ fieldL l i ∧ fieldL l i < 4294967296 := by
  unfold fieldL
  have h1 := numL_lt ((l.drop (off i)).take (wid i))
  have h2 : ((l.drop (off i)).take (wid i)).length ≤ 4 := by rw [List.length_take]; omega
  have h3 := Nat.pow_le_pow_right (by omega : 0 < 256) h2
  omega
def wset6 (W : World) (g : Nat) (a b c d e f : Value) : World := (((((W.setCell ⟨g, 0, none⟩ a).setCell ⟨g, 1, none⟩ b).setCell ⟨g, 2, none⟩ c).setCell ⟨g, 3, none⟩ d).setCell ⟨g, 4, none⟩ e).setCell ⟨g, 5, none⟩ f
theorem blk_set6 {W : World} {g : Nat} {t : TypeId} {a0 b0 c0 d0 e0 f0 : Value} (h : Blk W g t [a0, b0, c0, d0, e0, f0]) (a b c d e f : Value) : Blk (wset6 W g a b c d e f) g t [a, b, c, d, e, f] :=
  (((((h.set_ 0 a).set_ 1 b).set_ 2 c).set_ 3 d).set_ 4 e).set_ 5 f
theorem bel_set6 {w W : World} (h : Below w.heap.size w W) {g : Nat} (hg : w.heap.size ≤ g) (a b c d e f : Value) : Below w.heap.size w (wset6 W g a b c d e f) :=
  bel_set (bel_set (bel_set (bel_set (bel_set (bel_set h hg 0 a) hg 1 b) hg 2 c) hg 3 d) hg 4 e) hg 5 f
set_option maxHeartbeats 1600000 in
theorem decode_calls (l : List UInt8) (w : World) (hG : Glob w) :
    Calls Tryd.prog 12 #[.string (bs l)] w fun e w' => e = .returned (.tuple #[(decB l).1.val, .bool (decB l).2]) ∧ Below w.heap.size w w' := by
  have hz := bs_size l
  by_cases hl : l.length = 256
  · rw [hl] at hz
    have x0 : numL ((bs l).extract 4 8).data.toList = fieldL l 0 := by rw [bs_extract, bs_data]; rfl
    have x1 : numL ((bs l).extract 8 12).data.toList = fieldL l 1 := by rw [bs_extract, bs_data]; rfl
    have x2 : numL ((bs l).extract 12 14).data.toList = fieldL l 2 := by rw [bs_extract, bs_data]; rfl
    have x3 : numL ((bs l).extract 14 16).data.toList = fieldL l 3 := by rw [bs_extract, bs_data]; rfl
    have x4 : numL ((bs l).extract 16 18).data.toList = fieldL l 4 := by rw [bs_extract, bs_data]; rfl
    have x5 : numL ((bs l).extract 18 19).data.toList = fieldL l 5 := by rw [bs_extract, bs_data]; rfl
    have HD : Hid (decB l = if goodB (fields l) = true ∧ sec (fields l) = l.take 64 then (fields l, true) else (Z6, false)) := by simp [Hid, decB, hl]
    have HF : Hid (fields l = ⟨fieldL l 0, fieldL l 1, fieldL l 2, fieldL l 3, fieldL l 4, fieldL l 5⟩) := rfl
    have X0 := Lib.hid x0; have X1 := Lib.hid x1; have X2 := Lib.hid x2; have X3 := Lib.hid x3; have X4 := Lib.hid x4; have X5 := Lib.hid x5
    clear x0 x1 x2 x3 x4 x5
    have hzz : ((bs l).size : Int) = 256 := by omega
    have HB0 := Lib.hid (bel_alloc (Below.refl w.heap.size w) (.cells #[.int .i64 0, .int .i64 0, .int .i64 0, .int .i64 0, .int .i64 0, .int .i64 0] 23))
    have hb0 := Lib.hid (Blk.new w 23 [.int .i64 0, .int .i64 0, .int .i64 0, .int .i64 0, .int .i64 0, .int .i64 0])
    go_enter Tryd.func12, Tryd.ntmps12
    go_upto_region 3 with fail
    obtain ⟨W, hW⟩ : ∃ W : World, w.alloc (.cells #[.int .i64 0, .int .i64 0, .int .i64 0, .int .i64 0, .int .i64 0, .int .i64 0] 23) = W := ⟨_, rfl⟩
    have HB : Hid (Below w.heap.size w W) := by rw [← hW]; exact HB0.out
    have hb : Hid (Blk W w.heap.size 23 [.int .i64 0, .int .i64 0, .int .i64 0, .int .i64 0, .int .i64 0, .int .i64 0]) := by rw [← hW]; exact hb0.out
    rw [hW]
    clear hW hb0 HB0
    go_cut [4] (fun s4 wx => ∃ g : Nat, s4 = .pointer (some ⟨g, 0, none⟩) ∧ w.heap.size < g ∧ Blk wx g 23 [.int .i64 (fieldL l 0), .int .i64 (fieldL l 1), .int .i64 (fieldL l 2), .int .i64 (fieldL l 3), .int .i64 (fieldL l 4), .int .i64 (fieldL l 5)] ∧ Below W.heap.size W wx)
    case first =>
      go_region_held3 (fun w' => True) (trivial)
        (first | (go_at_call 22; refine (number_any _ (by simp [hz]) _).mono ?_; rintro e w' ⟨rfl, rfl⟩))
      all_goals
        go_wp2_with fail
        go_meet
        refine ⟨W.heap.size, rfl, hb.out.lt, ?_, ?_⟩
        · simp only [bs_data]
          exact Blk.new _ _ _
        · exact bel_alloc (bel_drew (Below.refl _ _)) _
    case rest =>
      obtain ⟨g, rfl, hg, hb1, hB1⟩ := hcut
      have HB2 : Hid (Below w.heap.size w wc) := bel_then HB.out hB1
      have hb2 : Hid (Blk wc w.heap.size 23 [.int .i64 0, .int .i64 0, .int .i64 0, .int .i64 0, .int .i64 0, .int .i64 0]) := hb.out.below hB1 hb.out.lt
      clear hB1 hb HB X0 X1 X2 X3 X4 X5 hzz
      have hl2 := field_le l 2 (by decide)
      have Hg := Lib.hid (fun W => good_calls (fieldL l 0) (fieldL l 1) (fieldL l 2) (fieldL l 3) (fieldL l 4) (fieldL l 5) (by omega) (by omega) W)
      have Hs := Lib.hid (fun h W hW => sector_calls (fields l) h W hW)
      have Hz := Lib.hid (sec_length (fields l))
      rw [HF.out] at HD Hs Hz
      unfold S6.val at Hs
      simp only at Hs
      generalize goodB ⟨fieldL l 0, fieldL l 1, fieldL l 2, fieldL l 3, fieldL l 4, fieldL l 5⟩ = b at *
      generalize sec ⟨fieldL l 0, fieldL l 1, fieldL l 2, fieldL l 3, fieldL l 4, fieldL l 5⟩ = y at *
      clear HF
      generalize fieldL l 0 = f0 at *
      generalize fieldL l 1 = f1 at *
      generalize fieldL l 2 = f2 at *
      generalize fieldL l 3 = f3 at *
      generalize fieldL l 4 = f4 at *
      generalize fieldL l 5 = f5 at *
      have c0 := hb1.cell 0; have c1 := hb1.cell 1; have c2 := hb1.cell 2; have c3 := hb1.cell 3; have c4 := hb1.cell 4; have c5 := hb1.cell 5
      have z0 := hb2.out.cell 0; have z1 := hb2.out.cell 1; have z2 := hb2.out.cell 2; have z3 := hb2.out.cell 3; have z4 := hb2.out.cell 4; have z5 := hb2.out.cell 5
      cases b
      · have HD' : Hid (decB l = (Z6, false)) := by rw [HD.out]; simp [Hid]
        clear HD
        go_wp2_with fail
        first | go_region_with (go_at_call 5; (with_reducible refine (Hg.out _).mono ?_); rintro e w1 ⟨rfl, hb3⟩) | fail
        all_goals
          have hk2 := hb2.out.drew.below hb3 hb2.out.lt
          have hBB := Lib.hid (bel_then (bel_drew HB2.out) hb3)
          clear z0 z1 z2 z3 z4 z5 c0 c1 c2 c3 c4 c5 hb3
          have z0 := hk2.cell 0; have z1 := hk2.cell 1; have z2 := hk2.cell 2; have z3 := hk2.cell 3; have z4 := hk2.cell 4; have z5 := hk2.cell 5
          have y0 := hk2.frozen 0; have y1 := hk2.frozen 1; have y2 := hk2.frozen 2; have y3 := hk2.frozen 3; have y4 := hk2.frozen 4; have y5 := hk2.frozen 5
          go_wp2
          have hk3 := blk_set6 hk2 (.int .i64 0) (.int .i64 0) (.int .i64 0) (.int .i64 0) (.int .i64 0) (.int .i64 0)
          have q0 := hk3.cell 0; have q1 := hk3.cell 1; have q2 := hk3.cell 2; have q3 := hk3.cell 3; have q4 := hk3.cell 4; have q5 := hk3.cell 5
          unfold wset6 at q0 q1 q2 q3 q4 q5
          refine bodyPost_ret (v := .tuple #[.agg #[.int .i64 0, .int .i64 0, .int .i64 0, .int .i64 0, .int .i64 0, .int .i64 0], .bool false]) (by simp [results, Tryd.results12, go_sem, q0, q1, q2, q3, q4, q5]) rfl ⟨by rw [HD'.out]; rfl, bel_set6 hBB.out (Nat.le_refl _) _ _ _ _ _ _⟩
      · have ht : ((bs l).extract 0 64).toList = l.take 64 := by rw [bs_extract, bs_toList]; rfl
        by_cases hy : y = l.take 64
        · have HD' : Hid (decB l = (⟨f0, f1, f2, f3, f4, f5⟩, true)) := by rw [HD.out]; simp [Hid, hy]
          have he : ((bs y).toList == ((bs l).extract 0 64).toList) = true := by rw [bs_toList, ht]; simp [hy]
          clear HD hy ht
          go_wp2_with fail
          (go_region_held3 (fun w' => Below wc.heap.size wc w' ∧ Blk w' g 23 [.int .i64 f0, .int .i64 f1, .int .i64 f2, .int .i64 f3, .int .i64 f4, .int .i64 f5] ∧ w'.cell? ⟨g, 0, none⟩ = some (.int .i64 f0) ∧ w'.cell? ⟨g, 1, none⟩ = some (.int .i64 f1) ∧ w'.cell? ⟨g, 2, none⟩ = some (.int .i64 f2) ∧ w'.cell? ⟨g, 3, none⟩ = some (.int .i64 f3) ∧ w'.cell? ⟨g, 4, none⟩ = some (.int .i64 f4) ∧ w'.cell? ⟨g, 5, none⟩ = some (.int .i64 f5)) (first | exact ⟨bel_drew (Below.refl _ _), hb1, c0, c1, c2, c3, c4, c5⟩ | (have hx := held_blk (w := wc) (g := g) (t := 23) (cs := [.int .i64 f0, .int .i64 f1, .int .i64 f2, .int .i64 f3, .int .i64 f4, .int .i64 f5]) ‹_› ‹_›; exact ⟨hx.1, hx.2, hx.2.cell 0, hx.2.cell 1, hx.2.cell 2, hx.2.cell 3, hx.2.cell 4, hx.2.cell 5⟩)) (first | (go_at_call 5; (with_reducible refine (Hg.out _).mono ?_); rintro e w1 ⟨rfl, hb3⟩) | (go_at_call 8; (with_reducible refine (Hs.out trivial _ (hG.below (bel_then (bel_drew HB2.out) hb3))).mono ?_); rintro e w2 ⟨rfl, hb4⟩)))
          have hk2 := (hb2.out.drew.below hb3 hb2.out.lt).below hb4 (Nat.lt_of_lt_of_le hb2.out.lt hb3.size)
          have hk1 := (hb1.drew.below hb3 hb1.lt).below hb4 (Nat.lt_of_lt_of_le hb1.lt hb3.size)
          have hBB := Lib.hid (bel_then (bel_then (bel_drew HB2.out) hb3) hb4)
          clear z0 z1 z2 z3 z4 z5 c0 c1 c2 c3 c4 c5 hb3 hb4
          have z0 := hk2.cell 0; have z1 := hk2.cell 1; have z2 := hk2.cell 2; have z3 := hk2.cell 3; have z4 := hk2.cell 4; have z5 := hk2.cell 5
          have c0 := hk1.cell 0; have c1 := hk1.cell 1; have c2 := hk1.cell 2; have c3 := hk1.cell 3; have c4 := hk1.cell 4; have c5 := hk1.cell 5
          have y0 := hk2.frozen 0; have y1 := hk2.frozen 1; have y2 := hk2.frozen 2; have y3 := hk2.frozen 3; have y4 := hk2.frozen 4; have y5 := hk2.frozen 5
          go_wp2
          have hk3 := blk_set6 hk2 (.int .i64 f0) (.int .i64 f1) (.int .i64 f2) (.int .i64 f3) (.int .i64 f4) (.int .i64 f5)
          have q0 := hk3.cell 0; have q1 := hk3.cell 1; have q2 := hk3.cell 2; have q3 := hk3.cell 3; have q4 := hk3.cell 4; have q5 := hk3.cell 5
          unfold wset6 at q0 q1 q2 q3 q4 q5
          refine bodyPost_ret (v := .tuple #[.agg #[.int .i64 f0, .int .i64 f1, .int .i64 f2, .int .i64 f3, .int .i64 f4, .int .i64 f5], .bool true]) (by simp [results, Tryd.results12, go_sem, q0, q1, q2, q3, q4, q5]) rfl ⟨by rw [HD'.out]; rfl, bel_set6 hBB.out (Nat.le_refl _) _ _ _ _ _ _⟩
        · have HD' : Hid (decB l = (Z6, false)) := by rw [HD.out]; simp [Hid, hy]
          have he : ((bs y).toList == ((bs l).extract 0 64).toList) = false := by rw [bs_toList, ht]; simp [hy]
          clear HD hy ht
          go_wp2_with fail
          (go_region_held3 (fun w' => Below wc.heap.size wc w' ∧ Blk w' g 23 [.int .i64 f0, .int .i64 f1, .int .i64 f2, .int .i64 f3, .int .i64 f4, .int .i64 f5] ∧ w'.cell? ⟨g, 0, none⟩ = some (.int .i64 f0) ∧ w'.cell? ⟨g, 1, none⟩ = some (.int .i64 f1) ∧ w'.cell? ⟨g, 2, none⟩ = some (.int .i64 f2) ∧ w'.cell? ⟨g, 3, none⟩ = some (.int .i64 f3) ∧ w'.cell? ⟨g, 4, none⟩ = some (.int .i64 f4) ∧ w'.cell? ⟨g, 5, none⟩ = some (.int .i64 f5)) (first | exact ⟨bel_drew (Below.refl _ _), hb1, c0, c1, c2, c3, c4, c5⟩ | (have hx := held_blk (w := wc) (g := g) (t := 23) (cs := [.int .i64 f0, .int .i64 f1, .int .i64 f2, .int .i64 f3, .int .i64 f4, .int .i64 f5]) ‹_› ‹_›; exact ⟨hx.1, hx.2, hx.2.cell 0, hx.2.cell 1, hx.2.cell 2, hx.2.cell 3, hx.2.cell 4, hx.2.cell 5⟩)) (first | (go_at_call 5; (with_reducible refine (Hg.out _).mono ?_); rintro e w1 ⟨rfl, hb3⟩) | (go_at_call 8; (with_reducible refine (Hs.out trivial _ (hG.below (bel_then (bel_drew HB2.out) hb3))).mono ?_); rintro e w2 ⟨rfl, hb4⟩)))
          have hk2 := (hb2.out.drew.below hb3 hb2.out.lt).below hb4 (Nat.lt_of_lt_of_le hb2.out.lt hb3.size)
          have hk1 := (hb1.drew.below hb3 hb1.lt).below hb4 (Nat.lt_of_lt_of_le hb1.lt hb3.size)
          have hBB := Lib.hid (bel_then (bel_then (bel_drew HB2.out) hb3) hb4)
          clear z0 z1 z2 z3 z4 z5 c0 c1 c2 c3 c4 c5 hb3 hb4
          have z0 := hk2.cell 0; have z1 := hk2.cell 1; have z2 := hk2.cell 2; have z3 := hk2.cell 3; have z4 := hk2.cell 4; have z5 := hk2.cell 5
          have c0 := hk1.cell 0; have c1 := hk1.cell 1; have c2 := hk1.cell 2; have c3 := hk1.cell 3; have c4 := hk1.cell 4; have c5 := hk1.cell 5
          have y0 := hk2.frozen 0; have y1 := hk2.frozen 1; have y2 := hk2.frozen 2; have y3 := hk2.frozen 3; have y4 := hk2.frozen 4; have y5 := hk2.frozen 5
          go_wp2
          have hk3 := blk_set6 hk2 (.int .i64 0) (.int .i64 0) (.int .i64 0) (.int .i64 0) (.int .i64 0) (.int .i64 0)
          have q0 := hk3.cell 0; have q1 := hk3.cell 1; have q2 := hk3.cell 2; have q3 := hk3.cell 3; have q4 := hk3.cell 4; have q5 := hk3.cell 5
          unfold wset6 at q0 q1 q2 q3 q4 q5
          refine bodyPost_ret (v := .tuple #[.agg #[.int .i64 0, .int .i64 0, .int .i64 0, .int .i64 0, .int .i64 0, .int .i64 0], .bool false]) (by simp [results, Tryd.results12, go_sem, q0, q1, q2, q3, q4, q5]) rfl ⟨by rw [HD'.out]; rfl, bel_set6 hBB.out (Nat.le_refl _) _ _ _ _ _ _⟩
  · have HD' : Hid (decB l = (Z6, false)) := by simp [Hid, decB, hl]
    have hne : ((l.length : Int) != 256) = true := by rw [bne_iff_ne]; omega
    clear hl
    go_enter Tryd.func12, Tryd.ntmps12
    go_wp2
    have hk3 := Blk.new w 23 [.int .i64 0, .int .i64 0, .int .i64 0, .int .i64 0, .int .i64 0, .int .i64 0]
    have q0 := hk3.cell 0; have q1 := hk3.cell 1; have q2 := hk3.cell 2; have q3 := hk3.cell 3; have q4 := hk3.cell 4; have q5 := hk3.cell 5
    refine bodyPost_ret (v := .tuple #[.agg #[.int .i64 0, .int .i64 0, .int .i64 0, .int .i64 0, .int .i64 0, .int .i64 0], .bool false]) (by simp [results, Tryd.results12, go_sem]) rfl ⟨by rw [HD'.out]; rfl, bel_alloc (Below.refl _ _) _⟩

end Go.Proofs.YtlipbpdigffajaaDoor.Sup
