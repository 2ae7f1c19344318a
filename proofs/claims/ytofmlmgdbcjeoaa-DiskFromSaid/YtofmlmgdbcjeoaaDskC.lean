/- What this text proves: what a disk's Write comes to, at every argument. -/
import Derived.Test.YtofmlmgdbcjeoaaDskB
namespace Go.Proofs.Ytofmlmgdbcjeoaa.Dsk
open Go Go.RowKit Go.Proofs.Ytofmlmgdbcjeoaa.Base

def writeM (D : DM) (x : Int) (s : ByteArray) : DM × Int :=
  if D.down = true then (D, 2) else if s.size ≠ 256 then (D, 1) else if ¬ (0 ≤ x ∧ x < D.st.length) then (D, 4)
  else if D.fuse = 0 then ({ D with down := true }, 2) else ({ D with fuse := burn D.fuse, wt := D.wt ++ [(x.toNat, s)] }, 0)
theorem box3 (w : World) (t1 t2 t3 : TypeId) (a b c : Value) : ∃ W, ((w.alloc (.cells #[a] t1)).alloc (.cells #[b] t2)).alloc (.cells #[c] t3) = W ∧ Below w.heap.size w W ∧ Blk W w.heap.size t1 [a] ∧ Blk W (w.heap.size + 1) t2 [b] ∧ Blk W (w.heap.size + 1 + 1) t3 [c] ∧ W.heap.size = w.heap.size + 3 := by
  refine ⟨_, rfl, bel_alloc (bel_alloc (bel_alloc (Below.refl _ _) _) _) _, ((Blk.new w t1 [a]).alloc _).alloc _, ?_, ?_, ?_⟩
  · have h := (Blk.new (w.alloc (.cells #[a] t1)) t2 [b]).alloc (.cells #[c] t3)
    rwa [World.size_alloc] at h
  · have h := Blk.new ((w.alloc (.cells #[a] t1)).alloc (.cells #[b] t2)) t3 [c]
    rwa [World.size_alloc, World.size_alloc] at h
  · simp
set_option maxHeartbeats 1600000 in
theorem write_calls (B g : Nat) (D : DM) (x : Int) (s : ByteArray) (w : World) (h : IsD B w g D) (hBw : B ≤ w.heap.size) (hn : D.wt.length ≤ 1000000) (hf : D.fuse ≤ 9223372036854775807) :
    Calls Try.prog 13 #[.pointer (some ⟨g, 0, none⟩), .int .i64 x, .string s] w fun e w' => e = .returned (.int .i64 (writeM D x s).2) ∧ IsD B w' g (writeM D x s).1 ∧ Below B w w' := by
  obtain ⟨W, hW, hb0, k0, k1, k2, hz⟩ := box3 w 25 3 9 (.pointer (some ⟨g, 0, none⟩)) (.int .i64 x) (.string s)
  have hgw := h.lt
  have hD := h.below hb0
  have hBB := low_then (Below.refl B w) hBw hb0
  have hB : B ≤ W.heap.size := by omega
  have c0 := k0.cell 0; have c1 := k1.cell 0; have c2 := k2.cell 0
  obtain ⟨v1, v2, hb⟩ : ∃ v1 v2, Blk W g 71 [v1, v2, .int .i64 D.lim, .int .i64 D.fuse, .bool D.down] := hD.2.elim fun v1 h => h.elim fun v2 h => ⟨v1, v2, h.1⟩
  have c4 := hb.cell 4
  have K0 := Lib.hid k0; have K1 := Lib.hid k1; have K2 := Lib.hid k2; have HB := Lib.hid hBB; have HD := Lib.hid hD
  clear hb hz k0 k1 k2 hb0 hBB hD h
  by_cases hd : D.down = true
  · have HM : Hid (writeM D x s = (D, 2)) := by simp [Hid, writeM, hd]
    rw [hd] at c4
    clear hd
    go_enter Try.func13, Try.ntmps13
    go_upto_region 1 with fail
    clear hW
    go_wp2
    go_ret
    exact ⟨by rw [HM.out]; rfl, by rw [HM.out]; exact HD.out, HB.out⟩
  · rw [Bool.eq_false_iff.2 hd] at c4
    by_cases hs : s.size = 256
    · by_cases hx : 0 ≤ x ∧ x < D.st.length
      · obtain ⟨y, rfl⟩ := Int.eq_ofNat_of_zero_le hx.1
        have ht := fun w1 h1 => there_calls B g D y w1 h1
        rw [decide_eq_true hx] at ht
        have HT := Lib.hid ht
        by_cases h0 : D.fuse = 0
        · have HM : Hid (writeM D y s = ({ D with down := true }, 2)) := by simp [Hid, writeM, hd, hs, hx, h0]
          have HA := Lib.hid (fun cs w1 h1 => acts_no B g D 42 cs w1 h1 h0)
          have hs' : ((s.size : Int) != 256) = false := by rw [bne_eq_false_iff_eq]; omega
          clear hd hx hs h0 ht
          go_enter Try.func13, Try.ntmps13
          go_upto_region 1 with fail
          clear hW
          go_wp2_with fail
          ((with_reducible refine (HT.out _ HD.out).mono ?_); rintro e w1 ⟨rfl, rfl⟩)
          go_wp2_with fail
          ((with_reducible refine (HA.out _ _ HD.out).mono ?_); rintro e w1 ⟨rfl, hI, hl⟩)
          go_wp2_with fail
          go_ret
          exact ⟨by rw [HM.out]; rfl, by rw [HM.out]; exact hI, HB.out.trans hl⟩
        · have HM : Hid (writeM D y s = ({ D with fuse := burn D.fuse, wt := D.wt ++ [(y, s)] }, 0)) := by simp [Hid, writeM, hd, hs, hx, h0]
          have hc : ∀ a W, (callFunc 42 a).run Try.prog W = .ok (.enter 42 a) W := fun a W => Go.Proofs.YtofmlmgdbcjeoaaW.PrintLast.enters_ Try.func42 (by kernel_rfl) rfl a W
          have hg0 : g < w.heap.size := hgw
          have HA := Lib.hid (acts_yes B g D 42 #[.pointer (some ⟨w.heap.size, 0, none⟩), .pointer (some ⟨w.heap.size + 1, 0, none⟩), .pointer (some ⟨w.heap.size + 1 + 1, 0, none⟩)] W HD.out h0 hf hc (Q := fun w' => IsD B w' g { D with fuse := burn D.fuse, wt := D.wt ++ [(y, s)] } ∧ Below B W w') (fun W1 h1 hl1 hz1 hk1 => by
            have e0 : Blk W1 w.heap.size 25 [.pointer (some ⟨g, 0, none⟩)] := (hk1 _ (by omega)).trans K0.out
            have e1 : Blk W1 (w.heap.size + 1) 3 [.int .i64 y] := (hk1 _ (by omega)).trans K1.out
            have e2 : Blk W1 (w.heap.size + 1 + 1) 9 [.string s] := (hk1 _ (by omega)).trans K2.out
            exact (write1_calls B g _ _ _ { D with fuse := burn D.fuse } y s W1 h1 (by omega) e0 e1 e2 hn).mono fun e w' ⟨he, hI, hl⟩ => ⟨he, hI, hl1.trans hl⟩))
          have hs' : ((s.size : Int) != 256) = false := by rw [bne_eq_false_iff_eq]; omega
          clear hd hx hs h0 ht
          go_enter Try.func13, Try.ntmps13
          go_upto_region 1 with fail
          clear hW
          go_wp2_with fail
          ((with_reducible refine (HT.out _ HD.out).mono ?_); rintro e w1 ⟨rfl, rfl⟩)
          go_wp2_with fail
          ((with_reducible refine HA.out.mono ?_); rintro e w1 ⟨rfl, hI, hl⟩)
          go_wp2_with fail
          go_ret
          exact ⟨by rw [HM.out]; rfl, by rw [HM.out]; exact hI, HB.out.trans hl⟩
      · have HM : Hid (writeM D x s = (D, 4)) := by simp [Hid, writeM, hd, hs, hx]
        have ht := fun w1 h1 => there_calls B g D x w1 h1
        rw [decide_eq_false hx] at ht
        have HT := Lib.hid ht
        have hs' : ((s.size : Int) != 256) = false := by rw [bne_eq_false_iff_eq]; omega
        clear hd hx hs ht
        go_enter Try.func13, Try.ntmps13
        go_upto_region 1 with fail
        clear hW
        go_wp2_with fail
        ((with_reducible refine (HT.out _ HD.out).mono ?_); rintro e w1 ⟨rfl, rfl⟩)
        go_wp2_with fail
        go_ret
        exact ⟨by rw [HM.out]; rfl, by rw [HM.out]; exact HD.out, HB.out⟩
    · have HM : Hid (writeM D x s = (D, 1)) := by simp [Hid, writeM, hd, hs]
      have hs' : ((s.size : Int) != 256) = true := by rw [bne_iff_ne]; omega
      clear hd hs
      go_enter Try.func13, Try.ntmps13
      go_upto_region 1 with fail
      clear hW
      go_wp2
      go_ret
      exact ⟨by rw [HM.out]; rfl, by rw [HM.out]; exact HD.out, HB.out⟩
end Go.Proofs.Ytofmlmgdbcjeoaa.Dsk
