/- What this text proves: what a disk's Grow comes to, at every argument. -/
import Derived.Test.YtofmlmgdbcjeoaaDskE
import Derived.BigQuiet
namespace Go.Proofs.Ytofmlmgdbcjeoaa.Dsk
open Go Go.RowKit Go.Proofs.Ytofmlmgdbcjeoaa.Base

def growM (D : DM) (x : Int) : DM × Int :=
  if D.down = true then (D, 2) else if x < 0 then (D, 1) else if D.lim < x then (D, 3)
  else if D.fuse = 0 then ({ D with down := true }, 2) else ({ D with fuse := burn D.fuse, st := growL D.st x.toNat }, 0)
theorem box2 (w : World) (t1 t2 : TypeId) (a b : Value) : ∃ W, (w.alloc (.cells #[a] t1)).alloc (.cells #[b] t2) = W ∧ Below w.heap.size w W ∧ Blk W w.heap.size t1 [a] ∧ Blk W (w.heap.size + 1) t2 [b] ∧ W.heap.size = w.heap.size + 2 := by
  refine ⟨_, rfl, bel_alloc (bel_alloc (Below.refl _ _) _) _, (Blk.new w t1 [a]).alloc _, ?_, ?_⟩
  · have h := Blk.new (w.alloc (.cells #[a] t1)) t2 [b]
    rwa [World.size_alloc] at h
  · simp
set_option maxHeartbeats 1600000 in
theorem grow_calls (B g : Nat) (D : DM) (x : Int) (w : World) (h : IsD B w g D) (hBw : B ≤ w.heap.size) (hl : D.lim ≤ 1000000) (hs : D.st.length ≤ 1000000) (hf : D.fuse ≤ 9223372036854775807) :
    Calls Try.prog 12 #[.pointer (some ⟨g, 0, none⟩), .int .i64 x] w fun e w' => e = .returned (.int .i64 (growM D x).2) ∧ IsD B w' g (growM D x).1 ∧ Below B w w' := by
  obtain ⟨W, hW, hb0, k0, k1, hz⟩ := box2 w 25 3 (.pointer (some ⟨g, 0, none⟩)) (.int .i64 x)
  have hgw := h.lt
  have hD := h.below hb0
  have hBB := low_then (Below.refl B w) hBw hb0
  have hB : B ≤ W.heap.size := by omega
  have c0 := k0.cell 0; have c1 := k1.cell 0
  obtain ⟨v1, v2, hb⟩ : ∃ v1 v2, Blk W g 71 [v1, v2, .int .i64 D.lim, .int .i64 D.fuse, .bool D.down] := hD.2.elim fun v1 h => h.elim fun v2 h => ⟨v1, v2, h.1⟩
  have c4 := hb.cell 4
  have c2 := hb.cell 2
  have K0 := Lib.hid k0; have K1 := Lib.hid k1; have HB := Lib.hid hBB; have HD := Lib.hid hD
  clear hb hz k0 k1 hb0 hBB hD h
  by_cases hd : D.down = true
  · have HM : Hid (growM D x = (D, 2)) := by simp [Hid, growM, hd]
    rw [hd] at c4
    clear hd
    go_enter Try.func12, Try.ntmps12
    go_upto_region 1 with fail
    clear hW
    go_wp2
    go_ret
    exact ⟨by rw [HM.out]; rfl, by rw [HM.out]; exact HD.out, HB.out⟩
  · rw [Bool.eq_false_iff.2 hd] at c4
    by_cases hx0 : x < 0
    · have HM : Hid (growM D x = (D, 1)) := by simp [Hid, growM, hd, hx0]
      have hx0' : decide (x < 0) = true := decide_eq_true hx0
      clear hd hx0
      go_enter Try.func12, Try.ntmps12
      go_upto_region 1 with fail
      clear hW
      go_wp2
      go_ret
      exact ⟨by rw [HM.out]; rfl, by rw [HM.out]; exact HD.out, HB.out⟩
    · have hx0' : decide (x < 0) = false := decide_eq_false hx0
      by_cases hx1 : D.lim < x
      · have HM : Hid (growM D x = (D, 3)) := by simp [Hid, growM, hd, hx0, hx1]
        have hx1' : decide (D.lim < x) = true := decide_eq_true hx1
        clear hd hx0 hx1
        go_enter Try.func12, Try.ntmps12
        go_upto_region 1 with fail
        clear hW
        go_wp2_with fail
        go_quiet (fail)
        go_wp2
        go_ret
        exact ⟨by rw [HM.out]; rfl, by rw [HM.out]; exact HD.out.drewN _, bel_low HB.out⟩
      · have hx1' : decide (D.lim < x) = false := decide_eq_false hx1
        obtain ⟨y, rfl⟩ := Int.eq_ofNat_of_zero_le (Int.not_lt.1 hx0)
        by_cases h0 : D.fuse = 0
        · have HM : Hid (growM D y = ({ D with down := true }, 2)) := by simp [Hid, growM, hd, hx0, hx1, h0]
          have HA := Lib.hid (fun cs w1 h1 => acts_no B g D 39 cs w1 h1 h0)
          clear hd h0 hx0 hx1
          go_enter Try.func12, Try.ntmps12
          go_upto_region 1 with fail
          clear hW
          go_wp2_with fail
          go_quiet (fail)
          go_wp2_with fail
          ((with_reducible refine (HA.out _ _ (HD.out.drewN _)).mono ?_); rintro e w1 ⟨rfl, hI, hl⟩)
          go_wp2_with fail
          go_ret
          exact ⟨by rw [HM.out]; rfl, by rw [HM.out]; exact hI, (bel_low HB.out).trans hl⟩
        · have HM : Hid (growM D y = ({ D with fuse := burn D.fuse, st := growL D.st y }, 0)) := by simp [Hid, growM, hd, hx0, hx1, h0]
          have hc : ∀ a W, (callFunc 39 a).run Try.prog W = .ok (.enter 39 a) W := fun a W => Go.Proofs.YtofmlmgdbcjeoaaW.PrintLast.enters_ Try.func39 (by kernel_rfl) rfl a W
          have hym : y ≤ 1000000 := by omega
          have HA := Lib.hid (fun k => acts_yes B g D 39 #[.pointer (some ⟨w.heap.size, 0, none⟩), .pointer (some ⟨w.heap.size + 1, 0, none⟩)] (W.drewN k) (HD.out.drewN k) h0 hf hc (Q := fun w' => IsD B w' g { D with fuse := burn D.fuse, st := growL D.st y } ∧ Below B (W.drewN k) w') (fun W1 h1 hl1 hz1 hk1 => by
            have e0 : Blk W1 w.heap.size 25 [.pointer (some ⟨g, 0, none⟩)] := (hk1 _ (by omega)).trans K0.out
            have e1 : Blk W1 (w.heap.size + 1) 3 [.int .i64 y] := (hk1 _ (by omega)).trans K1.out
            exact (grow1_calls B g _ _ { D with fuse := burn D.fuse } y W1 h1 (by have h2 : (W.drewN k).heap.size = W.heap.size := rfl; omega) e0 e1 hym hs).mono fun e w' ⟨he, hI, hl⟩ => ⟨he, hI, hl1.trans hl⟩))
          clear hd h0 hx0 hx1
          go_enter Try.func12, Try.ntmps12
          go_upto_region 1 with fail
          clear hW
          go_wp2_with fail
          go_quiet (fail)
          go_wp2_with fail
          ((with_reducible refine (HA.out _).mono ?_); rintro e w1 ⟨rfl, hI, hl⟩)
          go_wp2_with fail
          go_ret
          exact ⟨by rw [HM.out]; rfl, by rw [HM.out]; exact hI, (bel_low HB.out).trans hl⟩
end Go.Proofs.Ytofmlmgdbcjeoaa.Dsk
