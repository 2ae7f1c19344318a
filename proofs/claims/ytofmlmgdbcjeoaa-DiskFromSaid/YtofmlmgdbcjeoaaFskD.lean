/- What this text proves: what a disk's Sync leaves of all other blocks. -/
import Derived.Test.YtofmlmgdbcjeoaaFskA
namespace Go.Proofs.Ytofmlmgdbcjeoaa.Dsk
open Go Go.RowKit Go.Proofs Go.Proofs.Ytofmlmgdbcjeoaa.Base Go.Proofs.YtofmlmgdbcjeoaaW.PrintLast
set_option linter.unusedSimpArgs false

set_option maxHeartbeats 1600000 in
theorem sync1F (F : Nat → Prop) (g b0 : Nat) (D : DM) (w : World) (h : IsF F w g D) (k0 : Blk w b0 25 [.pointer (some ⟨g, 0, none⟩)]) (hw : Wf D) (hn : D.wt.length ≤ 1000000) (hs : D.st.length ≤ 1000000) :
    Calls Try.prog 43 #[.pointer (some ⟨b0, 0, none⟩)] w fun e w' => e = .returned (.tuple #[]) ∧ IsF F w' g { D with st := putW D.st D.wt, wt := [] } ∧ Within F w w' := by
  obtain ⟨hB, v1, v2, hb, h1, h2, hF1, hF2⟩ := h
  obtain ⟨A2, c2, rfl⟩ := own_form h2
  obtain ⟨A1, c1, rfl⟩ := own_form h1
  have hN := own_own_ne h1 h2 (by decide)
  have HF1 := Lib.hid hF1
  clear hF1 hF2
  have hb0 := k0.cell 0
  have hg1 := hb.cell 1
  have H1 := Lib.hid h1; have H2 := Lib.hid h2; have HN := Lib.hid hN
  have HK := Lib.hid hb; have HK0 := Lib.hid k0
  have lg := hb.lt; have l0 := k0.lt
  have hlt0 : Blk w g 71 _ := hb
  clear hN hlt0
  obtain ⟨n, hnn⟩ : ∃ n, D.wt.length = n := ⟨_, rfl⟩
  have HL := Lib.hid hnn
  rw [hnn] at h2 hg1 hn HK
  go_enter Try.func43, Try.ntmps43
  clear hb h1 h2 k0
  go_wp2_with fail
  go_loopw [8] (fun i wr => ∃ k : Nat, k ≤ n ∧ i = .int .i64 k ∧ Blk wr b0 25 [.pointer (some ⟨g, 0, none⟩)] ∧ Blk wr g 71 [.slice A1 D.st.length c1, .slice A2 n c2, .int .i64 D.lim, .int .i64 D.fuse, .bool D.down] ∧ wr.ownsRow 0 9 1 (.slice A1 D.st.length c1) D.st.length (strs (putW D.st (D.wt.take k))) ∧ wr.ownsRow 0 76 2 (.slice A2 n c2) n (wcells D.wt) ∧ Within F w wr) (fun i _ => n - (intOf i).toNat)
  case atStart => exact ⟨0, Nat.zero_le _, rfl, HK0.out, HK.out, by simpa [putW] using H1.out, by simpa [HL.out] using H2.out, Within.refl _ _⟩
  case round =>
    obtain ⟨k, hk, rfl, r0, rg, r1, r2, hlow⟩ := hrel
    by_cases hlt : k < n
    · have hat := wcells_at D.wt k (by omega)
      obtain ⟨b2, rfl, hb2, hcell⟩ := own_cell r2 (by omega)
      have e0 := (hcell (k * 2) (by omega)).trans hat.1
      have e1 := (hcell (k * 2 + 1) (by omega)).trans hat.2
      have hx := hw D.wt[k] (List.getElem_mem _)
      have hsn := putW_snoc D.st D.wt k (by omega)
      generalize D.wt[k] = x at *
      obtain ⟨x, s⟩ := x
      obtain ⟨b1, rfl, hb1, -⟩ := own_cell r1 (by omega)
      clear hat hcell
      have z0 := (r0.alloc (.cells #[.int .i64 x, .string s] 76)).cell 0
      have zg := (rg.alloc (.cells #[.int .i64 x, .string s] 76)).cell 0
      have zn := Blk.new wr 76 [.int .i64 x, .string s]
      have zn0 := zn.cell 0
      have zn1 := zn.cell 1
      have hfr := (r1.alloc (.cells #[.int .i64 x, .string s] 76)).frozenAt x
      have hx0 : (0 : Int) ≤ x := by omega
      have hx1 : (x : Int) < D.st.length := by omega
      have hst := ((r1.alloc (.cells #[.int .i64 x, .string s] 76)).drew.stored x (.string s))
      obtain ⟨old, hcx⟩ : ∃ o, (wr.alloc (.cells #[.int .i64 x, .string s] 76)).cell? ⟨b1, x, none⟩ = some o := by
        have hy : x < (putW D.st (D.wt.take k)).length := by rw [putW_length]; exact hx
        exact ⟨_, ((r1.alloc _).cellAt x (by omega)).trans (strs_at _ _ hy)⟩
      have hsx : strs (putW D.st (D.wt.take (k + 1))) = (strs (putW D.st (D.wt.take k))).set x (.string s) := by rw [strs_set]; exact congrArg strs hsn
      have hne0 : (Value.slice (some ⟨b1, 0, none⟩) D.st.length c1).ownBlock ≠ some b0 := own_blk_ne r1 r0 (by decide)
      have hneg : (Value.slice (some ⟨b1, 0, none⟩) D.st.length c1).ownBlock ≠ some g := own_blk_ne r1 rg (by decide)
      have E := Lib.hid (show Blk ((wr.alloc (.cells #[.int .i64 x, .string s] 76)).setCell ⟨b1, x, none⟩ (.string s)) b0 25 [.pointer (some ⟨g, 0, none⟩)] ∧ Blk ((wr.alloc (.cells #[.int .i64 x, .string s] 76)).setCell ⟨b1, x, none⟩ (.string s)) g 71 _ ∧ ((wr.alloc (.cells #[.int .i64 x, .string s] 76)).setCell ⟨b1, x, none⟩ (.string s)).ownsRow 0 9 1 _ _ (strs (putW D.st (D.wt.take (k + 1)))) ∧ ((wr.alloc (.cells #[.int .i64 x, .string s] 76)).setCell ⟨b1, x, none⟩ (.string s)).ownsRow 0 76 2 _ _ (wcells D.wt) ∧ Within F w ((wr.alloc (.cells #[.int .i64 x, .string s] 76)).setCell ⟨b1, x, none⟩ (.string s)) from
        ⟨(r0.alloc _).far (by intro e; exact hne0 (by simp [Value.ownBlock, e])) _, (rg.alloc _).far (by intro e; exact hneg (by simp [Value.ownBlock, e])) _, by rw [hsx]; exact ((r1.alloc _).stored x (.string s)).1,
         own_set_far (r2.alloc _) (by rcases HN.out with h | h <;> intro e <;> simp_all [Value.ownBlock]) _ _, (hlow.alloc _).set (HF1.out b1 rfl) _ _⟩)
      clear hst hsx hne0 hneg r0 rg r1 r2 hlow zn
      go_wp2_with fail
      go_region
      go_wp2_with fail
      refine ⟨⟨k + 1, by omega, by go_num, E.out.1.drew, E.out.2.1.drew, E.out.2.2.1.drew, E.out.2.2.2.1.drew, E.out.2.2.2.2.drew⟩, by simp [intOf]; omega⟩
    · obtain rfl : k = n := by omega
      have z0 := r0.cell 0
      have f1 := rg.frozen 1
      have zc := rg.cell 1
      have E := Lib.hid (show IsF F (wr.setCell ⟨g, 1, none⟩ (.slice none 0 0)) g { D with st := putW D.st D.wt, wt := [] } from
        ⟨hB, _, _, rg.set_ 1 _, by rw [putW_length]; rw [List.take_of_length_le (by omega)] at r1; exact own_set_far r1 (own_blk_ne r1 rg (by decide)) _ _, ⟨by simp [wcells], .inl ⟨rfl, rfl⟩⟩, HF1.out, fun k hk => by simp [Value.ownBlock] at hk⟩)
      have EB := Lib.hid (hlow.set hB 1 (.slice none 0 0))
      clear r0 rg r1 r2 hlow
      go_wp2_with fail
      go_end0
      exact ⟨rfl, E.out, EB.out⟩

set_option maxHeartbeats 1600000 in
theorem syncF (F : Nat → Prop) (g : Nat) (D : DM) (w : World) (h : IsF F w g D) (hwf : Wf D) (hn : D.wt.length ≤ 1000000) (hs : D.st.length ≤ 1000000) (hf : D.fuse ≤ 9223372036854775807) :
    Calls Try.prog 15 #[.pointer (some ⟨g, 0, none⟩)] w fun e w' => e = .returned (.int .i64 (syncM D).2) ∧ IsF F w' g (syncM D).1 ∧ Within F w w' := by
  obtain ⟨W, hW, hb0, k0, hz⟩ := box1 w 25 (.pointer (some ⟨g, 0, none⟩))
  have hgw := h.lt
  have hD := h.below hb0
  have hBB := (Within.refl F w).then hb0
  have c0 := k0.cell 0
  obtain ⟨v1, v2, hb⟩ : ∃ v1 v2, Blk W g 71 [v1, v2, .int .i64 D.lim, .int .i64 D.fuse, .bool D.down] := hD.2.elim fun v1 h => h.elim fun v2 h => ⟨v1, v2, h.1⟩
  have c4 := hb.cell 4
  have K0 := Lib.hid k0; have HB := Lib.hid hBB; have HD := Lib.hid hD
  clear hb hz k0 hb0 hBB hD h
  by_cases hd : D.down = true
  · have HM : Hid (syncM D = (D, 2)) := by simp [Hid, syncM, hd]
    rw [hd] at c4
    clear hd
    go_enter Try.func15, Try.ntmps15
    go_upto_region 1 with fail
    clear hW
    go_wp2
    go_ret
    exact ⟨by rw [HM.out]; rfl, by rw [HM.out]; exact HD.out, HB.out⟩
  · rw [Bool.eq_false_iff.2 hd] at c4
    by_cases h0 : D.fuse = 0
    · have HM : Hid (syncM D = ({ D with down := true }, 2)) := by simp [Hid, syncM, hd, h0]
      have HA := Lib.hid (fun cs w1 h1 => acts_noF F g D 43 cs w1 h1 h0)
      clear hd h0
      go_enter Try.func15, Try.ntmps15
      go_upto_region 1 with fail
      clear hW
      go_wp2_with fail
      ((with_reducible refine (HA.out _ _ HD.out).mono ?_); rintro e w1 ⟨rfl, hI, hl⟩)
      go_wp2_with fail
      go_ret
      exact ⟨by rw [HM.out]; rfl, by rw [HM.out]; exact hI, HB.out.trans hl⟩
    · have HM : Hid (syncM D = ({ D with fuse := burn D.fuse, st := putW D.st D.wt, wt := [] }, 0)) := by simp [Hid, syncM, hd, h0]
      have hc : ∀ a W, (callFunc 43 a).run Try.prog W = .ok (.enter 43 a) W := fun a W => Go.Proofs.YtofmlmgdbcjeoaaW.PrintLast.enters_ Try.func43 (by kernel_rfl) rfl a W
      have HA := Lib.hid (acts_yesF F g D 43 #[.pointer (some ⟨w.heap.size, 0, none⟩)] W HD.out h0 hf hc (Q := fun w' => IsF F w' g { D with fuse := burn D.fuse, st := putW D.st D.wt, wt := [] } ∧ Within F W w') (fun W1 h1 hl1 hz1 hk1 => by
        have e0 : Blk W1 w.heap.size 25 [.pointer (some ⟨g, 0, none⟩)] := (hk1 _ (by omega)).trans K0.out
        exact (sync1F F g _ { D with fuse := burn D.fuse } W1 h1 e0 hwf hn hs).mono fun e w' ⟨he, hI, hl⟩ => ⟨he, hI, hl1.trans hl⟩))
      clear hd h0
      go_enter Try.func15, Try.ntmps15
      go_upto_region 1 with fail
      clear hW
      go_wp2_with fail
      ((with_reducible refine HA.out.mono ?_); rintro e w1 ⟨rfl, hI, hl⟩)
      go_wp2_with fail
      go_ret
      exact ⟨by rw [HM.out]; rfl, by rw [HM.out]; exact hI, HB.out.trans hl⟩
end Go.Proofs.Ytofmlmgdbcjeoaa.Dsk
