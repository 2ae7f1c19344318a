/- What this text proves: what a disk's Sync comes to. -/
import Derived.Test.YtofmlmgdbcjeoaaDskC
import Derived.BigRegion
namespace Go.Proofs.Ytofmlmgdbcjeoaa.Dsk
open Go Go.RowKit Go.Proofs.Ytofmlmgdbcjeoaa.Base

theorem wcells_length (l : List (Nat × ByteArray)) : (wcells l).length = l.length * 2 := by
  induction l with
  | nil => rfl
  | cons x l ih => rw [show wcells (x :: l) = wcell x ++ wcells l from rfl, List.length_append, ih]; simp [wcell]; omega
theorem wcells_at (l : List (Nat × ByteArray)) : ∀ k (h : k < l.length), (wcells l)[k * 2]? = some (.int .i64 (l[k].1 : Nat)) ∧ (wcells l)[k * 2 + 1]? = some (.string l[k].2) := by
  induction l with
  | nil => intro k h; exact absurd h (by simp)
  | cons x l ih =>
    intro k h
    rw [show wcells (x :: l) = [.int .i64 x.1, .string x.2] ++ wcells l from rfl]
    cases k with
    | zero => exact ⟨rfl, rfl⟩
    | succ k =>
      have := ih k (by simpa using h)
      rw [List.getElem?_append_right (by simp only [List.length_cons, List.length_nil]; omega), List.getElem?_append_right (by simp only [List.length_cons, List.length_nil]; omega)]
      simp only [List.length_cons, List.length_nil, List.getElem_cons_succ]
      rw [show (k + 1) * 2 - (0 + 1 + 1) = k * 2 by omega, show (k + 1) * 2 + 1 - (0 + 1 + 1) = k * 2 + 1 by omega]
      exact this
theorem strs_set (l : List ByteArray) (i : Nat) (s : ByteArray) : (strs l).set i (.string s) = strs (l.set i s) := by simp [strs, List.map_set]
theorem strs_at (l : List ByteArray) (i : Nat) (h : i < l.length) : (strs l)[i]? = some (.string l[i]) := by simp [strs, h]
/-- What waits, written. -/
def putW (st : List ByteArray) (wt : List (Nat × ByteArray)) : List ByteArray := wt.foldl (fun st x => st.set x.1 x.2) st
theorem putW_snoc (st : List ByteArray) (wt : List (Nat × ByteArray)) (k : Nat) (h : k < wt.length) : putW st (wt.take (k + 1)) = (putW st (wt.take k)).set wt[k].1 wt[k].2 := by
  unfold putW
  rw [List.take_add_one, List.getElem?_eq_getElem h, List.foldl_append]
  rfl
theorem putW_length (wt : List (Nat × ByteArray)) : ∀ st : List ByteArray, (putW st wt).length = st.length := by
  induction wt with
  | nil => intro st; rfl
  | cons x l ih => intro st; rw [show putW st (x :: l) = putW (st.set x.1 x.2) l from rfl, ih]; simp
def Wf (D : DM) : Prop := ∀ x ∈ D.wt, x.1 < D.st.length

set_option maxHeartbeats 1600000 in
theorem sync1_calls (B g b0 : Nat) (D : DM) (w : World) (h : IsD B w g D) (hBw : B ≤ w.heap.size) (k0 : Blk w b0 25 [.pointer (some ⟨g, 0, none⟩)]) (hw : Wf D) (hn : D.wt.length ≤ 1000000) (hs : D.st.length ≤ 1000000) :
    Calls Try.prog 43 #[.pointer (some ⟨b0, 0, none⟩)] w fun e w' => e = .returned (.tuple #[]) ∧ IsD B w' g { D with st := putW D.st D.wt, wt := [] } ∧ Below B w w' := by
  obtain ⟨hB, v1, v2, hb, h1, h2⟩ := h
  obtain ⟨A2, c2, rfl⟩ := own_form h2
  obtain ⟨A1, c1, rfl⟩ := own_form h1
  have hN := own_own_ne h1 h2 (by decide)
  have hb0 := k0.cell 0
  have hg1 := hb.cell 1
  have H1 := Lib.hid h1; have H2 := Lib.hid h2; have HN := Lib.hid hN
  have HK := Lib.hid hb; have HK0 := Lib.hid k0
  have lg := hb.lt; have l0 := k0.lt
  have hlt0 : Blk w g 71 _ := hb
  clear hN hlt0
  obtain ⟨n, hnn⟩ : ∃ n, D.wt.length = n := ⟨_, rfl⟩
  have HL := Lib.hid hnn
  rw [hnn] at h2 hg1 hn HK
  go_enter Try.func43, Try.ntmps43
  clear hb h1 h2 k0
  go_wp2_with fail
  go_loopw [8] (fun i wr => ∃ k : Nat, k ≤ n ∧ i = .int .i64 k ∧ Blk wr b0 25 [.pointer (some ⟨g, 0, none⟩)] ∧ Blk wr g 71 [.slice A1 D.st.length c1, .slice A2 n c2, .int .i64 D.lim, .int .i64 D.fuse, .bool D.down] ∧ wr.ownsRow B 9 1 (.slice A1 D.st.length c1) D.st.length (strs (putW D.st (D.wt.take k))) ∧ wr.ownsRow B 76 2 (.slice A2 n c2) n (wcells D.wt) ∧ Below B w wr ∧ B ≤ wr.heap.size) (fun i _ => n - (intOf i).toNat)
  case atStart => exact ⟨0, Nat.zero_le _, rfl, HK0.out, HK.out, by simpa [putW] using H1.out, by simpa [HL.out] using H2.out, Below.refl _ _, hBw⟩
  case round =>
    obtain ⟨k, hk, rfl, r0, rg, r1, r2, hlow, hBr⟩ := hrel
    by_cases hlt : k < n
    · have hat := wcells_at D.wt k (by omega)
      obtain ⟨b2, rfl, hb2, hcell⟩ := own_cell r2 (by omega)
      have e0 := (hcell (k * 2) (by omega)).trans hat.1
      have e1 := (hcell (k * 2 + 1) (by omega)).trans hat.2
      have hx := hw D.wt[k] (List.getElem_mem _)
      have hsn := putW_snoc D.st D.wt k (by omega)
      generalize D.wt[k] = x at *
      obtain ⟨x, s⟩ := x
      obtain ⟨b1, rfl, hb1, -⟩ := own_cell r1 (by omega)
      clear hat hcell
      have z0 := (r0.alloc (.cells #[.int .i64 x, .string s] 76)).cell 0
      have zg := (rg.alloc (.cells #[.int .i64 x, .string s] 76)).cell 0
      have zn := Blk.new wr 76 [.int .i64 x, .string s]
      have zn0 := zn.cell 0
      have zn1 := zn.cell 1
      have hfr := (r1.alloc (.cells #[.int .i64 x, .string s] 76)).frozenAt x
      have hx0 : (0 : Int) ≤ x := by omega
      have hx1 : (x : Int) < D.st.length := by omega
      have hst := ((r1.alloc (.cells #[.int .i64 x, .string s] 76)).drew.stored x (.string s))
      obtain ⟨old, hcx⟩ : ∃ o, (wr.alloc (.cells #[.int .i64 x, .string s] 76)).cell? ⟨b1, x, none⟩ = some o := by
        have hy : x < (putW D.st (D.wt.take k)).length := by rw [putW_length]; exact hx
        exact ⟨_, ((r1.alloc _).cellAt x (by omega)).trans (strs_at _ _ hy)⟩
      have hsx : strs (putW D.st (D.wt.take (k + 1))) = (strs (putW D.st (D.wt.take k))).set x (.string s) := by rw [strs_set]; exact congrArg strs hsn
      have hne0 : (Value.slice (some ⟨b1, 0, none⟩) D.st.length c1).ownBlock ≠ some b0 := own_blk_ne r1 r0 (by decide)
      have hneg : (Value.slice (some ⟨b1, 0, none⟩) D.st.length c1).ownBlock ≠ some g := own_blk_ne r1 rg (by decide)
      have E := Lib.hid (show Blk ((wr.alloc (.cells #[.int .i64 x, .string s] 76)).setCell ⟨b1, x, none⟩ (.string s)) b0 25 [.pointer (some ⟨g, 0, none⟩)] ∧ Blk ((wr.alloc (.cells #[.int .i64 x, .string s] 76)).setCell ⟨b1, x, none⟩ (.string s)) g 71 _ ∧ ((wr.alloc (.cells #[.int .i64 x, .string s] 76)).setCell ⟨b1, x, none⟩ (.string s)).ownsRow B 9 1 _ _ (strs (putW D.st (D.wt.take (k + 1)))) ∧ ((wr.alloc (.cells #[.int .i64 x, .string s] 76)).setCell ⟨b1, x, none⟩ (.string s)).ownsRow B 76 2 _ _ (wcells D.wt) ∧ Below B w ((wr.alloc (.cells #[.int .i64 x, .string s] 76)).setCell ⟨b1, x, none⟩ (.string s)) ∧ B ≤ ((wr.alloc (.cells #[.int .i64 x, .string s] 76)).setCell ⟨b1, x, none⟩ (.string s)).heap.size from
        ⟨(r0.alloc _).far (by intro e; exact hne0 (by simp [Value.ownBlock, e])) _, (rg.alloc _).far (by intro e; exact hneg (by simp [Value.ownBlock, e])) _, by rw [hsx]; exact ((r1.alloc _).stored x (.string s)).1,
         own_set_far (r2.alloc _) (by rcases HN.out with h | h <;> intro e <;> simp_all [Value.ownBlock]) _ _, low_set (low_then hlow hBr (bel_alloc (Below.refl _ _) _)) hb1 _ _, by simp [World.setCell]; omega⟩)
      clear hst hsx hne0 hneg r0 rg r1 r2 hlow zn
      go_wp2_with fail
      go_region
      go_wp2_with fail
      refine ⟨⟨k + 1, by omega, by go_num, E.out.1.drew, E.out.2.1.drew, E.out.2.2.1.drew, E.out.2.2.2.1.drew, E.out.2.2.2.2.1.drew, E.out.2.2.2.2.2⟩, by simp [intOf]; omega⟩
    · obtain rfl : k = n := by omega
      have z0 := r0.cell 0
      have f1 := rg.frozen 1
      have zc := rg.cell 1
      have E := Lib.hid (show IsD B (wr.setCell ⟨g, 1, none⟩ (.slice none 0 0)) g { D with st := putW D.st D.wt, wt := [] } from
        ⟨hB, _, _, rg.set_ 1 _, by rw [putW_length]; rw [List.take_of_length_le (by omega)] at r1; exact own_set_far r1 (own_blk_ne r1 rg (by decide)) _ _, ⟨by simp [wcells], .inl ⟨rfl, rfl⟩⟩⟩)
      have EB := Lib.hid (low_set hlow hB 1 (.slice none 0 0))
      clear r0 rg r1 r2 hlow
      go_wp2_with fail
      go_end0
      exact ⟨rfl, E.out, EB.out⟩

def syncM (D : DM) : DM × Int :=
  if D.down = true then (D, 2) else if D.fuse = 0 then ({ D with down := true }, 2) else ({ D with fuse := burn D.fuse, st := putW D.st D.wt, wt := [] }, 0)
theorem box1 (w : World) (t1 : TypeId) (a : Value) : ∃ W, w.alloc (.cells #[a] t1) = W ∧ Below w.heap.size w W ∧ Blk W w.heap.size t1 [a] ∧ W.heap.size = w.heap.size + 1 :=
  ⟨_, rfl, bel_alloc (Below.refl _ _) _, Blk.new w t1 [a], by simp⟩
set_option maxHeartbeats 1600000 in
theorem sync_calls (B g : Nat) (D : DM) (w : World) (h : IsD B w g D) (hBw : B ≤ w.heap.size) (hwf : Wf D) (hn : D.wt.length ≤ 1000000) (hs : D.st.length ≤ 1000000) (hf : D.fuse ≤ 9223372036854775807) :
    Calls Try.prog 15 #[.pointer (some ⟨g, 0, none⟩)] w fun e w' => e = .returned (.int .i64 (syncM D).2) ∧ IsD B w' g (syncM D).1 ∧ Below B w w' := by
  obtain ⟨W, hW, hb0, k0, hz⟩ := box1 w 25 (.pointer (some ⟨g, 0, none⟩))
  have hgw := h.lt
  have hD := h.below hb0
  have hBB := low_then (Below.refl B w) hBw hb0
  have hB : B ≤ W.heap.size := by omega
  have c0 := k0.cell 0
  obtain ⟨v1, v2, hb⟩ : ∃ v1 v2, Blk W g 71 [v1, v2, .int .i64 D.lim, .int .i64 D.fuse, .bool D.down] := hD.2.elim fun v1 h => h.elim fun v2 h => ⟨v1, v2, h.1⟩
  have c4 := hb.cell 4
  have K0 := Lib.hid k0; have HB := Lib.hid hBB; have HD := Lib.hid hD
  clear hb hz k0 hb0 hBB hD h
  by_cases hd : D.down = true
  · have HM : Hid (syncM D = (D, 2)) := by simp [Hid, syncM, hd]
    rw [hd] at c4
    clear hd
    go_enter Try.func15, Try.ntmps15
    go_upto_region 1 with fail
    clear hW
    go_wp2
    go_ret
    exact ⟨by rw [HM.out]; rfl, by rw [HM.out]; exact HD.out, HB.out⟩
  · rw [Bool.eq_false_iff.2 hd] at c4
    by_cases h0 : D.fuse = 0
    · have HM : Hid (syncM D = ({ D with down := true }, 2)) := by simp [Hid, syncM, hd, h0]
      have HA := Lib.hid (fun cs w1 h1 => acts_no B g D 43 cs w1 h1 h0)
      clear hd h0
      go_enter Try.func15, Try.ntmps15
      go_upto_region 1 with fail
      clear hW
      go_wp2_with fail
      ((with_reducible refine (HA.out _ _ HD.out).mono ?_); rintro e w1 ⟨rfl, hI, hl⟩)
      go_wp2_with fail
      go_ret
      exact ⟨by rw [HM.out]; rfl, by rw [HM.out]; exact hI, HB.out.trans hl⟩
    · have HM : Hid (syncM D = ({ D with fuse := burn D.fuse, st := putW D.st D.wt, wt := [] }, 0)) := by simp [Hid, syncM, hd, h0]
      have hc : ∀ a W, (callFunc 43 a).run Try.prog W = .ok (.enter 43 a) W := fun a W => Go.Proofs.YtofmlmgdbcjeoaaW.PrintLast.enters_ Try.func43 (by kernel_rfl) rfl a W
      have HA := Lib.hid (acts_yes B g D 43 #[.pointer (some ⟨w.heap.size, 0, none⟩)] W HD.out h0 hf hc (Q := fun w' => IsD B w' g { D with fuse := burn D.fuse, st := putW D.st D.wt, wt := [] } ∧ Below B W w') (fun W1 h1 hl1 hz1 hk1 => by
        have e0 : Blk W1 w.heap.size 25 [.pointer (some ⟨g, 0, none⟩)] := (hk1 _ (by omega)).trans K0.out
        exact (sync1_calls B g _ { D with fuse := burn D.fuse } W1 h1 (by omega) e0 hwf hn hs).mono fun e w' ⟨he, hI, hl⟩ => ⟨he, hI, hl1.trans hl⟩))
      clear hd h0
      go_enter Try.func15, Try.ntmps15
      go_upto_region 1 with fail
      clear hW
      go_wp2_with fail
      ((with_reducible refine HA.out.mono ?_); rintro e w1 ⟨rfl, hI, hl⟩)
      go_wp2_with fail
      go_ret
      exact ⟨by rw [HM.out]; rfl, by rw [HM.out]; exact hI, HB.out.trans hl⟩
end Go.Proofs.Ytofmlmgdbcjeoaa.Dsk
