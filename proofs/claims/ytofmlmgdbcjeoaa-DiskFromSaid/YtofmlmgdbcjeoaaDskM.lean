/- What this text proves: what a disk's Crash comes to. -/
import Derived.Test.YtofmlmgdbcjeoaaDskL
namespace Go.Proofs.Ytofmlmgdbcjeoaa.Dsk
open Go Go.RowKit Go.Proofs Go.Proofs.Ytofmlmgdbcjeoaa.Base Go.Proofs.YtofmlmgdbcjeoaaW.PrintLast

def crashStep (st : List ByteArray) (p : (Nat × ByteArray) × Nat) : List ByteArray := st.set p.1.1 (tornB (st[p.1.1]?.getD ByteArray.empty) p.1.2 p.2)
def crashK (st : List ByteArray) (wt : List (Nat × ByteArray)) (ch : List Nat) (k : Nat) : List ByteArray := ((wt.zip ch).take k).foldl crashStep st
def crashL (st : List ByteArray) (wt : List (Nat × ByteArray)) (ch : List Nat) : List ByteArray := (wt.zip ch).foldl crashStep st
theorem crashK_all (st : List ByteArray) (wt : List (Nat × ByteArray)) (ch : List Nat) : crashK st wt ch wt.length = crashL st wt ch := by
  unfold crashK crashL
  rw [List.take_of_length_le (by rw [List.length_zip]; omega)]
theorem crashK_more (st : List ByteArray) (wt : List (Nat × ByteArray)) (ch : List Nat) (k : Nat) (h : ch.length ≤ k) : crashK st wt ch (k + 1) = crashK st wt ch k := by
  unfold crashK
  rw [List.take_of_length_le (by rw [List.length_zip]; omega), List.take_of_length_le (by rw [List.length_zip]; omega)]
theorem crashK_succ (st : List ByteArray) (wt : List (Nat × ByteArray)) (ch : List Nat) (k : Nat) (h : k < ch.length) (h' : k < wt.length) : crashK st wt ch (k + 1) = crashStep (crashK st wt ch k) (wt[k], ch[k]) := by
  unfold crashK
  rw [List.take_add_one, List.getElem?_eq_getElem (by rw [List.length_zip]; omega), List.foldl_append, List.getElem_zip]
  rfl
theorem crashStep_length (st : List ByteArray) (p : (Nat × ByteArray) × Nat) : (crashStep st p).length = st.length := by simp [crashStep]
theorem crash_fold_length (l : List ((Nat × ByteArray) × Nat)) : ∀ st : List ByteArray, (l.foldl crashStep st).length = st.length := by
  induction l with
  | nil => intro st; rfl
  | cons p l ih => intro st; rw [List.foldl_cons, ih, crashStep_length]
theorem crashK_length (st : List ByteArray) (wt : List (Nat × ByteArray)) (ch : List Nat) (k : Nat) : (crashK st wt ch k).length = st.length := crash_fold_length _ _
/-- Pages of 256 bytes. -/
def Full (st : List ByteArray) : Prop := ∀ s ∈ st, s.size = 256
def FullW (wt : List (Nat × ByteArray)) : Prop := ∀ x ∈ wt, x.2.size = 256
theorem full_set {st : List ByteArray} (h : Full st) (i : Nat) (s : ByteArray) (hs : s.size = 256) : Full (st.set i s) := by
  intro t ht
  rcases List.mem_or_eq_of_mem_set ht with h1 | h1
  · exact h t h1
  · rw [h1]; exact hs
theorem full_step {st : List ByteArray} (h : Full st) (p : (Nat × ByteArray) × Nat) (hp : p.1.1 < st.length) (hd : p.1.2.size = 256) : Full (crashStep st p) := by
  refine full_set h _ _ (torn_size _ _ _ ?_ hd)
  rw [List.getElem?_eq_getElem hp]
  exact h _ (List.getElem_mem _)
/-- The bytes lie in a block that the disk does not write. -/
def ByteArg (B : Nat) (w : World) (A : Option Addr) (ch : List Nat) : Prop :=
  (∀ c ∈ ch, c < 256) ∧ (ch = [] ∨ ∃ b o, A = some ⟨b, o, none⟩ ∧ (b < B ∨ ∃ cs, Blk w b 5 cs) ∧ b < w.heap.size ∧ ∀ j (h : j < ch.length), w.cell? ⟨b, o + j, none⟩ = some (.int .u8 (ch[j] : Nat)))

theorem ByteArg.below {B : Nat} {w w1 : World} {A : Option Addr} {ch : List Nat} (h : ByteArg B w A ch) (hb : Below w.heap.size w w1) : ByteArg B w1 A ch := by
  refine ⟨h.1, h.2.imp id ?_⟩
  rintro ⟨b, o, e, hor, hlt, hc⟩
  refine ⟨b, o, e, hor.imp id (fun ⟨cs, k⟩ => ⟨cs, k.step hb⟩), Nat.lt_of_lt_of_le hlt hb.size, fun j hj => (hb.cell (p := ⟨b, o + j, none⟩) hlt).trans (hc j hj)⟩
theorem ByteArg.stored {B : Nat} {w : World} {b3 o3 : Nat} {ch : List Nat} (h : ByteArg B w (some ⟨b3, o3, none⟩) ch) {b1 : Nat} (hne : b1 ≠ b3) (_hb : B ≤ b1) (x : Nat) (v : Value) : ByteArg B (w.setCell ⟨b1, x, none⟩ v) (some ⟨b3, o3, none⟩) ch := by
  refine ⟨h.1, h.2.imp id ?_⟩
  rintro ⟨b, o, e, hor, hlt, hc⟩
  have eb : b3 = b := by injection e with e; injection e
  subst eb
  refine ⟨b3, o, e, hor.imp id (fun ⟨cs, k⟩ => ⟨cs, k.far (Ne.symm hne) v⟩), by simpa [World.setCell] using hlt, fun j hj => ?_⟩
  exact (World.cell?_setCell_other _ _ _ _ (by intro e2; injection e2 with e3; exact hne e3)).trans (hc j hj)
theorem ByteArg.alloc {B : Nat} {w : World} {A : Option Addr} {ch : List Nat} (h : ByteArg B w A ch) (o : Obj) : ByteArg B (w.alloc o) A ch := h.below (bel_alloc (Below.refl _ _) o)
set_option linter.unusedSimpArgs false
set_option maxRecDepth 100000 in
set_option maxHeartbeats 6400000 in
theorem crash_calls (B g : Nat) (D : DM) (A3 : Option Addr) (c3 : Nat) (ch : List Nat) (w : World) (h : IsD B w g D) (hBw : B ≤ w.heap.size) (hw : Wf D) (hf : Full D.st) (hfw : FullW D.wt) (hn : D.wt.length ≤ 1000000) (hs : D.st.length ≤ 1000000) (hch : ByteArg B w A3 ch) :
    Calls Try.prog 16 #[.pointer (some ⟨g, 0, none⟩), .slice A3 ch.length c3] w fun e w' => e = .returned (.tuple #[]) ∧ IsD B w' g { D with st := crashL D.st D.wt ch, wt := [], down := false, fuse := -1 } ∧ Below B w w' := by
  obtain ⟨hB, v1, v2, hb, h1, h2⟩ := h
  obtain ⟨A2, c2, rfl⟩ := own_form h2
  obtain ⟨A1, c1, rfl⟩ := own_form h1
  have cg := hb.cell 1
  have HN := Lib.hid (own_own_ne h1 h2 (by decide))
  have H1 := Lib.hid h1; have H2 := Lib.hid h2; have HK := Lib.hid hb
  have lg := hb.lt
  obtain ⟨n, hnn⟩ : ∃ n, D.wt.length = n := ⟨_, rfl⟩
  obtain ⟨m, hm⟩ : ∃ m, ch.length = m := ⟨_, rfl⟩
  have HL := Lib.hid hnn; have HM := Lib.hid hm
  have HC := Lib.hid hch; have HF := Lib.hid hf
  have HT := Lib.hid torn_calls
  rw [hnn] at hn cg HK
  rw [hm]
  clear hb h1 h2 hnn hm hch hf
  go_enter Try.func16, Try.ntmps16
  go_wp2_with fail
  go_loopw [13] (fun i wr => ∃ k : Nat, k ≤ n ∧ i = .int .i64 k ∧ Blk wr g 71 [.slice A1 D.st.length c1, .slice A2 n c2, .int .i64 D.lim, .int .i64 D.fuse, .bool D.down] ∧ wr.ownsRow B 9 1 (.slice A1 D.st.length c1) D.st.length (strs (crashK D.st D.wt ch k)) ∧ wr.ownsRow B 76 2 (.slice A2 n c2) n (wcells D.wt) ∧ Full (crashK D.st D.wt ch k) ∧ Below B w wr ∧ ByteArg B wr A3 ch ∧ B ≤ wr.heap.size) (fun i _ => n - (intOf i).toNat)
  case atStart => exact ⟨0, Nat.zero_le _, rfl, HK.out, by simpa [crashK] using H1.out, by simpa [HL.out] using H2.out, by simpa [crashK] using HF.out, Below.refl _ _, HC.out, hBw⟩
  case round =>
    obtain ⟨k, hk, rfl, rg, r1, r2, rf, hlow, rch, hBr⟩ := hrel
    by_cases hlt : k < n
    · have hkl : k < D.wt.length := by rw [HL.out]; exact hlt
      have hat := wcells_at D.wt k hkl
      obtain ⟨b2, rfl, hb2, hcell⟩ := own_cell r2 (by omega)
      have e0 := (hcell (k * 2) (by omega)).trans hat.1
      have e1 := (hcell (k * 2 + 1) (by omega)).trans hat.2
      have hx := hw D.wt[k] (List.getElem_mem _)
      have hxs := hfw D.wt[k] (List.getElem_mem _)
      obtain ⟨b1, rfl, hb1, hrow⟩ := own_cell r1 (by omega)
      clear hat hcell
      by_cases hkc : k < m
      · have hkc' : decide ((k : Int) < m) = true := by simp; omega
        have hkc'' : (k : Int) < m := by omega
        have hkch : k < ch.length := by rw [HM.out]; exact hkc
        have hsucc := crashK_succ D.st D.wt ch k hkch hkl
        obtain ⟨hall, hor⟩ := rch
        have hor' := hor.resolve_left (by intro e; have := HM.out; rw [e] at this; simp at this; omega)
        obtain ⟨b3, o3, rfl, hb3, hb3l, hcell3⟩ := hor'
        have hcv := hcell3 k hkch
        have hcc := hall ch[k] (List.getElem_mem _)
        generalize ch[k] = cc at *
        generalize D.wt[k] = x at *
        obtain ⟨x, s⟩ := x
        simp only at hx hxs e0 e1
        have hlen : (crashK D.st D.wt ch k).length = D.st.length := crashK_length _ _ _ _
        have hst := full_step rf ((x, s), cc) (by rw [hlen]; exact hx) hxs
        rw [← hsucc] at hst
        have hge : (crashK D.st D.wt ch k)[x]? = some (crashK D.st D.wt ch k)[x] := List.getElem?_eq_getElem (by rw [hlen]; exact hx)
        obtain ⟨old, hold⟩ : ∃ old, (crashK D.st D.wt ch k)[x]'(by rw [hlen]; exact hx) = old := ⟨_, rfl⟩
        rw [hold] at hge
        have hso : old.size = 256 := by rw [← hold]; exact rf _ (List.getElem_mem _)
        have hsx : strs (crashK D.st D.wt ch (k + 1)) = (strs (crashK D.st D.wt ch k)).set x (.string (tornB old s cc)) := by rw [hsucc, strs_set]; simp only [crashStep, hge]; rfl
        have z1 := (hrow x (by omega)).trans (by simp [strs, hge] : (strs (crashK D.st D.wt ch k))[x]? = some (.string old))
        have hb1lt0 : b1 < wr.heap.size := (own_lt r1 b1 rfl).2
        have hneg : b1 ≠ g := fun e => own_blk_ne r1 rg (by decide) (by simp [Value.ownBlock, e])
        have hne3 : b1 ≠ b3 := by
          rcases hb3 with hb3 | ⟨cs, hb3⟩
          · omega
          · exact fun e => own_blk_ne r1 hb3 (by decide) (by simp [Value.ownBlock, e])
        have hg3 : g ≠ b3 := by
          rcases hb3 with hb3 | ⟨cs, hb3⟩
          · omega
          · exact blk_ne rg hb3 (by decide)
        have zo := (World.cell?_alloc_lt wr (.cells #[.int .i64 x, .string s] 76) ⟨b1, x, none⟩ hb1lt0).trans z1
        have zc := (World.cell?_alloc_lt wr (.cells #[.int .i64 x, .string s] 76) ⟨b3, o3 + k, none⟩ hb3l).trans hcv
        have hb1lt : b1 < (wr.alloc (.cells #[.int .i64 x, .string s] 76)).heap.size := by simp; omega
        have hBx : B ≤ (wr.alloc (.cells #[.int .i64 x, .string s] 76)).heap.size := by simp; omega
        have z0 := (rg.alloc (.cells #[.int .i64 x, .string s] 76)).cell 0
        have RX := Lib.hid (Blk.new wr 76 [.int .i64 x, .string s])
        have zx0 := RX.out.cell 0; have zx1 := RX.out.cell 1
        have hx0 : (0 : Int) ≤ x := by omega
        have hx1 : (x : Int) < D.st.length := by omega
        have HSO := Lib.hid hso; have HSS := Lib.hid hxs; have HST := Lib.hid hst; have HSX := Lib.hid hsx
        have RG := Lib.hid (rg.alloc (.cells #[.int .i64 x, .string s] 76)); have R1 := Lib.hid (r1.alloc (.cells #[.int .i64 x, .string s] 76)); have R2 := Lib.hid (r2.alloc (.cells #[.int .i64 x, .string s] 76))
        have RL := Lib.hid (low_then hlow hBr (bel_alloc (Below.refl _ _) (.cells #[.int .i64 x, .string s] 76)))
        have RC := Lib.hid ((show ByteArg B wr (some ⟨b3, o3, none⟩) ch from ⟨hall, .inr ⟨b3, o3, rfl, hb3, hb3l, hcell3⟩⟩).alloc (.cells #[.int .i64 x, .string s] 76))
        clear rg r1 r2 rf hlow hall hor hcell3 hst hsucc hge hold hso hsx hrow hx hxs z1 hcv hb3
        go_wp2_with fail
        refine start_ (n := 23) (S := fun w' => w'.cell? ⟨g, 0, none⟩ = some (.slice (some ⟨b1, 0, none⟩) D.st.length c1) ∧ w'.cell? ⟨wr.heap.size, 0, none⟩ = some (.int .i64 x) ∧ w'.cell? ⟨wr.heap.size, 1, none⟩ = some (.string s) ∧ w'.cell? ⟨b1, x, none⟩ = some (.string old) ∧ w'.cell? ⟨b3, o3 + k, none⟩ = some (.int .u8 cc)) (ds := [22]) #[false, false, false, false, false, false, false, false, false, false, false, false, false, false, false, false, false, false, false, false, false, false, false] (by kernel_rfl) rfl rfl ⟨z0, zx0, zx1, zo, zc⟩ (fun hHeld => ?_)
        refine pure_ (i := 0) (N := (some 22)) (v := ?_) (a' := ?_) #[true, false, false, false, false, false, false, false, false, false, false, false, false, false, false, false, false, false, false, false, false, false, false] rfl rfl (by kernel_rfl) (fun _ _ _ h => h) (Or.inl ⟨by rfl, ?_⟩) ?_ ?_
        rotate_left
        · intro w'
          go_simp
          with_reducible rfl
        rotate_left
        · simp only [Act.put, List.setIfInBounds_toArray, List.set_cons_zero, List.set_cons_succ, i64_w, i32_w]
          rfl
        refine pure_ (i := 1) (N := (some 23)) (v := ?_) (a' := ?_) #[true, true, false, false, false, false, false, false, false, false, false, false, false, false, false, false, false, false, false, false, false, false, false] rfl rfl (by kernel_rfl) (fun _ _ _ h => h) (Or.inl ⟨by rfl, ?_⟩) ?_ ?_
        rotate_left
        · intro w'
          go_simp
          with_reducible rfl
        rotate_left
        · simp only [Act.put, List.setIfInBounds_toArray, List.set_cons_zero, List.set_cons_succ, i64_w, i32_w]
          rfl
        refine pure_ (i := 2) (N := (some 24)) (v := ?_) (a' := ?_) #[true, true, true, false, false, false, false, false, false, false, false, false, false, false, false, false, false, false, false, false, false, false, false] rfl rfl (by kernel_rfl) (fun _ _ _ h => h) (Or.inl ⟨by rfl, ?_⟩) ?_ ?_
        rotate_left
        · intro w'
          go_simp
          with_reducible rfl
        rotate_left
        · simp only [Act.put, List.setIfInBounds_toArray, List.set_cons_zero, List.set_cons_succ, i64_w, i32_w]
          rfl
        refine take_ (i := 3) (N := (some 25)) (v := ?_) (a' := ?_) #[true, true, true, true, false, false, false, false, false, false, false, false, false, false, false, false, false, false, false, false, false, false, false] rfl rfl (by kernel_rfl) (fun _ _ _ h => h) (Or.inl ⟨by rfl, ?_⟩) hHeld ?_ ?_
        rotate_left
        · rintro w' ⟨s0, s1, s2, s3, s4⟩
          go_simp
          with_reducible rfl
        rotate_left
        · simp only [Act.put, List.setIfInBounds_toArray, List.set_cons_zero, List.set_cons_succ, i64_w, i32_w]
          rfl
        refine pure_ (i := 4) (N := (some 26)) (v := ?_) (a' := ?_) #[true, true, true, true, true, false, false, false, false, false, false, false, false, false, false, false, false, false, false, false, false, false, false] rfl rfl (by kernel_rfl) (fun _ _ _ h => h) (Or.inl ⟨by rfl, ?_⟩) ?_ ?_
        rotate_left
        · intro w'
          go_simp
          with_reducible rfl
        rotate_left
        · simp only [Act.put, List.setIfInBounds_toArray, List.set_cons_zero, List.set_cons_succ, i64_w, i32_w]
          rfl
        refine take_ (i := 5) (N := (some 27)) (v := ?_) (a' := ?_) #[true, true, true, true, true, true, false, false, false, false, false, false, false, false, false, false, false, false, false, false, false, false, false] rfl rfl (by kernel_rfl) (fun _ _ _ h => h) (Or.inl ⟨by rfl, ?_⟩) hHeld ?_ ?_
        rotate_left
        · rintro w' ⟨s0, s1, s2, s3, s4⟩
          go_simp
          with_reducible rfl
        rotate_left
        · simp only [Act.put, List.setIfInBounds_toArray, List.set_cons_zero, List.set_cons_succ, i64_w, i32_w]
          rfl
        refine pure_ (i := 6) (N := (some 28)) (v := ?_) (a' := ?_) #[true, true, true, true, true, true, true, false, false, false, false, false, false, false, false, false, false, false, false, false, false, false, false] rfl rfl (by kernel_rfl) (fun _ _ _ h => h) (Or.inl ⟨by rfl, ?_⟩) ?_ ?_
        rotate_left
        · intro w'
          go_simp
          with_reducible rfl
        rotate_left
        · simp only [Act.put, List.setIfInBounds_toArray, List.set_cons_zero, List.set_cons_succ, i64_w, i32_w]
          rfl
        refine pure_ (i := 7) (N := (some 29)) (v := ?_) (a' := ?_) #[true, true, true, true, true, true, true, true, false, false, false, false, false, false, false, false, false, false, false, false, false, false, false] rfl rfl (by kernel_rfl) (fun _ _ _ h => h) (Or.inl ⟨by rfl, ?_⟩) ?_ ?_
        rotate_left
        · intro w'
          go_simp
          with_reducible rfl
        rotate_left
        · simp only [Act.put, List.setIfInBounds_toArray, List.set_cons_zero, List.set_cons_succ, i64_w, i32_w]
          rfl
        refine pure_ (i := 8) (N := (some 30)) (v := ?_) (a' := ?_) #[true, true, true, true, true, true, true, true, true, false, false, false, false, false, false, false, false, false, false, false, false, false, false] rfl rfl (by kernel_rfl) (fun _ _ _ h => h) (Or.inl ⟨by rfl, ?_⟩) ?_ ?_
        rotate_left
        · intro w'
          go_simp
          with_reducible rfl
        rotate_left
        · simp only [Act.put, List.setIfInBounds_toArray, List.set_cons_zero, List.set_cons_succ, i64_w, i32_w]
          rfl
        refine take_ (i := 9) (N := (some 31)) (v := ?_) (a' := ?_) #[true, true, true, true, true, true, true, true, true, true, false, false, false, false, false, false, false, false, false, false, false, false, false] rfl rfl (by kernel_rfl) (fun _ _ _ h => h) (Or.inl ⟨by rfl, ?_⟩) hHeld ?_ ?_
        rotate_left
        · rintro w' ⟨s0, s1, s2, s3, s4⟩
          go_simp
          with_reducible rfl
        rotate_left
        · simp only [Act.put, List.setIfInBounds_toArray, List.set_cons_zero, List.set_cons_succ, i64_w, i32_w]
          rfl
        refine pure_ (i := 10) (N := (some 32)) (v := ?_) (a' := ?_) #[true, true, true, true, true, true, true, true, true, true, true, false, false, false, false, false, false, false, false, false, false, false, false] rfl rfl (by kernel_rfl) (fun _ _ _ h => h) (Or.inl ⟨by rfl, ?_⟩) ?_ ?_
        rotate_left
        · intro w'
          go_simp
          with_reducible rfl
        rotate_left
        · simp only [Act.put, List.setIfInBounds_toArray, List.set_cons_zero, List.set_cons_succ, i64_w, i32_w]
          rfl
        refine take_ (i := 11) (N := (some 33)) (v := ?_) (a' := ?_) #[true, true, true, true, true, true, true, true, true, true, true, true, false, false, false, false, false, false, false, false, false, false, false] rfl rfl (by kernel_rfl) (fun _ _ _ h => h) (Or.inl ⟨by rfl, ?_⟩) hHeld ?_ ?_
        rotate_left
        · rintro w' ⟨s0, s1, s2, s3, s4⟩
          go_simp
          with_reducible rfl
        rotate_left
        · simp only [Act.put, List.setIfInBounds_toArray, List.set_cons_zero, List.set_cons_succ, i64_w, i32_w]
          rfl
        refine pure_ (i := 12) (N := (some 34)) (v := ?_) (a' := ?_) #[true, true, true, true, true, true, true, true, true, true, true, true, true, false, false, false, false, false, false, false, false, false, false] rfl rfl (by kernel_rfl) (fun _ _ _ h => h) (Or.inl ⟨by rfl, ?_⟩) ?_ ?_
        rotate_left
        · intro w'
          go_simp
          with_reducible rfl
        rotate_left
        · simp only [Act.put, List.setIfInBounds_toArray, List.set_cons_zero, List.set_cons_succ, i64_w, i32_w]
          rfl
        refine take_ (i := 13) (N := (some 35)) (v := ?_) (a' := ?_) #[true, true, true, true, true, true, true, true, true, true, true, true, true, true, false, false, false, false, false, false, false, false, false] rfl rfl (by kernel_rfl) (fun _ _ _ h => h) (Or.inl ⟨by rfl, ?_⟩) hHeld ?_ ?_
        rotate_left
        · rintro w' ⟨s0, s1, s2, s3, s4⟩
          go_simp
          with_reducible rfl
        rotate_left
        · simp only [Act.put, List.setIfInBounds_toArray, List.set_cons_zero, List.set_cons_succ, i64_w, i32_w]
          rfl
        refine pure_ (i := 14) (N := (some 36)) (v := ?_) (a' := ?_) #[true, true, true, true, true, true, true, true, true, true, true, true, true, true, true, false, false, false, false, false, false, false, false] rfl rfl (by kernel_rfl) (fun _ _ _ h => h) (Or.inl ⟨by rfl, ?_⟩) ?_ ?_
        rotate_left
        · intro w'
          go_simp
          with_reducible rfl
        rotate_left
        · simp only [Act.put, List.setIfInBounds_toArray, List.set_cons_zero, List.set_cons_succ, i64_w, i32_w]
          rfl
        refine take_ (i := 15) (N := (some 37)) (v := ?_) (a' := ?_) #[true, true, true, true, true, true, true, true, true, true, true, true, true, true, true, true, false, false, false, false, false, false, false] rfl rfl (by kernel_rfl) (fun _ _ _ h => h) (Or.inl ⟨by rfl, ?_⟩) hHeld ?_ ?_
        rotate_left
        · rintro w' ⟨s0, s1, s2, s3, s4⟩
          go_simp
          with_reducible rfl
        rotate_left
        · simp only [Act.put, List.setIfInBounds_toArray, List.set_cons_zero, List.set_cons_succ, i64_w, i32_w]
          rfl
        refine pure_ (i := 16) (N := (some 38)) (v := ?_) (a' := ?_) #[true, true, true, true, true, true, true, true, true, true, true, true, true, true, true, true, true, false, false, false, false, false, false] rfl rfl (by kernel_rfl) (fun _ _ _ h => h) (Or.inl ⟨by rfl, ?_⟩) ?_ ?_
        rotate_left
        · intro w'
          go_simp
          with_reducible rfl
        rotate_left
        · simp only [Act.put, List.setIfInBounds_toArray, List.set_cons_zero, List.set_cons_succ, i64_w, i32_w]
          rfl
        refine pure_ (i := 17) (N := (some 39)) (v := ?_) (a' := ?_) #[true, true, true, true, true, true, true, true, true, true, true, true, true, true, true, true, true, true, false, false, false, false, false] rfl rfl (by kernel_rfl) (fun _ _ _ h => h) (Or.inl ⟨by rfl, ?_⟩) ?_ ?_
        rotate_left
        · intro w'
          go_simp
          with_reducible rfl
        rotate_left
        · simp only [Act.put, List.setIfInBounds_toArray, List.set_cons_zero, List.set_cons_succ, i64_w, i32_w]
          rfl
        refine pure_ (i := 18) (N := (some 40)) (v := ?_) (a' := ?_) #[true, true, true, true, true, true, true, true, true, true, true, true, true, true, true, true, true, true, true, false, false, false, false] rfl rfl (by kernel_rfl) (fun _ _ _ h => h) (Or.inl ⟨by rfl, ?_⟩) ?_ ?_
        rotate_left
        · intro w'
          go_simp
          with_reducible rfl
        rotate_left
        · simp only [Act.put, List.setIfInBounds_toArray, List.set_cons_zero, List.set_cons_succ, i64_w, i32_w]
          rfl
        refine take_ (i := 19) (N := (some 41)) (v := ?_) (a' := ?_) #[true, true, true, true, true, true, true, true, true, true, true, true, true, true, true, true, true, true, true, true, false, false, false] rfl rfl (by kernel_rfl) (fun _ _ _ h => h) (Or.inl ⟨by rfl, ?_⟩) hHeld ?_ ?_
        rotate_left
        · rintro w' ⟨s0, s1, s2, s3, s4⟩
          go_simp
          with_reducible rfl
        rotate_left
        · simp only [Act.put, List.setIfInBounds_toArray, List.set_cons_zero, List.set_cons_succ, i64_w, i32_w]
          rfl
        refine one_ (i := 20) (N := (some 42)) #[true, true, true, true, true, true, true, true, true, true, true, true, true, true, true, true, true, true, true, true, true, false, false] rfl rfl (by kernel_rfl) (by decide) (fun K hK => ?_)
        refine goes_ Try.func44 (by kernel_rfl) rfl #[.string old, .string s, .int .u8 cc] (by rfl) rfl rfl (by (try simp only [List.map_toArray, List.map_cons, List.map_nil]); first | done | rfl) ?_
        refine (HT.out old s cc hcc HSO.out HSS.out _).mono ?_
        rintro e w1 ⟨rfl, hb1'⟩
        replace hb1' := bel_then (bel_drew (Below.refl _ (wr.alloc (.cells #[.int .i64 x, .string s] 76)))) hb1'
        have PG := Lib.hid (RG.out.step hb1'); have PX := Lib.hid (RX.out.step hb1'); have P1 := Lib.hid (own_below R1.out hb1'); have P2 := Lib.hid (own_below R2.out hb1'); have PC := Lib.hid (RC.out.below hb1'); have PL := Lib.hid (low_then RL.out hBx hb1')
        have hBw1 : B ≤ w1.heap.size := Nat.le_trans hBx hb1'.size
        have hce := (hb1'.cell (p := ⟨b3, o3 + k, none⟩) (by show b3 < _; simp; omega)).trans zc
        have hrx := (hb1'.cell (p := ⟨b1, x, none⟩) hb1lt).trans zo
        clear hb1'
        refine ⟨_, rfl, ?_⟩
        refine hK.out _ _ ⟨PG.out.cell 0, PX.out.cell 0, PX.out.cell 1, hrx, hce⟩ (fun hHeld => ?_)
        clear hK K
        refine norm_ (a' := ?_) ?_ ?_
        rotate_left
        · show Act.put _ (some 42) _ = _
          simp only [Act.put, List.setIfInBounds_toArray, List.set_cons_zero, List.set_cons_succ, i64_w, i32_w]
          rfl
        refine pure_ (i := 21) (N := (some 43)) (v := ?_) (a' := ?_) #[true, true, true, true, true, true, true, true, true, true, true, true, true, true, true, true, true, true, true, true, true, true, false] rfl rfl (by kernel_rfl) (fun _ _ _ h => h) (Or.inl ⟨by rfl, ?_⟩) ?_ ?_
        rotate_left
        · intro w'
          go_simp
          with_reducible rfl
        rotate_left
        · simp only [Act.put, List.setIfInBounds_toArray, List.set_cons_zero, List.set_cons_succ, i64_w, i32_w]
          rfl
        refine last_ (i := 22) (N := none) #[true, true, true, true, true, true, true, true, true, true, true, true, true, true, true, true, true, true, true, true, true, true, true] rfl rfl (by kernel_rfl) (by decide) (fun K hK => ?_)
        have hfz := P1.out.frozenAt x
        refine skip_ (by rfl) rfl (by go_simp; rfl) ?_
        refine hK.out _ _ ?_
        clear hK K
        refine done_ (by kernel_rfl) ?_
        go_wp2_with fail
        refine ⟨⟨k + 1, by omega, by go_num, ?_, ?_, ?_, HST.out, ?_, ?_, ?_⟩, by simp [intOf]; omega⟩
        · exact PG.out.far (Ne.symm hneg) _
        · rw [HSX.out]; exact (P1.out.stored x _).1
        · exact own_set_far P2.out (by rcases HN.out with h | h <;> intro e <;> simp_all [Value.ownBlock]) _ _
        · exact low_set PL.out hb1 _ _
        · exact PC.out.stored hne3 hb1 x _
        · simp [World.setCell]; exact hBw1
      · have hkc' : decide ((k : Int) < m) = false := by simp; omega
        have hsame := crashK_more D.st D.wt ch k (by rw [HM.out]; omega)
        rw [← hsame] at r1 rf
        generalize D.wt[k] = x at *
        obtain ⟨x, s⟩ := x
        have RG := Lib.hid (rg.alloc (.cells #[.int .i64 x, .string s] 76)); have R1 := Lib.hid (r1.alloc (.cells #[.int .i64 x, .string s] 76)); have R2 := Lib.hid (r2.alloc (.cells #[.int .i64 x, .string s] 76)); have RF := Lib.hid rf
        have RL := Lib.hid (low_then hlow hBr (bel_alloc (Below.refl _ _) (.cells #[.int .i64 x, .string s] 76)))
        have RC := Lib.hid rch
        clear rg r1 r2 rf hlow rch hsame hrow hx hxs
        go_wp2_with fail
        refine ⟨⟨k + 1, by omega, by go_num, RG.out, R1.out, R2.out, RF.out, RL.out, ?_, by simp; omega⟩, by simp [intOf]; omega⟩
        exact RC.out.alloc _
    · obtain rfl : k = n := by omega
      rw [show crashK D.st D.wt ch k = crashL D.st D.wt ch by rw [← HL.out, crashK_all]] at r1
      have c1' := rg.cell 1
      have E := Lib.hid (show IsD B (((wr.setCell ⟨g, 1, none⟩ (.slice none 0 0)).setCell ⟨g, 4, none⟩ (.bool false)).setCell ⟨g, 3, none⟩ (.int .i64 (-1))) g { D with st := crashL D.st D.wt ch, wt := [], down := false, fuse := -1 } from by
        have q : IsD B (wr.setCell ⟨g, 1, none⟩ (.slice none 0 0)) g { D with st := crashL D.st D.wt ch, wt := [] } :=
          ⟨hB, _, _, by simp only [crashL, crash_fold_length]; exact rg.set_ 1 _, by simp only [crashL, crash_fold_length]; exact own_set_far r1 (own_blk_ne r1 rg (by decide)) _ _, ⟨by simp [wcells], .inl ⟨rfl, rfl⟩⟩⟩
        exact (q.setDown false).fuse (-1))
      have EB := Lib.hid (low_set (low_set (low_set hlow hB 1 (.slice none 0 0)) hB 4 (.bool false)) hB 3 (.int .i64 (-1)))
      have f1 := rg.frozen 1; have f3 := rg.frozen 3; have f4 := rg.frozen 4
      have d3 := rg.cell 3; have d4 := rg.cell 4
      clear rg r1 r2 rf hlow rch
      go_wp2_with fail
      go_end0
      exact ⟨rfl, E.out, EB.out⟩
end Go.Proofs.Ytofmlmgdbcjeoaa.Dsk
