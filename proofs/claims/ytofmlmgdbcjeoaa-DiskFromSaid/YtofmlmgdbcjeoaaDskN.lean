/- What this text proves: what From and New come to. -/
import Derived.Test.YtofmlmgdbcjeoaaDskM
namespace Go.Proofs.Ytofmlmgdbcjeoaa.Dsk
open Go Go.RowKit Go.Proofs Go.Proofs.Ytofmlmgdbcjeoaa.Base

/-- A list of texts, lying anywhere. -/
def StrArg (w : World) (A : Option Addr) (l : List ByteArray) : Prop :=
  ∀ j (h : j < l.length), ∃ b o, A = some ⟨b, o, none⟩ ∧ b < w.heap.size ∧ w.cell? ⟨b, o + j, none⟩ = some (.string l[j])
theorem StrArg.below {w w1 : World} {A : Option Addr} {l : List ByteArray} (h : StrArg w A l) (hb : Below w.heap.size w w1) : StrArg w1 A l := fun j hj =>
  let ⟨b, o, e, hl, hc⟩ := h j hj
  ⟨b, o, e, Nat.lt_of_lt_of_le hl hb.size, (hb.cell (p := ⟨b, o + j, none⟩) hl).trans hc⟩
def badP (s : ByteArray) : Bool := s.size != 256
theorem from1_calls (s : ByteArray) (w : World) : Calls Try.prog 48 #[.string s] w fun e w' => e = .returned (.bool (badP s)) ∧ w = w' := by
  have H : Hid (badP s = ((s.size : Int) != 256)) := by
    unfold Hid badP
    rw [Bool.eq_iff_iff]
    simp
    omega
  go_enter Try.func48, Try.ntmps48
  go_wp2
  go_ret
  exact ⟨by rw [H.out]; rfl, rfl⟩
set_option maxHeartbeats 1600000 in
theorem index_calls (A : Option Addr) (c : Nat) (l : List ByteArray) (w : World) (h : StrArg w A l) (hn : l.length ≤ 1000000000) :
    Calls Try.prog 63 #[.slice A l.length c, .func (.func 48) #[] #[]] w fun e w' => (∃ r : Int, e = .returned (.int .i64 r) ∧ decide (0 ≤ r) = l.any badP) ∧ w = w' := by
  have hc : ∀ a W, (callFunc 48 a).run Try.prog W = .ok (.enter 48 a) W := fun a W => Go.Proofs.YtofmlmgdbcjeoaaW.PrintLast.enters_ Try.func48 (by kernel_rfl) rfl a W
  obtain ⟨n, hnn⟩ : ∃ n, l.length = n := ⟨_, rfl⟩
  have HL := Lib.hid hnn
  have HF := Lib.hid from1_calls
  rw [hnn] at hn ⊢
  clear hnn
  go_enter Try.func63, Try.ntmps63
  go_wp2_with fail
  go_loopw [8] (fun i wr => ∃ k : Nat, k ≤ n ∧ i = .int .i64 k ∧ (∀ j (h : j < l.length), j < k → badP l[j] = false) ∧ w = wr) (fun i _ => n - (intOf i).toNat)
  case atStart => exact ⟨0, Nat.zero_le _, rfl, fun j _ hj => absurd hj (by omega), rfl⟩
  case round =>
    obtain ⟨k, hk, rfl, hall, rfl⟩ := hrel
    by_cases hlt : k < n
    · have hkl : k < l.length := by rw [HL.out]; exact hlt
      obtain ⟨b, o, rfl, hbl, hcell⟩ := h k hkl
      have hkn : (k : Int) < n := by omega
      have HA := Lib.hid hall
      clear h hall
      by_cases hbad : badP l[k] = true
      · have hany : l.any badP = true := List.any_eq_true.2 ⟨_, List.getElem_mem hkl, hbad⟩
        have HY := Lib.hid hany
        have hcl := fun W => from1_calls l[k] W
        rw [hbad] at hcl
        have HCL := Lib.hid hcl
        clear hbad hany hcl
        generalize l[k] = s at *
        go_wp2_with fail
        ((with_reducible refine (HCL.out _).mono ?_); rintro e w1 ⟨rfl, rfl⟩)
        go_wp2_with fail
        go_ret
        exact ⟨⟨_, rfl, by rw [HY.out]; simp⟩, rfl⟩
      · have hb' : badP l[k] = false := by simpa using hbad
        have hcl := fun W => from1_calls l[k] W
        rw [hb'] at hcl
        have HCL := Lib.hid hcl
        have HN := Lib.hid (show ∀ j (h : j < l.length), j < k + 1 → badP l[j] = false from fun j hj hjk => by
          by_cases e : j = k
          · subst e; exact hb'
          · exact HA.out j hj (by omega))
        clear hbad hb' hcl
        generalize l[k] = s at *
        go_wp2_with fail
        ((with_reducible refine (HCL.out _).mono ?_); rintro e w1 ⟨rfl, rfl⟩)
        go_wp2_with fail
        exact ⟨⟨k + 1, by omega, by go_num, HN.out, trivial⟩, by simp [intOf]; omega⟩
    · obtain rfl : k = n := by omega
      have hany : l.any badP = false := by
        rw [List.any_eq_false]
        intro s hs
        obtain ⟨j, hj, rfl⟩ := List.getElem_of_mem hs
        rw [hall j hj (by rw [← HL.out]; exact hj)]
        simp
      have HY := Lib.hid hany
      clear hany hall h
      go_wp2_with fail
      go_ret
      exact ⟨⟨_, rfl, by rw [HY.out]; simp⟩, rfl⟩
set_option maxHeartbeats 800000 in
theorem contains_calls (A : Option Addr) (c : Nat) (l : List ByteArray) (w : World) (h : StrArg w A l) (hn : l.length ≤ 1000000000) :
    Calls Try.prog 47 #[.slice A l.length c, .func (.func 48) #[] #[]] w fun e w' => e = .returned (.bool (l.any badP)) ∧ w = w' := by
  have HI := Lib.hid (index_calls A c l w h hn)
  clear h
  generalize l.any badP = r at *
  go_enter Try.func47, Try.ntmps47
  go_wp2_with fail
  ((with_reducible refine HI.out.mono ?_); rintro e w1 ⟨⟨q, rfl, hq⟩, rfl⟩)
  go_wp2_with fail
  go_ret
  exact ⟨by simp, rfl⟩

/-! ### From, New -/
def goodF (pages : List ByteArray) (lim : Int) : Bool := decide (1 ≤ lim) && decide (lim ≤ 200) && decide ((pages.length : Int) ≤ lim) && !(pages.any badP)
def newD (pages : List ByteArray) (lim : Int) : DM := ⟨pages, [], lim, -1, false⟩
theorem strs_one (l : List ByteArray) : ∀ u ∈ strs l, u.oneCell' = true := by
  intro u hu
  simp only [strs, List.mem_map] at hu
  obtain ⟨x, _, rfl⟩ := hu
  rfl
theorem clone9_calls (A : Option Addr) (c : Nat) (l : List ByteArray) (w : World) (h : StrArg w A l) (hA : A = none → l = []) (hoff : ∀ a, A = some a → ∃ b o, a = ⟨b, o, none⟩) (hn : l.length ≤ 1000000000) :
    Calls Try.prog 49 #[.slice A l.length c] w fun e w' => ∃ v, e = .returned v ∧ w'.ownsRow w.heap.size 9 1 v l.length (strs l) ∧ Below w.heap.size w w' := by
  obtain ⟨i0, hi, hz0, hz1, hz2⟩ := info_parts info9
  cases A with
  | none =>
    obtain rfl := hA rfl
    refine (Try.slices_Clone_nil 0 c w).mono fun e w' ⟨he, hw⟩ => ⟨_, he, ?_, hw ▸ Below.refl _ _⟩
    exact ⟨rfl, .inl ⟨rfl, rfl⟩⟩
  | some a =>
    obtain ⟨b, o, rfl⟩ := hoff a rfl
    refine (Try.slices_Clone i0 _ 1 16 hi hz0 hz1 hz2 rfl (by omega) Try.sizeOf9 b o l.length c (strs l) w (by simp [strs]) (by unfold maxLen; omega) (by omega) (fun j u hj => ?_) (strs_one l)).mono fun e w' ⟨v, he, hv, _, hB⟩ => ⟨v, he, hv, hB⟩
    have hlt : j < l.length := by have := (List.getElem?_eq_some_iff.1 hj).1; simpa [strs] using this
    obtain ⟨b', o', e, _, hc⟩ := h j hlt
    have e12 : b = b' ∧ o = o' := by simpa using e
    obtain ⟨rfl, rfl⟩ := e12
    rw [hc]
    rw [strs_at _ _ hlt] at hj
    exact hj
set_option maxHeartbeats 1600000 in
theorem from_calls (B : Nat) (A : Option Addr) (c : Nat) (pages : List ByteArray) (lim : Int) (w : World) (hB : B ≤ w.heap.size) (h : StrArg w A pages) (hA : A = none → pages = []) (hoff : ∀ a, A = some a → ∃ b o, a = ⟨b, o, none⟩) (hn : pages.length ≤ 1000000000) :
    Calls Try.prog 21 #[.slice A pages.length c, .int .i64 lim] w fun e w' => Below w.heap.size w w' ∧ ((goodF pages lim = false ∧ e = .returned (.tuple #[.pointer none, .bool false])) ∨ (goodF pages lim = true ∧ ∃ g, e = .returned (.tuple #[.pointer (some ⟨g, 0, none⟩), .bool true]) ∧ IsD B w' g (newD pages lim))) := by
  have HC := Lib.hid (contains_calls A c pages w h hn)
  have HK := Lib.hid (clone9_calls A c pages w h hA hoff hn)
  have HS := Lib.hid (show ∀ (W : World) (v : Value), B ≤ W.heap.size → W.ownsRow w.heap.size 9 1 v pages.length (strs pages) → IsD B (W.alloc (.cells #[v, .slice none 0 0, .int .i64 lim, .int .i64 (-1), .bool false] 71)) W.heap.size (newD pages lim) from fun W v hBW hv =>
    ⟨hBW, v, .slice none 0 0, Blk.new W 71 _, ⟨(hv.1), hv.2.imp id (fun ⟨g, cap, cur, e, hb, hh, r⟩ => ⟨g, cap, cur, e, Nat.le_trans hB hb, (Below.heap_alloc W _ g (Array.getElem?_eq_some_iff.1 hh).1).trans hh, r⟩)⟩, ⟨rfl, .inl ⟨rfl, rfl⟩⟩⟩)
  by_cases h1 : lim < 1
  · have HG : Hid (goodF pages lim = false) := by simp [Hid, goodF]; intro; omega
    have h1' : decide (lim < 1) = true := decide_eq_true h1
    clear h h1 hn hA hoff
    generalize pages.length = m at *
    go_enter Try.func21, Try.ntmps21
    go_wp2
    go_ret2
    exact ⟨Below.refl _ _, .inl ⟨HG.out, rfl⟩⟩
  · have h1' : decide (lim < 1) = false := decide_eq_false h1
    by_cases h2 : 200 < lim
    · have HG : Hid (goodF pages lim = false) := by simp [Hid, goodF]; intros; omega
      have h2' : decide (200 < lim) = true := decide_eq_true h2
      clear h h1 h2 hn hA hoff
      generalize pages.length = m at *
      go_enter Try.func21, Try.ntmps21
      go_wp2
      go_ret2
      exact ⟨Below.refl _ _, .inl ⟨HG.out, rfl⟩⟩
    · have h2' : decide (200 < lim) = false := decide_eq_false h2
      by_cases h3 : lim < (pages.length : Int)
      · have HG : Hid (goodF pages lim = false) := by simp [Hid, goodF]; intros; omega
        have h3' : decide (lim < (pages.length : Int)) = true := decide_eq_true h3
        clear h h1 h2 h3 hn hA hoff
        generalize pages.length = m at *
        go_enter Try.func21, Try.ntmps21
        go_wp2
        go_ret2
        exact ⟨Below.refl _ _, .inl ⟨HG.out, rfl⟩⟩
      · have h3' : decide (lim < (pages.length : Int)) = false := decide_eq_false h3
        cases hb : pages.any badP
        · have HG : Hid (goodF pages lim = true) := by simp only [Hid, goodF, hb]; simp; omega
          rw [hb] at HC
          clear h h1 h2 h3 hn hA hoff hb
          go_enter Try.func21, Try.ntmps21
          go_wp2_with fail
          ((with_reducible refine HC.out.mono ?_); rintro e w1 ⟨rfl, rfl⟩)
          go_wp2_with fail
          ((with_reducible refine HK.out.mono ?_); rintro e w1 ⟨v, rfl, hv, hl⟩)
          obtain ⟨A', c', rfl⟩ := own_form hv
          have HV := Lib.hid hv
          clear hv
          go_wp2_with fail
          go_ret2
          exact ⟨bel_alloc hl _, .inr ⟨HG.out, _, rfl, HS.out w1 _ (Nat.le_trans hB hl.size) HV.out⟩⟩
        · have HG : Hid (goodF pages lim = false) := by simp only [Hid, goodF, hb]; simp
          rw [hb] at HC
          clear h h1 h2 h3 hn hA hoff hb
          go_enter Try.func21, Try.ntmps21
          go_wp2_with fail
          ((with_reducible refine HC.out.mono ?_); rintro e w1 ⟨rfl, rfl⟩)
          go_wp2_with fail
          go_ret2
          exact ⟨Below.refl _ _, .inl ⟨HG.out, rfl⟩⟩
end Go.Proofs.Ytofmlmgdbcjeoaa.Dsk
