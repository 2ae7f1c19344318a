/- What this text proves: what container/heap's down comes to over a pile of numbers. -/
import Derived.Test.YtgpnceaplakemaaHpE
namespace Go.Proofs.Ytgpnceaplakemaa.Hp
open Go Go.RowKit Go.Proofs.Ytgpnceaplakemaa.Base Go.Proofs.Ytgpnceaplakemaa.Own
set_option linter.unusedSimpArgs false

/-! ### The methods behind the interface -/
section
variable {w : World} {p n c : Nat} {A : Option Addr}
theorem met_Len (h : Blk w p 60 [.slice A n c]) : (method 221 63 (.pointer (some ⟨p, 0, none⟩)) "Len").run Try.prog w = .ok (56, .slice A n c) w := by
  rw [method_val (k := 220) info_Len Try.underlying63, load_pile p A n c w (h.cell 0)]
  rfl
theorem met_Less (h : Blk w p 60 [.slice A n c]) : (method 221 63 (.pointer (some ⟨p, 0, none⟩)) "Less").run Try.prog w = .ok (57, .slice A n c) w := by
  rw [method_val (k := 220) info_Less Try.underlying63, load_pile p A n c w (h.cell 0)]
  rfl
theorem met_Swap (h : Blk w p 60 [.slice A n c]) : (method 221 63 (.pointer (some ⟨p, 0, none⟩)) "Swap").run Try.prog w = .ok (58, .slice A n c) w := by
  rw [method_val (k := 220) info_Swap Try.underlying63, load_pile p A n c w (h.cell 0)]
  rfl
theorem met_least (h : Blk w p 60 [.slice A n c]) : (method 221 63 (.pointer (some ⟨p, 0, none⟩)) "umbel/queue.least").run Try.prog w = .ok (60, .slice A n c) w := by
  rw [method_val (k := 220) info_least Try.underlying63, load_pile p A n c w (h.cell 0)]
  rfl
theorem met_all (h : Blk w p 60 [.slice A n c]) : (method 221 63 (.pointer (some ⟨p, 0, none⟩)) "umbel/queue.all").run Try.prog w = .ok (59, .slice A n c) w := by
  rw [method_val (k := 220) info_all Try.underlying63, load_pile p A n c w (h.cell 0)]
  rfl
theorem met_Push (p : Nat) (w : World) : (method 221 63 (.pointer (some ⟨p, 0, none⟩)) "Push").run Try.prog w = .ok (83, .pointer (some ⟨p, 0, none⟩)) w := method_ptr (k := 220) info_Push Try.underlying63
theorem met_Pop (p : Nat) (w : World) : (method 221 63 (.pointer (some ⟨p, 0, none⟩)) "Pop").run Try.prog w = .ok (82, .pointer (some ⟨p, 0, none⟩)) w := method_ptr (k := 220) info_Pop Try.underlying63
end
/-- A pile, its row at hand. -/
theorem IsP.open {F : Nat → Prop} {w : World} {p : Nat} {xs : List Int} (h : IsP F w p xs) : ∃ A c, Blk w p 60 [.slice A xs.length c] ∧ w.ownsRow 0 3 1 (.slice A xs.length c) xs.length (ints xs) := by
  obtain ⟨_, v, hb, h1, _⟩ := h
  obtain ⟨A, c, rfl⟩ := own_form h1
  exact ⟨A, c, hb, h1⟩
theorem less_at {F : Nat → Prop} {w : World} {p : Nat} {xs : List Int} (h : IsP F w p xs) (hn : xs.length ≤ 1000000) (i j : Nat) (hi : i < xs.length) (hj : j < xs.length) (I J : Int) (eI : I = i) (eJ : J = j) :
    ∃ A n c, (method 221 63 (.pointer (some ⟨p, 0, none⟩)) "Less").run Try.prog w = .ok (57, .slice A n c) w ∧ Calls Try.prog 57 #[.slice A n c, .int .i64 I, .int .i64 J] w fun e w' => e = .returned (.bool (decide (at_ xs i < at_ xs j))) ∧ Below w.heap.size w w' := by
  subst eI eJ
  obtain ⟨A, c, hb, h1⟩ := h.open
  exact ⟨A, xs.length, c, met_Less hb, less_calls A xs.length c i j xs w h1 hn hi hj⟩
theorem swap_at {F : Nat → Prop} {w : World} {p : Nat} {xs : List Int} (h : IsP F w p xs) (hn : xs.length ≤ 1000000) (i j : Nat) (hi : i < xs.length) (hj : j < xs.length) (I J : Int) (eI : I = i) (eJ : J = j) :
    ∃ A n c, (method 221 63 (.pointer (some ⟨p, 0, none⟩)) "Swap").run Try.prog w = .ok (58, .slice A n c) w ∧ Calls Try.prog 58 #[.slice A n c, .int .i64 I, .int .i64 J] w fun e w' => e = .returned (.tuple #[]) ∧ IsP F w' p (swp xs i j) ∧ Within F w w' := by
  subst eI eJ
  obtain ⟨hF, v, hb, h1, hF1⟩ := h
  obtain ⟨A, c, rfl⟩ := own_form h1
  obtain ⟨b, rfl, _⟩ := row_cell h1 (by omega)
  refine ⟨_, _, _, met_Swap hb, (swap_calls b xs.length c i j xs w h1 hn hi hj).mono fun e w' ⟨he, ho, hw⟩ => ⟨he, ⟨hF, _, hw.blk hb (fun e => own_blk_ne h1 hb (by decide) (by simp [Value.ownBlock, e])), by rw [swp_length]; exact ho, hF1⟩, hw.mono (fun k _ hk => hF1 k (by rw [hk]; rfl))⟩⟩
theorem len_at {F : Nat → Prop} {w : World} {p : Nat} {xs : List Int} (h : IsP F w p xs) :
    ∃ A n c, (method 221 63 (.pointer (some ⟨p, 0, none⟩)) "Len").run Try.prog w = .ok (56, .slice A n c) w ∧ Calls Try.prog 56 #[.slice A n c] w fun e w' => e = .returned (.int .i64 xs.length) ∧ w = w' := by
  obtain ⟨A, c, hb, h1⟩ := h.open
  exact ⟨A, xs.length, c, met_Len hb, len_calls A xs.length c w⟩

def DownPost (F : Nat → Prop) (p b n : Nat) (xs : List Int) (w : World) (e : Ending) (w' : World) : Prop :=
  ∃ r ys, e = .returned (.bool r) ∧ ys.Perm xs ∧ Heap ys n b ∧ (∀ k, n ≤ k → at_ ys k = at_ xs k) ∧ IsP F w' p ys ∧ Within F w w'
set_option maxHeartbeats 6400000 in
set_option maxRecDepth 100000 in
theorem down_calls (F : Nat → Prop) (p b n : Nat) (xs : List Int) (w : World) (h : IsP F w p xs) (hn : n ≤ xs.length) (hx : xs.length ≤ 1000000) (hb : b ≤ 1000000) (hH : Heap xs n (b + 1)) :
    Calls Try.prog 38 #[.iface 63 (.pointer (some ⟨p, 0, none⟩)), .int .i64 b, .int .i64 n] w (DownPost F p b n xs w) := by
  have H0 := Lib.hid h
  have D0 := Lib.hid (down_start hH)
  have HX := Lib.hid hx
  have HN := Lib.hid hn
  have hn6 : n ≤ 1000000 := by omega
  clear h hH hx hn
  go_enter Try.func38, Try.ntmps38
  go_wp2_with fail
  go_loopw [7] (fun v wr => ∃ (i : Nat) (ys : List Int), v = .int .i64 i ∧ i ≤ 1000000 ∧ Down ys n b i ∧ ys.Perm xs ∧ (∀ k, n ≤ k → at_ ys k = at_ xs k) ∧ IsP F wr p ys ∧ Within F w wr) (fun v _ => n - (intOf v).toNat)
  case atStart => exact ⟨b, xs, rfl, hb, D0.out, List.Perm.refl _, fun _ _ => rfl, H0.out, Within.refl _ _⟩
  case round =>
    obtain ⟨i, ys, rfl, hi6, hD, hP, hK, hI, hW⟩ := hrel
    have D1 := Lib.hid hD; have P1 := Lib.hid hP; have K1 := Lib.hid hK; have I1 := Lib.hid hI; have W1 := Lib.hid hW
    have HY := Lib.hid (hP.length_eq)
    clear hD hP hK hI hW H0 D0
    by_cases h1 : n ≤ 2 * i + 1
    · have h1' : (n : Int) ≤ 2 * (i : Int) + 1 := by omega
      have HH := Lib.hid (down_stop0 D1.out h1)
      clear h1
      go_wp2_with fail
      go_ret
      exact ⟨_, ys, rfl, P1.out, HH.out, K1.out, I1.out, W1.out⟩
    · have h1' : ¬ (n : Int) ≤ 2 * (i : Int) + 1 := by omega
      have h1'' : 2 * i + 1 < n := by omega
      by_cases h2 : 2 * i + 2 < n
      · have h2' : 2 * (i : Int) + 1 + 1 < n := by omega
        obtain ⟨A1, m1, c1, hm1, hc1⟩ := less_at I1.out (by rw [HY.out]; exact HX.out) (2 * i + 2) (2 * i + 1) (by rw [HY.out]; have := HN.out; omega) (by rw [HY.out]; have := HN.out; omega) (2 * (i : Int) + 1 + 1) (2 * (i : Int) + 1) (by omega) (by omega)
        by_cases hd : at_ ys (2 * i + 2) < at_ ys (2 * i + 1)
        · rw [decide_eq_true hd] at hc1
          have C1 := Lib.hid hc1
          have HK := Lib.hid (show kid ys n i = 2 * i + 2 by unfold kid; rw [if_pos ⟨h2, hd⟩])
          clear hc1 hd h1 h2
          go_wp2_with fail
          ((with_reducible refine C1.out.mono ?_); rintro e w1 ⟨rfl, hl⟩)
          have I2 := Lib.hid (I1.out.below hl); have W2 := Lib.hid (W1.out.then hl)
          clear hl C1 hm1 I1 W1
          have hkl := kid_lt (xs := ys) h1''
          rw [HK.out] at hkl
          obtain ⟨A2, m2, c2, hm2, hc2⟩ := less_at I2.out (by rw [HY.out]; exact HX.out) (2 * i + 2) i (by rw [HY.out]; have := HN.out; omega) (by rw [HY.out]; have := HN.out; omega) (2 * (i : Int) + 1 + 1) i (by omega) rfl
          by_cases hd : at_ ys (2 * i + 2) < at_ ys i
          · rw [decide_eq_true hd] at hc2
            have C2 := Lib.hid hc2
            have DS := down_step D1.out h1'' (by rw [HY.out]; exact HN.out) (by rw [HK.out]; exact hd)
            rw [HK.out] at DS
            have D3 := Lib.hid DS
            have P3 := Lib.hid ((swp_perm ys i (2 * i + 2) (by rw [HY.out]; have := HN.out; omega) (by rw [HY.out]; have := HN.out; omega)).trans P1.out)
            have K3 := Lib.hid (show ∀ k, n ≤ k → at_ (swp ys i (2 * i + 2)) k = at_ xs k from fun k hk => by
              rw [at_swp _ _ _ _ (by rw [HY.out]; have := HN.out; omega) (by rw [HY.out]; have := HN.out; omega), if_neg (by omega), if_neg (by omega)]
              exact K1.out k hk)
            clear hc2 hd DS
            go_wp2_with fail
            ((with_reducible refine C2.out.mono ?_); rintro e w2 ⟨rfl, hl⟩)
            have I3 := Lib.hid (I2.out.below hl); have W3 := Lib.hid (W2.out.then hl)
            obtain ⟨A3, m3, c3, hm3, hc3⟩ := swap_at I3.out (by rw [HY.out]; exact HX.out) i (2 * i + 2) (by rw [HY.out]; have := HN.out; omega) (by rw [HY.out]; have := HN.out; omega) i (2 * (i : Int) + 1 + 1) rfl (by omega)
            have C3 := Lib.hid hc3
            clear hl C2 hm2 I2 W2 hc3
            go_wp2_with fail
            ((with_reducible refine C3.out.mono ?_); rintro e w3 ⟨rfl, hI, hl⟩)
            have I4 := Lib.hid hI; have W4 := Lib.hid (W3.out.trans hl)
            clear hI hl C3 hm3 I3 W3
            go_wp2_with fail
            exact ⟨⟨2 * i + 2, swp ys i (2 * i + 2), by go_num, by omega, D3.out, P3.out, K3.out, I4.out, W4.out⟩, by simp [intOf]; omega⟩
          · have hge : at_ ys i ≤ at_ ys (2 * i + 2) := by omega
            have HH := Lib.hid (down_stop D1.out (by rw [HK.out]; exact hge))
            rw [decide_eq_false hd] at hc2
            have C2 := Lib.hid hc2
            clear hc2 hd hge
            go_wp2_with fail
            ((with_reducible refine C2.out.mono ?_); rintro e w2 ⟨rfl, hl⟩)
            have I3 := Lib.hid (I2.out.below hl); have W3 := Lib.hid (W2.out.then hl)
            clear hl C2 hm2 I2 W2
            go_wp2_with fail
            go_ret
            exact ⟨_, ys, rfl, P1.out, HH.out, K1.out, I3.out, W3.out⟩
        · rw [decide_eq_false hd] at hc1
          have C1 := Lib.hid hc1
          have HK := Lib.hid (show kid ys n i = 2 * i + 1 by unfold kid; rw [if_neg (fun h => hd h.2)])
          clear hc1 hd h1 h2
          go_wp2_with fail
          ((with_reducible refine C1.out.mono ?_); rintro e w1 ⟨rfl, hl⟩)
          have I2 := Lib.hid (I1.out.below hl); have W2 := Lib.hid (W1.out.then hl)
          clear hl C1 hm1 I1 W1
          have hkl := kid_lt (xs := ys) h1''
          rw [HK.out] at hkl
          obtain ⟨A2, m2, c2, hm2, hc2⟩ := less_at I2.out (by rw [HY.out]; exact HX.out) (2 * i + 1) i (by rw [HY.out]; have := HN.out; omega) (by rw [HY.out]; have := HN.out; omega) (2 * (i : Int) + 1) i (by omega) rfl
          by_cases hd : at_ ys (2 * i + 1) < at_ ys i
          · rw [decide_eq_true hd] at hc2
            have C2 := Lib.hid hc2
            have DS := down_step D1.out h1'' (by rw [HY.out]; exact HN.out) (by rw [HK.out]; exact hd)
            rw [HK.out] at DS
            have D3 := Lib.hid DS
            have P3 := Lib.hid ((swp_perm ys i (2 * i + 1) (by rw [HY.out]; have := HN.out; omega) (by rw [HY.out]; have := HN.out; omega)).trans P1.out)
            have K3 := Lib.hid (show ∀ k, n ≤ k → at_ (swp ys i (2 * i + 1)) k = at_ xs k from fun k hk => by
              rw [at_swp _ _ _ _ (by rw [HY.out]; have := HN.out; omega) (by rw [HY.out]; have := HN.out; omega), if_neg (by omega), if_neg (by omega)]
              exact K1.out k hk)
            clear hc2 hd DS
            go_wp2_with fail
            ((with_reducible refine C2.out.mono ?_); rintro e w2 ⟨rfl, hl⟩)
            have I3 := Lib.hid (I2.out.below hl); have W3 := Lib.hid (W2.out.then hl)
            obtain ⟨A3, m3, c3, hm3, hc3⟩ := swap_at I3.out (by rw [HY.out]; exact HX.out) i (2 * i + 1) (by rw [HY.out]; have := HN.out; omega) (by rw [HY.out]; have := HN.out; omega) i (2 * (i : Int) + 1) rfl (by omega)
            have C3 := Lib.hid hc3
            clear hl C2 hm2 I2 W2 hc3
            go_wp2_with fail
            ((with_reducible refine C3.out.mono ?_); rintro e w3 ⟨rfl, hI, hl⟩)
            have I4 := Lib.hid hI; have W4 := Lib.hid (W3.out.trans hl)
            clear hI hl C3 hm3 I3 W3
            go_wp2_with fail
            exact ⟨⟨2 * i + 1, swp ys i (2 * i + 1), by go_num, by omega, D3.out, P3.out, K3.out, I4.out, W4.out⟩, by simp [intOf]; omega⟩
          · have hge : at_ ys i ≤ at_ ys (2 * i + 1) := by omega
            have HH := Lib.hid (down_stop D1.out (by rw [HK.out]; exact hge))
            rw [decide_eq_false hd] at hc2
            have C2 := Lib.hid hc2
            clear hc2 hd hge
            go_wp2_with fail
            ((with_reducible refine C2.out.mono ?_); rintro e w2 ⟨rfl, hl⟩)
            have I3 := Lib.hid (I2.out.below hl); have W3 := Lib.hid (W2.out.then hl)
            clear hl C2 hm2 I2 W2
            go_wp2_with fail
            go_ret
            exact ⟨_, ys, rfl, P1.out, HH.out, K1.out, I3.out, W3.out⟩
      · have h2' : ¬ 2 * (i : Int) + 1 + 1 < n := by omega
        have HK := Lib.hid (show kid ys n i = 2 * i + 1 by unfold kid; rw [if_neg (fun h => h2 h.1)])
        have I2 := I1; have W2 := W1
        clear h1 h2 I1 W1
        have hkl := kid_lt (xs := ys) h1''
        rw [HK.out] at hkl
        obtain ⟨A2, m2, c2, hm2, hc2⟩ := less_at I2.out (by rw [HY.out]; exact HX.out) (2 * i + 1) i (by rw [HY.out]; have := HN.out; omega) (by rw [HY.out]; have := HN.out; omega) (2 * (i : Int) + 1) i (by omega) rfl
        by_cases hd : at_ ys (2 * i + 1) < at_ ys i
        · rw [decide_eq_true hd] at hc2
          have C2 := Lib.hid hc2
          have DS := down_step D1.out h1'' (by rw [HY.out]; exact HN.out) (by rw [HK.out]; exact hd)
          rw [HK.out] at DS
          have D3 := Lib.hid DS
          have P3 := Lib.hid ((swp_perm ys i (2 * i + 1) (by rw [HY.out]; have := HN.out; omega) (by rw [HY.out]; have := HN.out; omega)).trans P1.out)
          have K3 := Lib.hid (show ∀ k, n ≤ k → at_ (swp ys i (2 * i + 1)) k = at_ xs k from fun k hk => by
            rw [at_swp _ _ _ _ (by rw [HY.out]; have := HN.out; omega) (by rw [HY.out]; have := HN.out; omega), if_neg (by omega), if_neg (by omega)]
            exact K1.out k hk)
          clear hc2 hd DS
          go_wp2_with fail
          ((with_reducible refine C2.out.mono ?_); rintro e w2 ⟨rfl, hl⟩)
          have I3 := Lib.hid (I2.out.below hl); have W3 := Lib.hid (W2.out.then hl)
          obtain ⟨A3, m3, c3, hm3, hc3⟩ := swap_at I3.out (by rw [HY.out]; exact HX.out) i (2 * i + 1) (by rw [HY.out]; have := HN.out; omega) (by rw [HY.out]; have := HN.out; omega) i (2 * (i : Int) + 1) rfl (by omega)
          have C3 := Lib.hid hc3
          clear hl C2 hm2 I2 W2 hc3
          go_wp2_with fail
          ((with_reducible refine C3.out.mono ?_); rintro e w3 ⟨rfl, hI, hl⟩)
          have I4 := Lib.hid hI; have W4 := Lib.hid (W3.out.trans hl)
          clear hI hl C3 hm3 I3 W3
          go_wp2_with fail
          exact ⟨⟨2 * i + 1, swp ys i (2 * i + 1), by go_num, by omega, D3.out, P3.out, K3.out, I4.out, W4.out⟩, by simp [intOf]; omega⟩
        · have hge : at_ ys i ≤ at_ ys (2 * i + 1) := by omega
          have HH := Lib.hid (down_stop D1.out (by rw [HK.out]; exact hge))
          rw [decide_eq_false hd] at hc2
          have C2 := Lib.hid hc2
          clear hc2 hd hge
          go_wp2_with fail
          ((with_reducible refine C2.out.mono ?_); rintro e w2 ⟨rfl, hl⟩)
          have I3 := Lib.hid (I2.out.below hl); have W3 := Lib.hid (W2.out.then hl)
          clear hl C2 hm2 I2 W2
          go_wp2_with fail
          go_ret
          exact ⟨_, ys, rfl, P1.out, HH.out, K1.out, I3.out, W3.out⟩
end Go.Proofs.Ytgpnceaplakemaa.Hp
