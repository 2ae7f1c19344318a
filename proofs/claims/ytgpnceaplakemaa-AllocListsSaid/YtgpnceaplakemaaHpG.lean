/- What this text proves: what container/heap's up, Init, Push and Pop come to over a pile of numbers. -/
import Derived.Test.YtgpnceaplakemaaHpF
namespace Go.Proofs.Ytgpnceaplakemaa.Hp
open Go Go.RowKit Go.Proofs.Ytgpnceaplakemaa.Base Go.Proofs.Ytgpnceaplakemaa.Own
set_option linter.unusedSimpArgs false

def UpPost (F : Nat → Prop) (p : Nat) (xs : List Int) (w : World) (e : Ending) (w' : World) : Prop :=
  ∃ ys, e = .returned (.tuple #[]) ∧ ys.Perm xs ∧ Heap ys xs.length 0 ∧ IsP F w' p ys ∧ Within F w w'
set_option maxHeartbeats 6400000 in
set_option maxRecDepth 100000 in
theorem up_calls (F : Nat → Prop) (p j : Nat) (xs : List Int) (w : World) (h : IsP F w p xs) (hx : xs.length ≤ 1000000) (hU : Up xs xs.length j) :
    Calls Try.prog 39 #[.iface 63 (.pointer (some ⟨p, 0, none⟩)), .int .i64 j] w (UpPost F p xs w) := by
  have H0 := Lib.hid h
  have U0 := Lib.hid hU
  have hj := hU.lt
  obtain ⟨n, hn⟩ : ∃ n, xs.length = n := ⟨_, rfl⟩
  have HN := Lib.hid hn
  rw [hn] at hx U0 hj
  clear h hU hn
  go_enter Try.func39, Try.ntmps39
  go_wp2_with fail
  go_loopw [1] (fun v wr => ∃ (i : Nat) (ys : List Int), v = .int .i64 i ∧ i < n ∧ Up ys n i ∧ ys.Perm xs ∧ IsP F wr p ys ∧ Within F w wr) (fun v _ => (intOf v).toNat)
  case atStart => exact ⟨j, xs, rfl, hj, U0.out, List.Perm.refl _, H0.out, Within.refl _ _⟩
  case round =>
    obtain ⟨i, ys, rfl, hi, hD, hP, hI, hW⟩ := hrel
    have D1 := Lib.hid hD; have P1 := Lib.hid hP; have I1 := Lib.hid hI; have W1 := Lib.hid hW
    have HY := Lib.hid (hP.length_eq.trans HN.out)
    clear hD hP hI hW H0 U0
    by_cases h0 : i = 0
    · subst h0
      have HH := Lib.hid (up_stop0 D1.out)
      go_wp2_with fail
      go_end0
      exact ⟨ys, rfl, P1.out, by rw [HN.out]; exact HH.out, I1.out, W1.out⟩
    · have h0' : 1 ≤ i := by omega
      have h0'' : (0 : Int) ≤ (i : Int) - 1 := by omega
      have hne : (((i : Int) - 1) / 2 == (i : Int)) = false := by rw [beq_eq_false_iff_ne]; omega
      have hpar : ((i : Int) - 1) / 2 = (((i - 1) / 2 : Nat) : Int) := by omega
      have HPR := Lib.hid hpar
      obtain ⟨A2, m2, c2, hm2, hc2⟩ := less_at I1.out (by rw [HY.out]; exact hx) i ((i - 1) / 2) (by rw [HY.out]; exact hi) (by rw [HY.out]; omega) i (((i : Int) - 1) / 2) rfl hpar
      clear hpar h0
      by_cases hd : at_ ys i < at_ ys ((i - 1) / 2)
      · rw [decide_eq_true hd] at hc2
        have C2 := Lib.hid hc2
        have D3 := Lib.hid (up_step D1.out h0' (by rw [HY.out]; exact Nat.le_refl _) hd)
        have P3 := Lib.hid ((swp_perm ys ((i - 1) / 2) i (by rw [HY.out]; omega) (by rw [HY.out]; exact hi)).trans P1.out)
        clear hc2 hd
        go_wp2_with fail
        ((with_reducible refine C2.out.mono ?_); rintro e w2 ⟨rfl, hl⟩)
        have I3 := Lib.hid (I1.out.below hl); have W3 := Lib.hid (W1.out.then hl)
        obtain ⟨A3, m3, c3, hm3, hc3⟩ := swap_at I3.out (by rw [HY.out]; exact hx) ((i - 1) / 2) i (by rw [HY.out]; omega) (by rw [HY.out]; exact hi) (((i : Int) - 1) / 2) i HPR.out rfl
        have C3 := Lib.hid hc3
        clear hl C2 hm2 I1 W1 hc3
        go_wp2_with fail
        ((with_reducible refine C3.out.mono ?_); rintro e w3 ⟨rfl, hI, hl⟩)
        have I4 := Lib.hid hI; have W4 := Lib.hid (W3.out.trans hl)
        clear hI hl C3 hm3 I3 W3
        go_wp2_with fail
        exact ⟨⟨(i - 1) / 2, swp ys ((i - 1) / 2) i, congrArg (Value.int .i64) HPR.out, by omega, D3.out, P3.out, I4.out, W4.out⟩, by simp [intOf]; omega⟩
      · have hge : at_ ys ((i - 1) / 2) ≤ at_ ys i := by omega
        have HH := Lib.hid (up_stop D1.out hge)
        rw [decide_eq_false hd] at hc2
        have C2 := Lib.hid hc2
        clear hc2 hd hge
        go_wp2_with fail
        ((with_reducible refine C2.out.mono ?_); rintro e w2 ⟨rfl, hl⟩)
        have I3 := Lib.hid (I1.out.below hl); have W3 := Lib.hid (W1.out.then hl)
        clear hl C2 hm2 I1 W1
        go_wp2_with fail
        go_end0
        exact ⟨ys, rfl, P1.out, by rw [HN.out]; exact HH.out, I3.out, W3.out⟩
def InitPost (F : Nat → Prop) (p : Nat) (xs : List Int) (w : World) (e : Ending) (w' : World) : Prop :=
  ∃ ys, e = .returned (.tuple #[]) ∧ ys.Perm xs ∧ Heap ys ys.length 0 ∧ IsP F w' p ys ∧ Within F w w'
theorem heap_half (xs : List Int) (n : Nat) : Heap xs n (n / 2) := fun c h1 h2 h3 => by omega
set_option maxHeartbeats 3200000 in
set_option maxRecDepth 100000 in
theorem init_calls (F : Nat → Prop) (p : Nat) (xs : List Int) (w : World) (h : IsP F w p xs) (hx : xs.length ≤ 1000000) :
    Calls Try.prog 33 #[.iface 63 (.pointer (some ⟨p, 0, none⟩))] w (InitPost F p xs w) := by
  have H0 := Lib.hid h
  obtain ⟨A0, m0, c0, hm0, hc0⟩ := len_at h
  obtain ⟨n, hn⟩ : ∃ n, xs.length = n := ⟨_, rfl⟩
  have HN := Lib.hid hn
  rw [hn] at hx hc0
  have C0 := Lib.hid hc0
  clear h hn hc0
  go_enter Try.func33, Try.ntmps33
  go_wp2_with fail
  ((with_reducible refine C0.out.mono ?_); rintro e w1 ⟨rfl, rfl⟩)
  clear C0 hm0
  go_wp2_with fail
  go_loopw [3] (fun v wr => ∃ (t : Nat) (ys : List Int), v = .int .i64 ((t : Int) - 1) ∧ t ≤ n ∧ Heap ys n t ∧ ys.Perm xs ∧ IsP F wr p ys ∧ Within F w wr) (fun v _ => (intOf v + 1).toNat)
  case atStart => exact ⟨n / 2, xs, by go_num, by omega, heap_half xs n, List.Perm.refl _, H0.out, Within.refl _ _⟩
  case round =>
    obtain ⟨t, ys, rfl, ht, hD, hP, hI, hW⟩ := hrel
    have D1 := Lib.hid hD; have P1 := Lib.hid hP; have I1 := Lib.hid hI; have W1 := Lib.hid hW
    have HY := Lib.hid (hP.length_eq.trans HN.out)
    clear hD hP hI hW H0
    by_cases h0 : t = 0
    · subst h0
      have hneg : ¬ (0 : Int) ≤ ((0 : Nat) : Int) - 1 := by omega
      go_wp2_with fail
      go_end0
      exact ⟨ys, rfl, P1.out, by rw [HY.out]; exact D1.out, I1.out, W1.out⟩
    · obtain ⟨s, rfl⟩ : ∃ s, t = s + 1 := ⟨t - 1, by omega⟩
      have hs : ((s + 1 : Nat) : Int) - 1 = s := by omega
      rw [hs]
      have hs0 : (0 : Int) ≤ s := by omega
      have C1 := down_calls F p s n ys _ I1.out (by rw [HY.out]; exact Nat.le_refl _) (by rw [HY.out]; exact hx) (by omega) D1.out
      unfold DownPost at C1
      have C1 := Lib.hid C1
      clear hs h0
      go_wp2_with fail
      ((with_reducible refine C1.out.mono ?_); rintro e w2 ⟨r, zs, rfl, hp2, hh2, _, hI, hl⟩)
      have D2 := Lib.hid hh2; have P2 := Lib.hid (hp2.trans P1.out); have I2 := Lib.hid hI; have W2 := Lib.hid (W1.out.trans hl)
      clear hp2 hh2 hI hl C1 I1 W1
      go_wp2_with fail
      exact ⟨⟨s, zs, by go_num, by omega, D2.out, P2.out, I2.out, W2.out⟩, by simp [intOf]⟩
def HPushPost (F : Nat → Prop) (p : Nat) (v : Int) (xs : List Int) (w : World) (e : Ending) (w' : World) : Prop :=
  ∃ ys, e = .returned (.tuple #[]) ∧ ys.Perm (xs ++ [v]) ∧ Heap ys ys.length 0 ∧ IsP F w' p ys ∧ Within F w w'
set_option maxHeartbeats 1600000 in
set_option maxRecDepth 100000 in
theorem hpush_calls (F : Nat → Prop) (p : Nat) (v : Int) (xs : List Int) (w : World) (h : IsP F w p xs) (hF : ∀ k, w.heap.size ≤ k → F k) (hx : xs.length ≤ 999999) (hH : Heap xs xs.length 0) :
    Calls Try.prog 34 #[.iface 63 (.pointer (some ⟨p, 0, none⟩)), .iface 3 (.int .i64 v)] w (HPushPost F p v xs w) := by
  have C0 := Lib.hid (push_calls F p v xs w h hF (by omega))
  have hm := met_Push p w
  have HU := Lib.hid (up_start (v := v) hH)
  have HL := Lib.hid (show (xs ++ [v]).length = xs.length + 1 by simp)
  clear h hF hH
  obtain ⟨n, hn⟩ : ∃ n, xs.length = n := ⟨_, rfl⟩
  rw [hn] at hx HU HL
  clear hn
  go_enter Try.func34, Try.ntmps34
  go_wp2_with fail
  ((with_reducible refine C0.out.mono ?_); rintro e w1 ⟨rfl, hI, hl⟩)
  obtain ⟨A1, m1, c1, hm1, hc1⟩ := len_at hI
  rw [HL.out] at hc1
  have C1 := Lib.hid hc1
  have I1 := Lib.hid hI; have W1 := Lib.hid hl
  clear hI hl C0 hm hc1
  go_wp2_with fail
  ((with_reducible refine C1.out.mono ?_); rintro e w2 ⟨rfl, rfl⟩)
  have C2 := Lib.hid (up_calls F p n (xs ++ [v]) w1 I1.out (by rw [HL.out]; omega) (by rw [HL.out]; exact HU.out))
  have hn1 : ((n + 1 : Nat) : Int) - 1 = n := by omega
  clear C1 hm1
  go_wp2_with fail
  ((with_reducible refine C2.out.mono ?_); rintro e w3 ⟨ys, rfl, hp, hh, hI, hl⟩)
  have P3 := Lib.hid hp; have H3 := Lib.hid hh; have I3 := Lib.hid hI; have W3 := Lib.hid (W1.out.trans hl)
  clear hp hh hI hl C2 hn1
  go_wp2_with fail
  go_end0
  exact ⟨ys, rfl, P3.out, by rw [P3.out.length_eq]; exact H3.out, I3.out, W3.out⟩
theorem heap_swap {xs : List Int} {m : Nat} (h : Heap xs (m + 1) 0) (hl : xs.length = m + 1) : Heap (swp xs 0 m) m (0 + 1) := by
  intro c h1 h2 h3
  rw [at_swp _ _ _ _ (by omega) (by omega), at_swp _ _ _ _ (by omega) (by omega), if_neg (by omega), if_neg (by omega), if_neg (by omega), if_neg (by omega)]
  exact h c h1 (by omega) (by omega)
theorem at_take (xs : List Int) (m k : Nat) (h : k < m) : at_ (xs.take m) k = at_ xs k := by
  unfold at_
  rw [List.getD_eq_getElem?_getD, List.getD_eq_getElem?_getD, List.getElem?_take_of_lt h]
theorem heap_take {xs : List Int} {m : Nat} (h : Heap xs m 0) : Heap (xs.take m) m 0 := by
  intro c h1 h2 h3
  rw [at_take _ _ _ (by omega), at_take _ _ _ h2]
  exact h c h1 h2 h3
theorem take_last {xs : List Int} {m : Nat} (h : xs.length = m + 1) : xs = xs.take m ++ [at_ xs m] := by
  rw [at_eq xs m (by omega), ← List.take_succ_eq_append_getElem (by omega), List.take_of_length_le (by omega)]
def HPopPost (F : Nat → Prop) (p : Nat) (xs : List Int) (w : World) (e : Ending) (w' : World) : Prop :=
  ∃ ys, e = .returned (.iface 3 (.int .i64 (at_ xs 0))) ∧ (at_ xs 0 :: ys).Perm xs ∧ Heap ys ys.length 0 ∧ IsP F w' p ys ∧ Within F w w'
set_option maxHeartbeats 1600000 in
set_option maxRecDepth 100000 in
theorem hpop_calls (F : Nat → Prop) (p m : Nat) (xs : List Int) (w : World) (h : IsP F w p xs) (hl : xs.length = m + 1) (hx : xs.length ≤ 1000000) (hH : Heap xs xs.length 0) :
    Calls Try.prog 35 #[.iface 63 (.pointer (some ⟨p, 0, none⟩))] w (HPopPost F p xs w) := by
  obtain ⟨A0, m0, c0, hm0, hc0⟩ := len_at h
  rw [hl] at hc0 hH
  have C0 := Lib.hid hc0
  have H0 := Lib.hid h; have HH := Lib.hid hH; have HL := Lib.hid hl; have HX := Lib.hid hx
  have hm6 : m ≤ 1000000 := by omega
  clear h hc0 hH hl hx
  go_enter Try.func35, Try.ntmps35
  go_wp2_with fail
  ((with_reducible refine C0.out.mono ?_); rintro e w1 ⟨rfl, rfl⟩)
  clear C0 hm0
  obtain ⟨A1, m1, c1, hm1, hc1⟩ := swap_at H0.out HX.out 0 m (by rw [HL.out]; omega) (by rw [HL.out]; omega) 0 m rfl rfl
  have C1 := Lib.hid hc1
  have hn1 : ((m + 1 : Nat) : Int) - 1 = m := by omega
  clear hc1
  go_wp2_with fail
  ((with_reducible refine C1.out.mono ?_); rintro e w2 ⟨rfl, hI, hl⟩)
  have HYL := Lib.hid (show (swp xs 0 m).length = m + 1 by rw [swp_length]; exact HL.out)
  have HY0 := Lib.hid (show at_ (swp xs 0 m) m = at_ xs 0 by rw [at_swp _ _ _ _ (by rw [HL.out]; omega) (by rw [HL.out]; omega), if_pos rfl])
  have HYP := Lib.hid (swp_perm xs 0 m (by rw [HL.out]; omega) (by rw [HL.out]; omega))
  have HYH := Lib.hid (heap_swap HH.out HL.out)
  have I2 := Lib.hid hI; have W2 := Lib.hid hl
  clear hI hl C1 hm1 hn1
  generalize swp xs 0 m = ys at *
  have C2 := Lib.hid (down_calls F p 0 m ys w2 I2.out (by rw [HYL.out]; omega) (by rw [HYL.out, ← HL.out]; exact HX.out) (by omega) HYH.out)
  rw [show ((0 : Nat) : Int) = 0 from rfl] at C2
  go_wp2_with fail
  ((with_reducible refine C2.out.mono ?_); rintro e w3 ⟨r, zs, rfl, hp2, hh2, hk2, hI, hl⟩)
  have HZL := Lib.hid (hp2.length_eq.trans HYL.out)
  have HZ0 := Lib.hid ((hk2 m (Nat.le_refl _)).trans HY0.out)
  have HZP := Lib.hid (hp2.trans HYP.out); have HZH := Lib.hid hh2
  have I3 := Lib.hid hI; have W3 := Lib.hid (W2.out.trans hl)
  clear hp2 hh2 hk2 hI hl C2 I2 W2
  have C3 := pop_calls F p m zs w3 I3.out HZL.out (by rw [HZL.out, ← HL.out]; exact HX.out)
  rw [HZ0.out] at C3
  have C3 := Lib.hid C3
  have hm3 := met_Pop p w3
  go_wp2_with fail
  ((with_reducible refine C3.out.mono ?_); rintro e w4 ⟨rfl, hI, hl⟩)
  have I4 := Lib.hid hI; have W4 := Lib.hid (W3.out.trans hl)
  clear hI hl C3 hm3 I3 W3
  go_wp2_with fail
  go_ret
  have HT : (zs.take m).length = m := by rw [List.length_take, HZL.out]; omega
  refine ⟨zs.take m, rfl, ?_, by rw [HT]; exact heap_take HZH.out, I4.out, W4.out⟩
  have h1 := take_last HZL.out
  rw [HZ0.out] at h1
  have h2 : (zs.take m ++ [at_ xs 0]).Perm xs := by rw [← h1]; exact HZP.out
  exact (List.perm_append_comm (l₁ := [at_ xs 0]) (l₂ := zs.take m)).trans h2
end Go.Proofs.Ytgpnceaplakemaa.Hp
