/- What this text proves: the reference's Good is the program's. -/
import Derived.Test.YtgpnceaplakemaaAlF
namespace Go.Proofs.Ytgpnceaplakemaa.Hp
open Go Go.RowKit Go.Proofs.Ytgpnceaplakemaa.Base Go.Proofs.Ytgpnceaplakemaa.Own
set_option linter.unusedSimpArgs false

/-- What the loop knows of the page ahead of the k-th. -/
def GoodI (free : List Int) (k : Nat) (last : Int) : Prop := 1 ≤ last ∧ (k = 0 → last = 1) ∧ ∀ q, k = q + 1 → free[q]? = some last
theorem goodI_succ {free : List Int} {k : Nat} {v : Int} (h1 : 1 ≤ v) (h : free[k]? = some v) : GoodI free (k + 1) v :=
  ⟨h1, fun h => absurd h (by omega), fun q hq => by
    obtain rfl : q = k := by omega
    exact h⟩
set_option maxHeartbeats 6400000 in
set_option maxRecDepth 100000 in
theorem rgood_calls (A : Option Addr) (c : Nat) (free : List Int) (len cap : Int) (w : World) (h : RowOf w A c free) (hn : free.length ≤ 9223372036854775807) :
    Calls Try.prog 29 #[.agg #[.slice A free.length c, .int .i64 len, .int .i64 cap]] w fun e w' => e = .returned (.bool (aGood free len cap)) ∧ Below w.heap.size w w' := by
  obtain ⟨n, hnn⟩ : ∃ n, free.length = n := ⟨_, rfl⟩
  have HN := Lib.hid hnn; have HR := Lib.hid h
  rw [hnn] at hn ⊢
  clear hnn h
  have KB := Lib.hid (Blk.new w 41 [.slice A n c, .int .i64 len, .int .i64 cap])
  have LB := Lib.hid (bel_alloc (Below.refl w.heap.size w) (.cells #[.slice A n c, .int .i64 len, .int .i64 cap] 41))
  by_cases h1 : len < 2
  · have HG : Hid (aGood free len cap = false) := by simp [Hid, aGood]; intros; omega
    clear KB
    go_enter Try.func29, Try.ntmps29
    go_wp2_with fail
    go_ret
    exact ⟨by rw [HG.out]; rfl, LB.out⟩
  have h1' : decide (len < 2) = false := decide_eq_false h1
  by_cases h2 : cap < len
  · have HG : Hid (aGood free len cap = false) := by simp [Hid, aGood]; intros; omega
    have h2' : decide (cap < len) = true := decide_eq_true h2
    clear KB h1
    go_enter Try.func29, Try.ntmps29
    go_wp2_with fail
    go_ret
    exact ⟨by rw [HG.out]; rfl, LB.out⟩
  have h2' : decide (cap < len) = false := decide_eq_false h2
  by_cases h3 : 200 < cap
  · have HG : Hid (aGood free len cap = false) := by simp [Hid, aGood]; intros; omega
    have h3' : decide (200 < cap) = true := decide_eq_true h3
    clear KB h1 h2
    go_enter Try.func29, Try.ntmps29
    go_wp2_with fail
    go_ret
    exact ⟨by rw [HG.out]; rfl, LB.out⟩
  have h3' : decide (200 < cap) = false := decide_eq_false h3
  have HG : Hid (aGood free len cap = goodL len 1 free) := by
    unfold Hid aGood
    rw [decide_eq_true (show 2 ≤ len by omega), decide_eq_true (show len ≤ cap by omega), decide_eq_true (show cap ≤ 200 by omega)]
    rfl
  clear h1 h2 h3
  obtain ⟨W, hW⟩ : ∃ W, w.alloc (.cells #[.slice A n c, .int .i64 len, .int .i64 cap] 41) = W := ⟨_, rfl⟩
  have c0 := KB.out.cell 0; have c1 := KB.out.cell 1; have c2 := KB.out.cell 2
  rw [show w.alloc (.cells [Value.slice A n c, .int .i64 len, .int .i64 cap].toArray 41) = W from hW] at c0 c1 c2 KB
  have hsz : w.heap.size < W.heap.size := by rw [← hW]; simp
  rw [hW] at LB
  have HB := Lib.hid ((HR.out.below (w1 := W) LB.out).arg)
  go_enter Try.func29, Try.ntmps29
  go_upto_region 1 with fail
  clear hW
  go_wp2_with fail
  clear c0 c1 c2
  go_loopw [3] (fun i wr => ∃ (k : Nat) (last : Int), k ≤ n ∧ i = .int .i64 k ∧ goodL len 1 free = goodL len last (free.drop k) ∧ GoodI free k last ∧ Below W.heap.size W wr) (fun i _ => n - (intOf i).toNat)
  case atStart => exact ⟨0, 1, Nat.zero_le _, rfl, rfl, ⟨by omega, fun _ => rfl, fun q h => by omega⟩, Below.refl _ _⟩
  case round =>
    obtain ⟨k, last, hk, rfl, hG, ⟨hl1, hl0, hlq⟩, hlow⟩ := hrel
    have HGL := Lib.hid hG; have LW := Lib.hid hlow; have HQ := Lib.hid hlq; have HZ := Lib.hid hl0
    have HX := Lib.hid (bel_then LB.out hlow)
    have K2 := KB.out.step hlow
    have c0 := K2.cell 0; have c1 := K2.cell 1; have c2 := K2.cell 2
    clear hG hlq hl0 K2
    by_cases hlt : k < n
    · have hkl : k < free.length := by rw [HN.out]; exact hlt
      have hkn : (k : Int) < n := by omega
      obtain ⟨b, o, rfl, hb, hc⟩ := (HB.out.below hlow) k hkl
      have hd := Lib.hid (List.drop_eq_getElem_cons hkl)
      have HV := Lib.hid (List.getElem?_eq_getElem hkl)
      clear hlow
      generalize free[k] = v at *
      by_cases h4 : v < 2
      · have HF : Hid (aGood free len cap = false) := by
          unfold Hid
          rw [HG.out, HGL.out, hd.out]
          simp only [goodL, decide_eq_false (show ¬ last < v by omega), Bool.false_and]
        have h4' : decide (v < 2) = true := decide_eq_true h4
        clear h4
        go_wp2_with fail
        go_quiet (fail)
        go_wp2_with fail
        go_ret
        exact ⟨by rw [HF.out]; rfl, bel_drewN HX.out _⟩
      · have h4' : decide (v < 2) = false := decide_eq_false h4
        by_cases h5 : len ≤ v
        · have HF : Hid (aGood free len cap = false) := by
            unfold Hid
            rw [HG.out, HGL.out, hd.out]
            simp only [goodL, decide_eq_false (show ¬ v < len by omega), Bool.false_and, Bool.and_false]
          have h5' : decide (v ≥ len) = true := decide_eq_true h5
          clear h4 h5
          go_wp2_with fail
          go_quiet (fail)
          go_wp2_with fail
          go_ret
          exact ⟨by rw [HF.out]; rfl, bel_drewN HX.out _⟩
        · have h5' : decide (v ≥ len) = false := decide_eq_false h5
          cases k with
          | zero =>
            have HF : Hid (goodL len 1 free = goodL len v (free.drop 1)) := by
              unfold Hid
              rw [HGL.out, hd.out, HZ.out rfl]
              simp only [goodL, decide_eq_true (show 1 < v by omega), decide_eq_true (show v < len by omega), Bool.true_and]
            have hv1 : 1 ≤ v := by omega
            rw [Nat.add_zero] at hc
            have a1 : 0 < n := hlt
            have a2 : (0 : Int) < n := by omega
            clear h4 h5 hkn hlt
            go_wp2_with fail
            go_quiet (fail)
            go_wp2_with fail
            exact ⟨⟨1, v, by omega, rfl, HF.out, goodI_succ hv1 HV.out, bel_drewN LW.out _⟩, by simp [intOf]; omega⟩
          | succ q =>
            have hql : q < free.length := by omega
            obtain ⟨b', o', e', _, hp⟩ := (HB.out.below LW.out) q hql
            obtain ⟨rfl, rfl⟩ : b = b' ∧ o = o' := by simpa using e'
            have hpl : free[q] = last := by
              have := HQ.out q rfl
              rw [List.getElem?_eq_getElem hql] at this
              exact Option.some.inj this
            rw [hpl] at hp
            have hq0 : decide ((0 : Int) < (q : Int) + 1) = true := decide_eq_true (by omega)
            have hqn : (q : Int) < n := by omega
            clear e'
            by_cases h6 : v ≤ last
            · have HF : Hid (aGood free len cap = false) := by
                unfold Hid
                rw [HG.out, HGL.out, hd.out]
                simp only [goodL, decide_eq_false (show ¬ last < v by omega), Bool.false_and]
              have h6' : decide (v ≤ last) = true := decide_eq_true h6
              clear h4 h5 h6
              go_wp2_with fail
              go_quiet (fail)
              go_wp2_with fail
              go_ret
              exact ⟨by rw [HF.out]; rfl, bel_drewN HX.out _⟩
            · have HF : Hid (goodL len 1 free = goodL len v (free.drop (q + 1 + 1))) := by
                unfold Hid
                rw [HGL.out, hd.out]
                simp only [goodL, decide_eq_true (show last < v by omega), decide_eq_true (show v < len by omega), Bool.true_and]
              have h6' : decide (v ≤ last) = false := decide_eq_false h6
              have hv1 : 1 ≤ v := by omega
              clear h4 h5 h6
              go_wp2_with fail
              go_quiet (fail)
              go_wp2_with fail
              exact ⟨⟨q + 1 + 1, v, by omega, by go_num, HF.out, goodI_succ hv1 HV.out, bel_drewN LW.out _⟩, by simp [intOf]; omega⟩
    · obtain rfl : n = k := by omega
      have HF : Hid (aGood free len cap = true) := by
        unfold Hid
        rw [HG.out, HGL.out, List.drop_of_length_le (by have := HN.out; omega)]
        rfl
      go_wp2_with fail
      go_ret
      exact ⟨by rw [HF.out]; rfl, HX.out⟩
end Go.Proofs.Ytgpnceaplakemaa.Hp
