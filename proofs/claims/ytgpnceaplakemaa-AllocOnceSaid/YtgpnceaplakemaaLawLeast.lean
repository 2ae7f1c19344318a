/- What this text proves: the law AllocLeast on every Space and every byte. -/
import Derived.Test.YtgpnceaplakemaaAlG
import Derived.Test.YtgpnceaplakemaaAlH
namespace Go.Proofs.Ytgpnceaplakemaa.Hp
open Go Go.RowKit Go.ChangeShapes Go.Maps Go.Proofs.Ytgpnceaplakemaa.Base Go.Proofs.Ytgpnceaplakemaa.Own
set_option linter.unusedSimpArgs false

theorem mem_tkL {free : List Int} {len : Int} {k : Nat} {u : Int} (h : u ∈ tkL free len k) : u ∈ free.take k ∨ (free.length < k ∧ len ≤ u) := by
  rcases List.mem_append.1 h with h | h
  · exact .inl h
  · refine .inr ?_
    obtain ⟨j, hj, rfl⟩ := List.mem_map.1 h
    have := List.mem_range.1 hj
    omega
theorem tkL_less {free : List Int} {len cap : Int} {k : Nat} (hg : aGood free len cap = true) : ∀ v ∈ free.drop k, ∀ u ∈ tkL free len k, u < v := by
  obtain ⟨h1, h2, h3, h4⟩ := aGood_iff.1 hg
  obtain ⟨h5, h6⟩ := goodL_all h4
  intro v hv u hu
  rw [← List.take_append_drop k free, List.pairwise_append] at h6
  rcases mem_tkL hu with h | ⟨h, _⟩
  · exact h6.2.2 u h v hv
  · rw [List.drop_of_length_le (by omega)] at hv
    simp at hv
theorem tkL_rise {free : List Int} {len cap : Int} {k : Nat} (hg : aGood free len cap = true) : (tkL free len k).Pairwise (· < ·) := by
  obtain ⟨h1, h2, h3, h4⟩ := aGood_iff.1 hg
  obtain ⟨h5, h6⟩ := goodL_all h4
  unfold tkL
  rw [List.pairwise_append]
  refine ⟨h6.sublist (List.take_sublist _ _), ?_, fun u hu v hv => ?_⟩
  · rw [List.pairwise_map]
    refine List.pairwise_lt_range.imp ?_
    intro a b hab
    omega
  · obtain ⟨j, _, rfl⟩ := List.mem_map.1 hv
    have := (h5 u (List.mem_of_mem_take hu)).2
    omega
set_option maxHeartbeats 12800000 in
set_option maxRecDepth 100000 in
theorem least_law (A : Option Addr) (c : Nat) (free : List Int) (len cap : Int) (b8 : Nat) (hb8 : b8 < 256) (w : World) (h : RowOf w A c free) (hn : free.length ≤ 9223372036854775807) :
    Calls Try.prog 10 #[.agg #[.slice A free.length c, .int .i64 len, .int .i64 cap], .int .u8 b8] w fun e w' => e = .returned (.bool true) ∧ Below w.heap.size w w' := by
  obtain ⟨k, hk, hk2⟩ : ∃ k : Nat, b8 % 40 = k ∧ k < 40 := ⟨_, rfl, by omega⟩
  have tk : (b8 : Int).tmod 40 = k := by rw [← hk]; rfl
  clear hk
  have L1 := Lib.hid (bel_alloc (Below.refl w.heap.size w) (.cells #[.slice A free.length c, .int .i64 len, .int .i64 cap] 41))
  have B1 := Lib.hid (Blk.new w 41 [.slice A free.length c, .int .i64 len, .int .i64 cap])
  have R1 := Lib.hid (h.below L1.out)
  have CG := Lib.hid (rgood_calls A c free len cap _ R1.out hn)
  cases hg : aGood free len cap with
  | false =>
    rw [hg] at CG
    clear hg R1 h B1
    go_enter Try.func10, Try.ntmps10
    go_wp2_with fail
    ((with_reducible refine CG.out.mono ?_); rintro e w1 ⟨rfl, hl⟩)
    have L2 := Lib.hid (bel_then L1.out hl)
    go_wp2_with fail
    ((with_reducible refine (wakes25_calls _).mono ?_); rintro e w2 ⟨rfl, hl⟩)
    have L3 := Lib.hid (bel_then L2.out hl)
    go_wp2_with fail
    go_ret
    exact ⟨rfl, L3.out⟩
  | true =>
    rw [hg] at CG
    have hnn := aGood_length hg
    have LS := Lib.hid (tkL_less (k := k) hg)
    have LR := Lib.hid (List.pairwise_iff_getElem.1 (tkL_rise (k := k) hg))
    have LL := Lib.hid (tkL_length free len k)
    obtain ⟨hg1, hg2, hg3, _⟩ := aGood_iff.1 hg
    obtain ⟨n, hnf⟩ : ∃ n, free.length = n := ⟨_, rfl⟩
    have HN := Lib.hid hnf
    have HG := Lib.hid hg
    rw [hnf] at CG B1 L1 R1 hnn ⊢
    go_enter Try.func10, Try.ntmps10
    go_wp2_with fail
    ((with_reducible refine CG.out.mono ?_); rintro e w1 ⟨rfl, hl⟩)
    have L2 := Lib.hid (bel_then L1.out hl)
    have B2 := Lib.hid (B1.out.step hl)
    have R2 := Lib.hid (R1.out.below hl)
    have c0 := B2.out.cell 0; have c1 := B2.out.cell 1; have c2 := B2.out.cell 2
    clear hl CG B1 L1 R1 hg h
    by_cases hok : tOk free len cap k = true
    · have CT := take_yes A c free len cap k w1 R2.out hok
      unfold TkPost at CT
      rw [hnf] at CT
      have HZ : Hid (k ≤ n ∧ len + ((k - n : Nat) : Int) = len ∨ (len + ((k - n : Nat) : Int) ≠ len ∧ (free.drop k).length = 0)) := by
        rcases Nat.lt_or_ge n k with h | h
        · exact .inr ⟨by omega, by simp; omega⟩
        · exact .inl ⟨h, by rw [show k - n = 0 by omega]; simp⟩
      have C := Lib.hid CT
      clear CT hnf hok
      generalize len + ((k - n : Nat) : Int) = x at *
      generalize hnv : (free.drop k).length = nv at *
      have NV := Lib.hid hnv
      clear hnv
      go_wp2_with fail
      ((with_reducible refine C.out.mono ?_); rintro e w2 ⟨v, u, rfl, hv, hu, hl⟩)
      obtain ⟨Av, cv, rfl⟩ := own_form hv
      obtain ⟨Au, cu, rfl⟩ := own_form hu
      have hbb := bel_alloc (Below.refl w2.heap.size w2) (.cells #[.slice Av nv cv, .int .i64 x, .int .i64 cap] 41)
      have B3 := Lib.hid ((B2.out.step hl).step hbb)
      have T2 := Lib.hid (Blk.new w2 41 [.slice Av nv cv, .int .i64 x, .int .i64 cap])
      have U2 := Lib.hid ((own_intArg hu).below hbb)
      have V2 := Lib.hid ((own_intArg hv).below hbb)
      have L3 := Lib.hid (bel_then (bel_then L2.out hl) hbb)
      have hnv2 : nv ≤ 1000 := by have := NV.out; have := HN.out; simp at *; omega
      clear C hl hv hu hbb B2 L2 R2 c0 c1 c2
      go_upto_region 4 with fail
      generalize hg2' : w2.heap.size = g2 at *
      rw [show (w2.alloc (.cells [Value.slice Av nv cv, .int .i64 x, .int .i64 cap].toArray 41)) = w2.alloc (.cells #[.slice Av nv cv, .int .i64 x, .int .i64 cap] 41) from rfl] at T2
      generalize w2.alloc (.cells #[.slice Av nv cv, .int .i64 x, .int .i64 cap] 41) = W2 at *
      clear hg2'
      go_wp2_with fail
      go_loopw [8] (fun i wr => ∃ j : Nat, j ≤ k ∧ i = .int .i64 j ∧ Below W2.heap.size W2 wr) (fun i _ => k - (intOf i).toNat)
      case atStart => exact ⟨0, Nat.zero_le _, rfl, Below.refl _ _⟩
      case round =>
        obtain ⟨j, hj, rfl, hl⟩ := hrel
        by_cases hlt : j < k
        · have hjk : (j : Int) < k := by omega
          have hjl : j < (tkL free len k).length := by rw [LL.out]; exact hlt
          obtain ⟨b, o, rfl, hb, hc⟩ := (U2.out.below hl) j hjl
          have LQ0 := Lib.hid hl
          cases j with
          | zero =>
            rw [Nat.add_zero] at hc
            have a1 : 0 < k := hlt
            have a2 : (0 : Int) < k := by omega
            clear hl
            go_upto_region 9 with fail
            go_quiet (fail)
            have LQ := Lib.hid (bel_drewN LQ0.out nq)
            go_wp2_with fail
            go_loopw [9] (fun i wr => ∃ m : Nat, m ≤ nv ∧ i = .int .i64 m ∧ Below W2.heap.size W2 wr) (fun i _ => nv - (intOf i).toNat)
            case atStart => exact ⟨0, Nat.zero_le _, rfl, LQ.out⟩
            case round =>
              obtain ⟨m, hm, rfl, hl⟩ := hrel
              have LM := Lib.hid hl
              have T3 := Lib.hid (T2.out.step hl)
              have t0 := T3.out.cell 0
              by_cases hmt : m < nv
              · have hmn : (m : Int) < nv := by omega
                have hml : m < (free.drop k).length := by rw [NV.out]; exact hmt
                obtain ⟨b', o', rfl, hb', hc'⟩ := (V2.out.below hl) m hml
                obtain ⟨bu, ou, eu, hbu, hcu⟩ := (U2.out.below hl) 0 hjl
                obtain ⟨rfl, rfl⟩ : b = bu ∧ o = ou := by simpa using eu
                have hlt2 := LS.out _ (List.getElem_mem hml) _ (List.getElem_mem hjl)
                rw [Nat.add_zero] at hcu
                clear eu hl
                generalize (free.drop k)[m] = vm at *
                generalize (tkL free len k)[0] = uj at *
                have hd2 : decide (vm ≤ uj) = false := decide_eq_false (by omega)
                go_wp2_with fail
                go_quiet (fail)
                go_wp2_with fail
                exact ⟨⟨m + 1, by omega, by go_num, bel_drewN LM.out _⟩, by simp [intOf]; omega⟩
              · obtain rfl : nv = m := by omega
                clear hl
                go_wp2_with fail
                exact ⟨⟨0 + 1, by omega, by go_num, LM.out⟩, by simp [intOf]; omega⟩
          | succ q =>
            have hql : q < (tkL free len k).length := by omega
            obtain ⟨b', o', e', _, hp⟩ := (U2.out.below hl) q hql
            obtain ⟨rfl, rfl⟩ : b = b' ∧ o = o' := by simpa using e'
            have hr := LR.out q (q + 1) hql hjl (by omega)
            have hd1 : decide ((tkL free len k)[q + 1] ≤ (tkL free len k)[q]) = false := decide_eq_false (by omega)
            have hq0 : decide ((0 : Int) < (q : Int) + 1) = true := decide_eq_true (by omega)
            have hqn : (q : Int) < k := by omega
            clear e' hl hr
            go_upto_region 9 with fail
            go_quiet (fail)
            have LQ := Lib.hid (bel_drewN LQ0.out nq)
            go_wp2_with fail
            go_loopw [9] (fun i wr => ∃ m : Nat, m ≤ nv ∧ i = .int .i64 m ∧ Below W2.heap.size W2 wr) (fun i _ => nv - (intOf i).toNat)
            case atStart => exact ⟨0, Nat.zero_le _, rfl, LQ.out⟩
            case round =>
              obtain ⟨m, hm, rfl, hl⟩ := hrel
              have LM := Lib.hid hl
              have T3 := Lib.hid (T2.out.step hl)
              have t0 := T3.out.cell 0
              by_cases hmt : m < nv
              · have hmn : (m : Int) < nv := by omega
                have hml : m < (free.drop k).length := by rw [NV.out]; exact hmt
                obtain ⟨b', o', rfl, hb', hc'⟩ := (V2.out.below hl) m hml
                obtain ⟨bu, ou, eu, hbu, hcu⟩ := (U2.out.below hl) (q + 1) hjl
                obtain ⟨rfl, rfl⟩ : b = bu ∧ o = ou := by simpa using eu
                have hlt2 := LS.out _ (List.getElem_mem hml) _ (List.getElem_mem hjl)
                clear eu hl
                generalize (free.drop k)[m] = vm at *
                generalize (tkL free len k)[(q + 1)] = uj at *
                have hd2 : decide (vm ≤ uj) = false := decide_eq_false (by omega)
                go_wp2_with fail
                go_quiet (fail)
                go_wp2_with fail
                exact ⟨⟨m + 1, by omega, by go_num, bel_drewN LM.out _⟩, by simp [intOf]; omega⟩
              · obtain rfl : nv = m := by omega
                clear hl
                go_wp2_with fail
                exact ⟨⟨(q + 1) + 1, by omega, by go_num, LM.out⟩, by simp [intOf]; omega⟩
        · obtain rfl : k = j := by omega
          have LQ := Lib.hid hl
          have B4 := B3.out.step hl
          have T4 := T2.out.step hl
          have L4 := Lib.hid (bel_then L3.out hl)
          have c1 := B4.cell 1; have t0 := T4.cell 0; have t1 := T4.cell 1
          clear hl B4 T4
          rcases HZ.out with ⟨_, hx⟩ | ⟨hx, hz⟩
          · subst hx
            go_wp2_with fail
            ((with_reducible refine (wakes25_calls _).mono ?_); rintro e w5 ⟨rfl, hl⟩)
            have L5 := Lib.hid (bel_then L4.out hl)
            go_wp2_with fail
            go_ret
            exact ⟨rfl, L5.out⟩
          · subst hz
            have hx' : (x == len) = false := by rw [beq_eq_false_iff_ne]; exact hx
            go_wp2_with fail
            ((with_reducible refine (wakes25_calls _).mono ?_); rintro e w5 ⟨rfl, hl⟩)
            have L5 := Lib.hid (bel_then L4.out hl)
            go_wp2_with fail
            go_ret
            exact ⟨rfl, L5.out⟩
    · have CN := take_no A c free len cap k w1 R2.out hn (by omega) (by simpa using hok)
      unfold NoPost at CN
      rw [hnf] at CN
      have C := Lib.hid CN
      clear CN hok
      go_wp2_with fail
      ((with_reducible refine C.out.mono ?_); rintro e w2 ⟨rfl, hl⟩)
      have L3 := Lib.hid (bel_alloc (bel_then L2.out hl) (.cells #[.slice none 0 0, .int .i64 0, .int .i64 0] 41))
      clear C hl c0 c1 c2
      go_upto_region 4 with fail
      generalize hg2' : w2.heap.size = g2 at *
      generalize w2.alloc (.cells #[.slice none 0 0, .int .i64 0, .int .i64 0] 41) = W2 at *
      clear hg2'
      go_wp2_with fail
      ((with_reducible refine (wakes25_calls _).mono ?_); rintro e w5 ⟨rfl, hl⟩)
      have L5 := Lib.hid (bel_then L3.out hl)
      go_wp2_with fail
      go_ret
      exact ⟨rfl, L5.out⟩
end Go.Proofs.Ytgpnceaplakemaa.Hp
