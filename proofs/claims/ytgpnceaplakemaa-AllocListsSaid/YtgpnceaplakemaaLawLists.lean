/- What this text proves: the law AllocLists on every Space and every list of whole numbers. -/
import Derived.Test.YtgpnceaplakemaaAlJ
import Derived.Test.YtgpnceaplakemaaAlG
import Derived.Test.YtgpnceaplakemaaAlH
namespace Go.Proofs.Ytgpnceaplakemaa.Hp
open Go Go.RowKit Go.ChangeShapes Go.Maps Go.Proofs.Ytgpnceaplakemaa.Base Go.Proofs.Ytgpnceaplakemaa.Own
set_option linter.unusedSimpArgs false

/-- What is used: what is not free, below the length. -/
def flI (free : List Int) (len : Int) (l : List Int) : List Int := l.filter fun v => !decide (v ∈ free) && decide (v < len)
theorem flI_yes {free : List Int} {len u : Int} {l : List Int} {k : Nat} (h : l.take (k + 1) = l.take k ++ [u]) (h1 : u ∉ free) (h2 : u < len) : flI free len (l.take (k + 1)) = flI free len (l.take k) ++ [u] := by
  rw [h]
  simp [flI, List.filter_append, h1, h2]
theorem flI_no {free : List Int} {len u : Int} {l : List Int} {k : Nat} (h : l.take (k + 1) = l.take k ++ [u]) (h1 : u ∈ free ∨ ¬ u < len) : flI free len (l.take (k + 1)) = flI free len (l.take k) := by
  rw [h]
  rcases h1 with h1 | h1 <;> simp [flI, List.filter_append, h1]
theorem flI_length (free : List Int) (len : Int) (l : List Int) (k : Nat) : (flI free len (l.take k)).length ≤ k := by
  have h1 := List.length_filter_le (fun v => !decide (v ∈ free) && decide (v < len)) (l.take k)
  have h2 : (l.take k).length ≤ k := by simp; omega
  exact Nat.le_trans h1 h2
/-- What the inner loop knows of the page. -/
def FrI (free : List Int) (u : Int) (q : Nat) (bb : Bool) : Prop := (bb = true → u ∈ free) ∧ (bb = false → ∀ r, r < q → free[r]? ≠ some u)
theorem frI_step {free : List Int} {u fq : Int} {q : Nat} (h : FrI free u q false) (hq : free[q]? = some fq) : FrI free u (q + 1) (fq == u) := by
  refine ⟨fun e => ?_, fun e r hr => ?_⟩
  · have : fq = u := by simpa using e
    subst this
    exact List.mem_of_getElem? hq
  · by_cases hrq : r = q
    · subst hrq
      rw [hq]
      intro h
      injection h with h
      exact (beq_eq_false_iff_ne.1 e) h
    · exact h.2 rfl r (by omega)
theorem frI_end {free : List Int} {u : Int} {q : Nat} {bb : Bool} (h : FrI free u q bb) (hq : free.length ≤ q) : bb = decide (u ∈ free) := by
  cases bb with
  | true => exact (decide_eq_true (h.1 rfl)).symm
  | false =>
    refine (decide_eq_false fun hm => ?_).symm
    obtain ⟨r, hr, e⟩ := List.mem_iff_getElem.1 hm
    exact h.2 rfl r (by omega) (by rw [List.getElem?_eq_getElem hr, e])
set_option maxHeartbeats 25600000 in
set_option maxRecDepth 100000 in
theorem lists_law (A A1 : Option Addr) (c c1 : Nat) (free used : List Int) (len cap : Int) (w : World) (h : RowOf w A c free) (hn : free.length ≤ 9223372036854775807) (h1 : IntsIn w A1 c1 used) :
    Calls Try.prog 8 #[.agg #[.slice A free.length c, .int .i64 len, .int .i64 cap], .slice A1 used.length c1] w fun e w' => e = .returned (.bool true) ∧ Below w.heap.size w w' := by
  obtain ⟨i0, hi, hz0, hz1, hz2⟩ := info_parts info3
  have L1 := Lib.hid (bel_alloc (Below.refl w.heap.size w) (.cells #[.slice A free.length c, .int .i64 len, .int .i64 cap] 41))
  have B1 := Lib.hid (Blk.new w 41 [.slice A free.length c, .int .i64 len, .int .i64 cap])
  have R0 := Lib.hid h
  have CG := Lib.hid (rgood_calls A c free len cap _ (h.below L1.out) hn)
  have HU := Lib.hid (rowOf_in h1)
  have HW := Lib.hid h1.wf
  have hml := h1.len
  obtain ⟨m, hm⟩ : ∃ m, used.length = m := ⟨_, rfl⟩
  have HM := Lib.hid hm
  rw [hm] at hml ⊢
  have hml' : m ≤ 9223372036854775807 := hml
  clear h h1 hm hml
  cases hg : aGood free len cap with
  | false =>
    rw [hg] at CG
    clear hg B1
    go_enter Try.func8, Try.ntmps8
    go_wp2_with fail
    ((with_reducible refine CG.out.mono ?_); rintro e w1 ⟨rfl, hl⟩)
    have L2 := Lib.hid (bel_then L1.out hl)
    go_wp2_with fail
    ((with_reducible refine (wakes25_calls _).mono ?_); rintro e w2 ⟨rfl, hl⟩)
    have L3 := Lib.hid (bel_then L2.out hl)
    go_wp2_with fail
    go_ret
    exact ⟨rfl, L3.out⟩
  | true =>
    rw [hg] at CG
    have hnn := aGood_length hg
    obtain ⟨hg1, hg2, hg3, _⟩ := aGood_iff.1 hg
    have HG := Lib.hid hg
    obtain ⟨n, hnf⟩ : ∃ n, free.length = n := ⟨_, rfl⟩
    have HN := Lib.hid hnf
    rw [hnf] at CG B1 L1 hnn ⊢
    clear hnf hg
    by_cases hlong : 300 < m
    · have hl300 : decide ((m : Int) > 300) = true := decide_eq_true (by omega)
      go_enter Try.func8, Try.ntmps8
      go_wp2_with fail
      ((with_reducible refine CG.out.mono ?_); rintro e w1 ⟨rfl, hl⟩)
      have L2 := Lib.hid (bel_then L1.out hl)
      go_wp2_with fail
      ((with_reducible refine (wakes25_calls _).mono ?_); rintro e w2 ⟨rfl, hl⟩)
      have L3 := Lib.hid (bel_then L2.out hl)
      go_wp2_with fail
      go_ret
      exact ⟨rfl, L3.out⟩
    have hl300 : decide ((m : Int) > 300) = false := decide_eq_false (by omega)
    go_enter Try.func8, Try.ntmps8
    go_wp2_with fail
    ((with_reducible refine CG.out.mono ?_); rintro e w1 ⟨rfl, hl⟩)
    have L2 := Lib.hid (bel_then L1.out hl)
    have B2 := Lib.hid (B1.out.step hl)
    clear hl CG B1 L1
    go_wp2_with fail
    go_loopw [5, 6] (fun v i wr => ∃ k : Nat, k ≤ m ∧ i = .int .i64 k ∧ wr.ownsRow w.heap.size 3 1 v (flI free len (used.take k)).length (ints (flI free len (used.take k))) ∧ Blk wr w.heap.size 41 [.slice A n c, .int .i64 len, .int .i64 cap] ∧ Below w.heap.size w wr) (fun _ i _ => m - (intOf i).toNat)
    case atStart => exact ⟨0, Nat.zero_le _, rfl, ⟨rfl, .inl ⟨rfl, rfl⟩⟩, B2.out, L2.out⟩
    case round =>
      clear B2 L2
      obtain ⟨k, hk, rfl, hO, hB, hL⟩ := hrel
      obtain ⟨Av, cv, rfl⟩ := own_form hO
      have O := Lib.hid hO; have B := Lib.hid hB; have L := Lib.hid hL
      have hfl := flI_length free len used k
      clear hO hB hL
      by_cases hlt : k < m
      · have hkm : (k : Int) < m := by omega
        have hku : k < used.length := by rw [HM.out]; exact hlt
        have HT : Hid (used.take (k + 1) = used.take k ++ [used[k]]) := by unfold Hid; rw [List.take_add_one, List.getElem?_eq_getElem hku]; rfl
        have HE := Lib.hid (List.getElem?_eq_getElem hku)
        have HC := Lib.hid (fun (w1 : World) (hb : Below wr.heap.size wr w1) => ((HU.out.below L.out).below hb).arg k hku)
        generalize used[k] = uk at *
        go_wp2_with fail
        go_loopw [7, 8] (fun s i wi => ∃ (q : Nat) (bb : Bool), q ≤ n ∧ i = .int .i64 q ∧ s = .bool bb ∧ FrI free uk q bb ∧ Below wr.heap.size wr wi) (fun _ i _ => n - (intOf i).toNat)
        case atStart => exact ⟨0, false, Nat.zero_le _, rfl, rfl, ⟨(fun h => by cases h), fun _ r hr => by omega⟩, Below.refl _ _⟩
        case round =>
          obtain ⟨q, bb, hq, rfl, rfl, hF, hl⟩ := hrel
          have LQ := Lib.hid hl
          have HF := Lib.hid hF
          have b0' := (B.out.step hl).cell 0
          have b1' := (B.out.step hl).cell 1
          clear hF hl
          by_cases hqn : q < n
          · have hqn' : (q : Int) < n := by omega
            have hql : q < free.length := by rw [HN.out]; exact hqn
            obtain ⟨b2, o2, rfl, hb2', hc2⟩ := ((R0.out.below L.out).below LQ.out).arg q hql
            obtain ⟨bu, ou, rfl, _, hcu⟩ := HC.out _ LQ.out
            have HFQ := Lib.hid (List.getElem?_eq_getElem hql)
            generalize free[q] = fq at *
            cases bb with
            | true =>
              go_wp2_with fail
              go_quiet (fail)
              go_wp2_with fail
              exact ⟨⟨q + 1, true, by omega, by go_num, rfl, ⟨fun _ => HF.out.1 rfl, (fun h => by cases h)⟩, bel_drewN LQ.out _⟩, by simp [intOf]; omega⟩
            | false =>
              go_wp2_with fail
              go_quiet (fail)
              go_wp2_with fail
              exact ⟨⟨q + 1, fq == uk, by omega, by go_num, rfl, frI_step HF.out HFQ.out, bel_drewN LQ.out _⟩, by simp [intOf]; omega⟩
          · obtain rfl : n = q := by omega
            have hbb := frI_end HF.out (by rw [HN.out]; omega)
            obtain ⟨bu, ou, rfl, _, hcu⟩ := HC.out _ LQ.out
            by_cases hin : uk ∈ free
            · have X := Lib.hid (flI_no (free := free) (len := len) HT.out (.inl hin))
              rw [decide_eq_true hin] at hbb
              subst hbb
              clear hin
              go_upto_region 12 with fail
              go_quiet (fail)
              have LQ2 := Lib.hid (bel_drewN LQ.out nq)
              clear hcu b1'
              go_wp2_with fail
              exact ⟨⟨k + 1, by omega, by go_num, by rw [X.out]; exact own_below O.out LQ2.out, B.out.step LQ2.out, bel_then L.out LQ2.out⟩, by simp [intOf]; omega⟩
            · rw [decide_eq_false hin] at hbb
              subst hbb
              by_cases hul : uk < len
              · have X := Lib.hid (flI_yes HT.out hin hul)
                have hud : decide (uk < len) = true := decide_eq_true hul
                have XL := Lib.hid (congrArg List.length X.out)
                have XI := Lib.hid (ints_snoc (flI free len (used.take k)) uk)
                clear hin hul
                go_upto_region 12 with fail
                go_quiet (fail)
                have LQ2 := Lib.hid (bel_drewN LQ.out nq)
                go_upto_region 13 with fail
                obtain ⟨bx, ox, ex, _, hcx⟩ := HC.out _ LQ2.out
                obtain ⟨rfl, rfl⟩ : bu = bx ∧ ou = ox := by simpa using ex
                clear hcu b1' b0' ex LQ
                generalize hW7 : wr.drewN nq = W7 at *
                clear hW7
                have O7 := Lib.hid (own_below O.out LQ2.out)
                have B7 := Lib.hid (B.out.step LQ2.out)
                have L7 := Lib.hid (bel_then L.out LQ2.out)
                have hs7 := L7.out.size
                clear O B L LQ2 HC
                generalize hnl : (flI free len (used.take k)).length = nl at *
                have HNL := Lib.hid hnl
                clear hnl
                go_wp2_with (first | (at_builtin; refine wpList_append_own_at _ rfl _ _ 22 rfl w.heap.size 3 i0 (.int .i64 0) 1 8 Try.underlying22 hi hz0 hz1 hz2 rfl (by decide) (.slice Av nl cv) nl (ints (flI free len (used.take k))) rfl (O7.out.alloc _) ⟨W7.heap.size, 0, none⟩ 1 1 [.int .i64 uk] rfl rfl (World.news_of_block (cs := #[.int .i64 uk]) (t := 3) (fr := (0, 0)) (by simpa using heap_alloc_new _ _)) (by simp [Value.oneCell']) (by unfold maxLen; omega) (by omega) (by simp; omega) ?_; intro u' w9 hown9 hgr9 _ _; have O9 := Lib.hid hown9; have B9 := Lib.hid ((B7.out.alloc _).grown hgr9 (Ne.symm (own_blk_ne O7.out B7.out (by decide)))); have L9 := Lib.hid (Below.grown (bel_alloc L7.out _) hgr9 (by simp; omega) (fun j hj => (own_lt O7.out j hj).1)); obtain ⟨A9, c9, rfl⟩ := own_form hown9; clear hown9 hgr9) | fail)
                exact ⟨⟨k + 1, by omega, by go_num, by rw [XL.out, X.out, XI.out]; simp only [List.length_append, List.length_singleton, HNL.out]; exact O9.out, B9.out, L9.out⟩, by simp [intOf]; omega⟩
              · have X := Lib.hid (flI_no (free := free) (len := len) HT.out (.inr hul))
                have hud : decide (uk < len) = false := decide_eq_false hul
                clear hin hul
                go_upto_region 12 with fail
                go_quiet (fail)
                have LQ2 := Lib.hid (bel_drewN LQ.out nq)
                clear hcu b1'
                go_wp2_with fail
                exact ⟨⟨k + 1, by omega, by go_num, by rw [X.out]; exact own_below O.out LQ2.out, B.out.step LQ2.out, bel_then L.out LQ2.out⟩, by simp [intOf]; omega⟩
      · obtain rfl : m = k := by omega
        rw [List.take_of_length_le (l := used) (i := m) (by rw [HM.out]; omega)] at O hfl ⊢
        have RIN := Lib.hid (rowOf_own O.out)
        have b0' := B.out.cell 0; have b1' := B.out.cell 1; have b2' := B.out.cell 2
        have hin0 : ∀ p ∈ flI free len used, p ∉ free ∧ p < len ∧ p ∈ used := fun p hp => by
          simp only [flI, List.mem_filter, Bool.and_eq_true, Bool.not_eq_true', decide_eq_false_iff_not, decide_eq_true_eq] at hp
          exact ⟨hp.2.1, hp.2.2, hp.1⟩
        have CL := lists_good A Av c cv free (flI free len used) len cap wr (R0.out.below L.out) RIN.out (by omega) (fun v hv => HW.out v (hin0 v hv).2.2) HG.out
        have INV : LsInv (flI free len used) free len cap (flI free len used) [] := ⟨HG.out, by simp, List.nodup_nil, fun p hp => by simp at hp, fun p hp hq => (hin0 p hq).1 hp, fun p hp => (hin0 p hp).2.1, .inl rfl⟩
        have INV := Lib.hid INV
        clear hin0
        rw [HN.out] at CL
        generalize hT0 : flI free len used = T0 at *
        obtain ⟨nt, hnt⟩ : ∃ nt, T0.length = nt := ⟨_, rfl⟩
        have HNT := Lib.hid hnt
        rw [hnt] at CL O hfl ⊢
        clear hT0 hnt
        cases hr : lsGo cap (fuelL free len cap) free len T0 [] with
        | none =>
          rw [hr] at CL
          unfold LsPost NoneL at CL
          have C := Lib.hid CL
          clear CL hr
          go_wp2_with fail
          ((with_reducible refine C.out.mono ?_); rintro e w2 ⟨rfl, hl⟩)
          have L3 := Lib.hid (bel_alloc (bel_then L.out hl) (.cells #[.slice none 0 0, .int .i64 0, .int .i64 0] 41))
          clear C hl b0' b1' b2'
          go_upto_region 15 with fail
          generalize hg2' : w2.heap.size = g2 at *
          generalize w2.alloc (.cells #[.slice none 0 0, .int .i64 0, .int .i64 0] 41) = W2 at *
          clear hg2'
          go_wp2_with fail
          ((with_reducible refine (wakes25_calls _).mono ?_); rintro e w5 ⟨rfl, hl⟩)
          have L5 := Lib.hid (bel_then L3.out hl)
          go_wp2_with fail
          go_ret
          exact ⟨rfl, L5.out⟩
        | some r =>
          obtain ⟨fr', x, T', ls⟩ := r
          obtain ⟨INV2, hdone⟩ := lsGo_inv INV.out hr
          obtain ⟨x1, x2, _, _⟩ := aGood_iff.1 INV2.good
          obtain ⟨K, rfl⟩ : ∃ K : Nat, x = 2 + (K : Int) := ⟨(x - 2).toNat, by omega⟩
          rw [hr] at CL
          replace CL : Calls _ _ _ _ (SomeL wr cap fr' (2 + (K : Int)) T' ls) := CL
          unfold SomeL at CL
          have C := Lib.hid CL
          have hone := Lib.hid (fun p (h1 : 2 ≤ p) (h2 : p < 2 + (K : Int)) => INV2.one h1 h2)
          have hfew := Lib.hid INV2.few
          have hnt' : (leftL T' (2 + (K : Int))).length ≤ 200 := by have := leftN_length T' (2 + (K : Int) - 2).toNat; unfold leftL; omega
          have hls : ls.length ≤ 20 := by
            rcases INV2.few with h | h
            · simp [h]
            · omega
          clear CL hr INV2
          obtain ⟨nls, hnls⟩ : ∃ nls, ls.length = nls := ⟨_, rfl⟩
          obtain ⟨nto, hnto⟩ : ∃ nto, (leftL T' (2 + (K : Int))).length = nto := ⟨_, rfl⟩
          obtain ⟨nfr, hnfr⟩ : ∃ nfr, fr'.length = nfr := ⟨_, rfl⟩
          have HNL := Lib.hid hnls; have HNO := Lib.hid hnto; have HNF := Lib.hid hnfr
          rw [hnls, hnto, hnfr] at C
          rw [hnls, hnto] at hdone
          have hls : nls ≤ 20 := by rw [← hnls]; exact hls
          have hnto2 : nto ≤ 200 := by rw [← hnto]; exact hnt'
          clear hnls hnto hnfr
          go_wp2_with fail
          ((with_reducible refine C.out.mono ?_); rintro e w2 ⟨v, l, t, rfl, hv, hlv, htv, hl⟩)
          obtain ⟨AF, cF, rfl⟩ := own_form hv
          obtain ⟨AL, cL, rfl⟩ := own_form hlv
          obtain ⟨AT, cT, rfl⟩ := own_form htv
          have hbb := bel_alloc (Below.refl w2.heap.size w2) (.cells #[.slice AF nfr cF, .int .i64 (2 + (K : Int)), .int .i64 cap] 41)
          have D2 := Lib.hid (Blk.new w2 41 [.slice AF nfr cF, .int .i64 (2 + (K : Int)), .int .i64 cap])
          have PL := Lib.hid ((own_intArg hlv).below hbb)
          have PT := Lib.hid ((own_intArg htv).below hbb)
          have PI := Lib.hid ((RIN.out.arg.below hl).below hbb)
          have L3 := Lib.hid (bel_then (bel_then L.out hl) hbb)
          clear C hl hbb hv hlv htv b0' b1' b2' L B O RIN
          go_upto_region 15 with fail
          generalize hg2' : w2.heap.size = g2 at *
          rw [show (w2.alloc (.cells [Value.slice AF nfr cF, .int .i64 (2 + (K : Int)), .int .i64 cap].toArray 41)) = w2.alloc (.cells #[.slice AF nfr cF, .int .i64 (2 + (K : Int)), .int .i64 cap] 41) from rfl] at D2
          generalize w2.alloc (.cells #[.slice AF nfr cF, .int .i64 (2 + (K : Int)), .int .i64 cap] 41) = W2 at *
          clear hg2'
          go_wp2_with fail
          go_loopw [13] (fun i wr => ∃ k : Nat, k ≤ K ∧ i = .int .i64 (2 + (k : Int)) ∧ Below W2.heap.size W2 wr) (fun i _ => K + 2 - (intOf i).toNat)
          case atStart => exact ⟨0, Nat.zero_le _, rfl, Below.refl _ _⟩
          case round =>
            obtain ⟨k, hk, rfl, hl⟩ := hrel
            have d1' := (D2.out.step hl).cell 1
            by_cases hlt : k < K
            · have hkK : (2 : Int) + k < 2 + K := by omega
              have h1 := hone.out (2 + (k : Int)) (by omega) (by omega)
              by_cases hin : (2 : Int) + (k : Int) ∈ T0
              · rw [if_pos hin] at h1
                have ha : ls.count (2 + (k : Int)) = 0 := by omega
                have hb : (leftL T' (2 + (K : Int))).count (2 + (k : Int)) = 0 := by omega
                have ht : 0 < T0.count (2 + (k : Int)) := List.count_pos_iff.2 hin
                have ht' : decide (((T0.count (2 + (k : Int)) : Nat) : Int) > 0) = true := decide_eq_true (by omega)
                clear h1 hin
                have C1 := count_calls AL cL nls ls (2 + (k : Int)) wr (PL.out.below hl) HNL.out (by omega)
                rw [ha, show (((0 : Nat)) : Int) = 0 from rfl] at C1
                have C := Lib.hid C1
                go_wp2_with fail
                ((with_reducible refine C.out.mono ?_); rintro e w4 ⟨rfl, hl4⟩)
                have LA := bel_then hl hl4
                clear C C1
                have C2 := count_calls AT cT nto (leftL T' (2 + (K : Int))) (2 + (k : Int)) w4 (PT.out.below LA) HNO.out (by omega)
                rw [hb, show (((0 : Nat)) : Int) = 0 from rfl] at C2
                have C := Lib.hid C2
                go_wp2_with fail
                ((with_reducible refine C.out.mono ?_); rintro e w5 ⟨rfl, hl5⟩)
                have LB := bel_then LA hl5
                clear C C2
                have C := Lib.hid (count_calls Av cv nt T0 (2 + (k : Int)) w5 (PI.out.below LB) HNT.out (by omega))
                generalize List.count (2 + (k : Int)) T0 = t0 at *
                go_wp2_with fail
                ((with_reducible refine C.out.mono ?_); rintro e w6 ⟨rfl, hl6⟩)
                have LC := Lib.hid (bel_then LB hl6)
                clear C hl hl4 hl5 hl6 LA LB
                go_wp2_with fail
                exact ⟨⟨k + 1, by omega, by go_num, LC.out⟩, by simp [intOf]; omega⟩
              · rw [if_neg hin] at h1
                have ht : T0.count (2 + (k : Int)) = 0 := List.count_eq_zero.2 hin
                rcases (show (ls.count (2 + (k : Int)) = 1 ∧ (leftL T' (2 + (K : Int))).count (2 + (k : Int)) = 0) ∨ (ls.count (2 + (k : Int)) = 0 ∧ (leftL T' (2 + (K : Int))).count (2 + (k : Int)) = 1) by omega) with ⟨ha, hb⟩ | ⟨ha, hb⟩
                · clear h1 hin
                  have C1 := count_calls AL cL nls ls (2 + (k : Int)) wr (PL.out.below hl) HNL.out (by omega)
                  rw [ha, show (((1 : Nat)) : Int) = 1 from rfl] at C1
                  have C := Lib.hid C1
                  go_wp2_with fail
                  ((with_reducible refine C.out.mono ?_); rintro e w4 ⟨rfl, hl4⟩)
                  have LA := bel_then hl hl4
                  clear C C1
                  have C2 := count_calls AT cT nto (leftL T' (2 + (K : Int))) (2 + (k : Int)) w4 (PT.out.below LA) HNO.out (by omega)
                  rw [hb, show (((0 : Nat)) : Int) = 0 from rfl] at C2
                  have C := Lib.hid C2
                  go_wp2_with fail
                  ((with_reducible refine C.out.mono ?_); rintro e w5 ⟨rfl, hl5⟩)
                  have LB := bel_then LA hl5
                  clear C C2
                  have C3 := count_calls Av cv nt T0 (2 + (k : Int)) w5 (PI.out.below LB) HNT.out (by omega)
                  rw [ht, show (((0 : Nat)) : Int) = 0 from rfl] at C3
                  have C := Lib.hid C3
                  clear C3
                  go_wp2_with fail
                  ((with_reducible refine C.out.mono ?_); rintro e w6 ⟨rfl, hl6⟩)
                  have LC := Lib.hid (bel_then LB hl6)
                  clear C hl hl4 hl5 hl6 LA LB
                  go_wp2_with fail
                  exact ⟨⟨k + 1, by omega, by go_num, LC.out⟩, by simp [intOf]; omega⟩
                · clear h1 hin
                  have C1 := count_calls AL cL nls ls (2 + (k : Int)) wr (PL.out.below hl) HNL.out (by omega)
                  rw [ha, show (((0 : Nat)) : Int) = 0 from rfl] at C1
                  have C := Lib.hid C1
                  go_wp2_with fail
                  ((with_reducible refine C.out.mono ?_); rintro e w4 ⟨rfl, hl4⟩)
                  have LA := bel_then hl hl4
                  clear C C1
                  have C2 := count_calls AT cT nto (leftL T' (2 + (K : Int))) (2 + (k : Int)) w4 (PT.out.below LA) HNO.out (by omega)
                  rw [hb, show (((1 : Nat)) : Int) = 1 from rfl] at C2
                  have C := Lib.hid C2
                  go_wp2_with fail
                  ((with_reducible refine C.out.mono ?_); rintro e w5 ⟨rfl, hl5⟩)
                  have LB := bel_then LA hl5
                  clear C C2
                  have C3 := count_calls Av cv nt T0 (2 + (k : Int)) w5 (PI.out.below LB) HNT.out (by omega)
                  rw [ht, show (((0 : Nat)) : Int) = 0 from rfl] at C3
                  have C := Lib.hid C3
                  clear C3
                  go_wp2_with fail
                  ((with_reducible refine C.out.mono ?_); rintro e w6 ⟨rfl, hl6⟩)
                  have LC := Lib.hid (bel_then LB hl6)
                  clear C hl hl4 hl5 hl6 LA LB
                  go_wp2_with fail
                  exact ⟨⟨k + 1, by omega, by go_num, LC.out⟩, by simp [intOf]; omega⟩
            · obtain rfl : k = K := by omega
              have L4 := Lib.hid (bel_then L3.out hl)
              clear hl
              have hdone' : decide ((20 : Int) * nls ≥ nto) = true := decide_eq_true (by omega)
              rcases Nat.eq_zero_or_pos nls with hz | hz
              · subst hz
                go_wp2_with fail
                ((with_reducible refine (wakes25_calls _).mono ?_); rintro e w5 ⟨rfl, hl⟩)
                have L5 := Lib.hid (bel_then L4.out hl)
                go_wp2_with fail
                go_ret
                exact ⟨rfl, L5.out⟩
              · have hz0 : ((nls : Int) == 0) = false := by rw [beq_eq_false_iff_ne]; omega
                have hq : decide ((20 : Int) * ((nls : Int) - 1) < (nto : Int) + 1) = true := by
                  refine decide_eq_true ?_
                  rcases hfew.out with h | h
                  · have := HNL.out
                    rw [h] at this
                    simp at this
                    omega
                  · rw [HNL.out, HNO.out] at h
                    omega
                go_wp2_with fail
                ((with_reducible refine (wakes25_calls _).mono ?_); rintro e w5 ⟨rfl, hl⟩)
                have L5 := Lib.hid (bel_then L4.out hl)
                go_wp2_with fail
                go_ret
                exact ⟨rfl, L5.out⟩
end Go.Proofs.Ytgpnceaplakemaa.Hp
