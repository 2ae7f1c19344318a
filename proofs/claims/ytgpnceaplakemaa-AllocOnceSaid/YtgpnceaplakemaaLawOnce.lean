/- What this text proves: the law AllocOnce on every Space and every two bytes. -/
import Derived.Test.YtgpnceaplakemaaLawOnceP
namespace Go.Proofs.Ytgpnceaplakemaa.Hp
open Go Go.RowKit Go.ChangeShapes Go.Maps Go.Proofs.Ytgpnceaplakemaa.Base Go.Proofs.Ytgpnceaplakemaa.Own
set_option linter.unusedSimpArgs false

set_option maxHeartbeats 25600000 in
set_option maxRecDepth 100000 in
theorem once_law (A : Option Addr) (c : Nat) (free : List Int) (len cap : Int) (a8 b8 : Nat) (ha8 : a8 < 256) (hb8 : b8 < 256) (w : World) (h : RowOf w A c free) (hn : free.length ≤ 9223372036854775807) :
    Calls Try.prog 7 #[.agg #[.slice A free.length c, .int .i64 len, .int .i64 cap], .int .u8 a8, .int .u8 b8] w fun e w' => e = .returned (.bool true) ∧ Below w.heap.size w w' := by
  obtain ⟨i0, hi, hz0, hz1, hz2⟩ := info_parts info3
  obtain ⟨a, ha, ha2⟩ : ∃ a : Nat, a8 % 30 = a ∧ a < 30 := ⟨_, rfl, by omega⟩
  obtain ⟨b, hb, hb2⟩ : ∃ b : Nat, b8 % 30 = b ∧ b < 30 := ⟨_, rfl, by omega⟩
  have ta : (a8 : Int).tmod 30 = a := by rw [← ha]; rfl
  have tb : (b8 : Int).tmod 30 = b := by rw [← hb]; rfl
  clear ha hb
  have L1 := Lib.hid (bel_alloc (Below.refl w.heap.size w) (.cells #[.slice A free.length c, .int .i64 len, .int .i64 cap] 41))
  have B1 := Lib.hid (Blk.new w 41 [.slice A free.length c, .int .i64 len, .int .i64 cap])
  have R1 := Lib.hid (h.below L1.out)
  have CG := Lib.hid (rgood_calls A c free len cap _ R1.out hn)
  cases hg : aGood free len cap with
  | false =>
    rw [hg] at CG
    go_enter Try.func7, Try.ntmps7
    go_wp2_with fail
    ((with_reducible refine CG.out.mono ?_); rintro e w1 ⟨rfl, hl⟩)
    have L2 := Lib.hid (bel_then L1.out hl)
    have B2 := B1.out.step hl
    have c0 := B2.cell 0; have c1 := B2.cell 1; have c2 := B2.cell 2
    have C2 := Lib.hid (good_calls A c free len cap w1 (R1.out.below hl) hn)
    rw [hg] at C2
    clear CG hl B1 R1 h hg B2
    go_wp2_with fail
    ((with_reducible refine C2.out.mono ?_); rintro e w2 ⟨rfl, hl⟩)
    have L3 := Lib.hid (bel_then L2.out hl)
    clear c0 c1 c2 C2 hl
    go_wp2_with fail
    ((with_reducible refine (wakes25_calls _).mono ?_); rintro e w3 ⟨rfl, hl⟩)
    have L4 := Lib.hid (bel_then L3.out hl)
    go_wp2_with fail
    go_ret
    exact ⟨rfl, L4.out⟩
  | true =>
    rw [hg] at CG
    have hnn := aGood_length hg
    obtain ⟨hg1, hg2, hg3, _⟩ := aGood_iff.1 hg
    obtain ⟨n, hnf⟩ : ∃ n, free.length = n := ⟨_, rfl⟩
    have HN := Lib.hid hnf
    have HG := Lib.hid hg
    rw [hnf] at CG B1 L1 R1 hnn ⊢
    have x1' : IntKind.i64.wrap ((n : Int) + cap) = n + cap := by rw [IntKind.wrap_i64]; omega
    have x2' : IntKind.i64.wrap ((n : Int) + cap - len) = n + cap - len := by rw [IntKind.wrap_i64]; omega
    go_enter Try.func7, Try.ntmps7
    go_wp2_with fail
    ((with_reducible refine CG.out.mono ?_); rintro e w1 ⟨rfl, hl⟩)
    have L2 := Lib.hid (bel_then L1.out hl)
    have B2 := Lib.hid (B1.out.step hl)
    have R2 := Lib.hid (R1.out.below hl)
    have c0 := B2.out.cell 0; have c1 := B2.out.cell 1; have c2 := B2.out.cell 2
    clear hl CG B1 L1 R1 hg h
    by_cases hok : (a : Int) ≤ n + cap - len
    · have hokT : tOk free len cap a = true := by
        unfold tOk
        rw [HG.out, decide_eq_true (show (0 : Int) ≤ a by omega), decide_eq_true (show (a : Int) - free.length ≤ cap - len by rw [hnf]; omega)]
        rfl
      have CT := take_yes A c free len cap a w1 R2.out hokT
      have G2 := good_drop (a := a) HG.out (by rw [hnf]; omega)
      have A1 := all_one free len a
      have A2 := all_two free len a b
      unfold TkPost at CT
      rw [hnf] at CT G2 A1 A2
      have HX : Hid (len + ((a - n : Nat) : Int) = len + ((a - n : Nat) : Int)) := rfl
      have hx2 : len + ((a - n : Nat) : Int) ≤ cap := by omega
      have hn1 : (free.drop a).length = n - a := by simp [hnf]
      have C := Lib.hid CT
      have G2 := Lib.hid G2; have A1 := Lib.hid A1; have A2 := Lib.hid A2; have N1 := Lib.hid hn1
      clear CT hnf hokT HX
      generalize hxx : len + ((a - n : Nat) : Int) = x at *
      generalize hF1 : free.drop a = F1 at *
      generalize hlL : tkL free len a = lL at *
      have HXX := Lib.hid hxx; have HF1 := Lib.hid hF1; have HLL := Lib.hid hlL
      have HLA : Hid (lL.length = a) := by rw [← hlL]; exact tkL_length _ _ _
      clear hxx hF1 hlL
      obtain ⟨n1, hn1'⟩ : ∃ n1, F1.length = n1 := ⟨_, rfl⟩
      have HN1 := Lib.hid hn1'
      rw [hn1'] at C hn1
      have HNA := Lib.hid hn1
      clear hn1 hn1'
      go_wp2_with fail
      ((with_reducible refine C.out.mono ?_); rintro e w2 ⟨v, u, rfl, hv, hu, hl⟩)
      obtain ⟨Av, cv, rfl⟩ := own_form hv
      obtain ⟨Au, cu, rfl⟩ := own_form hu
      have hbb := bel_alloc (Below.refl w2.heap.size w2) (.cells #[.slice Av n1 cv, .int .i64 x, .int .i64 cap] 41)
      have B3 := Lib.hid ((B2.out.step hl).step hbb)
      have T2 := Lib.hid (Blk.new w2 41 [.slice Av n1 cv, .int .i64 x, .int .i64 cap])
      have U2 := Lib.hid ((rowOf_own hu).below hbb)
      have V2 := Lib.hid ((rowOf_own hv).below hbb)
      have R3 := Lib.hid ((R2.out.below hl).below hbb)
      have L3 := Lib.hid (bel_then (bel_then L2.out hl) hbb)
      clear C hl hv hu hbb B2 L2 R2 c0 c1 c2
      go_upto_region 5 with fail
      generalize hg2' : w2.heap.size = g2 at *
      rw [show (w2.alloc (.cells [Value.slice Av n1 cv, .int .i64 x, .int .i64 cap].toArray 41)) = w2.alloc (.cells #[.slice Av n1 cv, .int .i64 x, .int .i64 cap] 41) from rfl] at T2
      generalize w2.alloc (.cells #[.slice Av n1 cv, .int .i64 x, .int .i64 cap] 41) = W2 at *
      clear hg2'
      have t0 := T2.out.cell 0; have t1 := T2.out.cell 1; have t2 := T2.out.cell 2
      by_cases hok2 : (a : Int) + b ≤ n + cap - len
      · have hokT : tOk F1 x cap b = true := by
          unfold tOk
          rw [G2.out, decide_eq_true (show (0 : Int) ≤ b by omega), decide_eq_true (show (b : Int) - F1.length ≤ cap - x by rw [HN1.out]; have := HXX.out; have := HNA.out; omega)]
          rfl
        have CT := take_yes Av cv F1 x cap b W2 (by have := V2.out; exact this) hokT
        unfold TkPost at CT
        rw [HN1.out] at CT
        have hx3 : x + ((b - n1 : Nat) : Int) = len + ((a + b - n : Nat) : Int) := by have := HXX.out; have := HNA.out; omega
        rw [hx3] at CT
        have C := Lib.hid CT
        clear CT hokT hx3
        generalize hkL : tkL F1 x b = kL at *
        have HKB : Hid (kL.length = b) := by rw [← hkL]; exact tkL_length _ _ _
        generalize hFF : F1.drop b = FF at *
        have EQ : Hid (lL ++ (kL ++ FF) = free ++ extL len (a + b - n)) := A2.out
        have OK := Lib.hid (all_ok HG.out (a + b - n))
        clear hkL hFF A1 A2
        generalize hmm : a + b - n = m at *
        generalize hall : free ++ extL len m = all at *
        generalize hxF : len + (m : Int) = xF at *
        have HXF := Lib.hid hxF
        obtain ⟨nF, hnF⟩ : ∃ nF, FF.length = nF := ⟨_, rfl⟩
        have HNF := Lib.hid hnF
        rw [hnF] at C
        have hm60 : m ≤ 60 := by omega
        clear hall hxF hnF hmm
        go_wp2_with fail
        ((with_reducible refine C.out.mono ?_); rintro e w3 ⟨v, u, rfl, hv, hu, hl⟩)
        obtain ⟨AF, cF, rfl⟩ := own_form hv
        obtain ⟨AK, cK, rfl⟩ := own_form hu
        have hbb := bel_alloc (Below.refl w3.heap.size w3) (.cells #[.slice AF nF cF, .int .i64 xF, .int .i64 cap] 41)
        have B4 := Lib.hid ((B3.out.step hl).step hbb)
        have T4 := Lib.hid ((T2.out.step hl).step hbb)
        have D4 := Lib.hid (Blk.new w3 41 [.slice AF nF cF, .int .i64 xF, .int .i64 cap])
        have K4 := Lib.hid ((rowOf_own hu).below hbb)
        have F4 := Lib.hid ((rowOf_own hv).below hbb)
        have U4 := Lib.hid ((U2.out.below hl).below hbb)
        have V4 := Lib.hid ((V2.out.below hl).below hbb)
        have R4 := Lib.hid ((R3.out.below hl).below hbb)
        have L4 := Lib.hid (bel_then (bel_then L3.out hl) hbb)
        clear C hl hv hu hbb B3 T2 U2 V2 R3 L3 t0 t1 t2
        go_upto_region 8 with fail
        generalize hg3' : w3.heap.size = g12 at *
        rw [show (w3.alloc (.cells [Value.slice AF nF cF, .int .i64 xF, .int .i64 cap].toArray 41)) = w3.alloc (.cells #[.slice AF nF cF, .int .i64 xF, .int .i64 cap] 41) from rfl] at D4
        generalize w3.alloc (.cells #[.slice AF nF cF, .int .i64 xF, .int .i64 cap] 41) = W4 at *
        clear hg3'
        have t0 := T4.out.cell 0; have t1 := T4.out.cell 1; have t2 := T4.out.cell 2
        have CG2 := good_calls Av cv F1 x cap W4 (by have := V4.out; exact this) (by rw [HN1.out]; have := HNA.out; omega)
        rw [G2.out, HN1.out] at CG2
        have C := Lib.hid CG2
        clear CG2
        go_wp2_with fail
        ((with_reducible refine C.out.mono ?_); rintro e W5 ⟨rfl, hl⟩)
        have B5 := Lib.hid (B4.out.step hl)
        have D5 := Lib.hid (D4.out.step hl)
        have RL := Lib.hid (U4.out.below hl)
        have RK := Lib.hid (K4.out.below hl)
        have RF := Lib.hid (F4.out.below hl)
        have RS := Lib.hid (R4.out.below hl)
        have L5 := Lib.hid (bel_then L4.out hl)
        clear C hl B4 T4 D4 K4 F4 U4 V4 R4 L4 t0 t1 t2
        go_upto_region 13 with fail
        have hs5 := L5.out.size
        have hsz5 : W5.drew.heap.size = W5.heap.size := rfl
        have hgl := D5.out.lt
        have hM : a + b + nF = n + m := by
          have h1 := congrArg List.length EQ.out
          have h2 := OK.out.cnt
          simp only [List.length_append, HLA.out, HKB.out, HNF.out] at h1
          rw [HN.out] at h2
          omega
        have e0 : ((W5.alloc (.cells #[] 3)).drew).ownsRow W5.heap.size 3 1 (.slice (some ⟨W5.heap.size, 0, none⟩) 0 0) 0 (ints []) := made3 W5
        have Ld0 : Below W5.heap.size W5 (W5.alloc (.cells #[] 3)).drew := bel_drew (bel_alloc (Below.refl _ _) _)
        obtain ⟨v1, wa, e1, o1, g1, _⟩ := run_append_ints (P := Try.prog) ((W5.alloc (.cells #[] 3)).drew) W5.heap.size 22 22 i0 Try.underlying22 hi hz0 hz1 hz2 _ 0 [] e0 Au a cu lL HLA.out (RL.out.below Ld0) (by omega) Ld0.size
        rw [Nat.zero_add, List.nil_append] at o1
        obtain ⟨A1', c1', rfl⟩ := own_form o1
        have La : Below W5.heap.size W5 wa := Below.grown Ld0 g1 Ld0.size (fun k hk => Nat.le_of_eq (by simpa [Value.ownBlock] using hk))
        obtain ⟨v2, wb, e2, o2, g2'', _⟩ := run_append_ints (P := Try.prog) wa W5.heap.size 22 22 i0 Try.underlying22 hi hz0 hz1 hz2 _ a lL o1 AK b cK kL HKB.out (RK.out.below La) (by omega) La.size
        obtain ⟨A2', c2', rfl⟩ := own_form o2
        have Lb : Below W5.heap.size W5 wb := Below.grown La g2'' La.size (fun k hk => (own_lt o1 k hk).1)
        obtain ⟨v3, W6, e3, o3, g3', _⟩ := run_append_ints (P := Try.prog) wb W5.heap.size 22 22 i0 Try.underlying22 hi hz0 hz1 hz2 _ (a + b) (lL ++ kL) o2 AF nF cF FF HNF.out (RF.out.below Lb) (by omega) Lb.size
        have Lc : Below W5.heap.size W5 W6 := Below.grown Lb g3' Lb.size (fun k hk => (own_lt o2 k hk).1)
        rw [List.append_assoc, EQ.out] at o3
        have d0 := (D5.out.step (bel_drew (Below.refl _ _))).cell 0
        have da := (D5.out.step Ld0).cell 0
        have db := (D5.out.step La).cell 0
        have dc := (D5.out.step Lb).cell 0
        obtain ⟨M, hMM⟩ : ∃ M, a + b + nF = M := ⟨_, rfl⟩
        rw [hMM] at o3 hM
        obtain ⟨A3, c3, rfl⟩ := own_form o3
        have B6 := Lib.hid (B5.out.step Lc)
        have D6 := Lib.hid (D5.out.step Lc)
        have P6 := Lib.hid (own_intArg o3)
        have S6 := Lib.hid ((RS.out.below Lc).arg)
        have L6 := Lib.hid (bel_then L5.out Lc)
        have HM := Lib.hid hM
        clear o1 o2 o3 g1 g2'' g3' Ld0 La Lb Lc hM hMM hgl e0 hs5
        go_cut [15] (fun s15 wx => s15 = .slice A3 M c3 ∧ W6 = wx)
        case first =>
          go_region_law (first | (refine step_append_run rfl (.tmp 96) (.tmp 97) 22 rfl _ _ _ _ (by simp [Act.eval, Act.put]) (by simp [Act.eval, Act.put]) e1 ?_) | (refine step_append_run rfl (.tmp 98) (.tmp 99) 22 rfl _ _ _ _ (by simp [Act.eval, Act.put]) (by simp [Act.eval, Act.put]) e2 ?_) | (refine step_append_run rfl (.tmp 100) (.tmp 102) 22 rfl _ _ _ _ (by simp [Act.eval, Act.put]) (by simp [Act.eval, Act.put]) e3 ?_))
          all_goals (go_wp2_with fail; go_meet; exact ⟨rfl, rfl⟩)
        case rest =>
          obtain ⟨rfl, rfl⟩ := hcut
          clear e1 e2 e3 d0 da db dc
          have hMb : M ≤ 300 := by have := HM.out; omega
          have PL := Lib.hid (List.pairwise_iff_getElem.1 OK.out.rise)
          have HML : Hid (all.length = M) := by unfold Hid; rw [OK.out.cnt, HN.out, HM.out]
          go_wp2_with fail
          go_loopw [16] (fun i wr => ∃ j : Nat, j ≤ M ∧ i = .int .i64 j ∧ Below W6.heap.size W6 wr) (fun i _ => M - (intOf i).toNat)
          case atStart => exact ⟨0, Nat.zero_le _, rfl, Below.refl _ _⟩
          case round =>
            obtain ⟨j, hj, rfl, hl⟩ := hrel
            by_cases hlt : j < M
            · have hjM : (j : Int) < M := by omega
              have hjl : j < all.length := by rw [HML.out]; exact hlt
              obtain ⟨b1, o1, rfl, hb1, hc1⟩ := (P6.out.below hl) j hjl
              have hvm := List.getElem_mem hjl
              have hin := OK.out.inn _ hvm
              have hwas := OK.out.was _ hvm
              have hrise := fun q (hq : q < j) => PL.out q j (by omega) hjl hq
              have HE := Lib.hid (List.getElem?_eq_getElem hjl)
              generalize all[j] = vj at *
              have HR := Lib.hid hrise; have HWAS := Lib.hid hwas
              have D7 := D6.out.step hl
              have B7 := B6.out.step hl
              have LQ0 := Lib.hid hl
              have r1 := D7.cell 1
              have s1 := B7.cell 1
              have v1 : decide (vj < 2) = false := decide_eq_false (by omega)
              have v2 : decide (vj ≥ xF) = false := decide_eq_false (by omega)
              clear hl hvm hin hwas hrise D7 B7
              go_upto_region 17 with fail
              go_quiet (fail)
              have LQ1 := Lib.hid (bel_drewN LQ0.out nq)
              go_upto_region 19 with fail
              have D8 := (D6.out.step LQ1.out).cell 1
              have B8 := (B6.out.step LQ1.out).cell 1
              obtain ⟨bx, ox, ex, _, hc2⟩ := (P6.out.below LQ1.out) j hjl
              obtain ⟨rfl, rfl⟩ : b1 = bx ∧ o1 = ox := by simpa using ex
              rw [show all[j] = vj by have := HE.out; rw [List.getElem?_eq_getElem hjl] at this; exact Option.some.inj this] at hc2
              clear ex r1 s1 hc1
              generalize hW7 : wr.drewN nq = W7 at *
              clear hW7 nq
              go_quiet (fail)
              have LQ2 := Lib.hid (bel_drewN LQ1.out nq)
              clear D8 B8 hc2
              go_wp2_with fail
              go_loopw [17, 18] (fun s i wr => ∃ (q : Nat) (bb : Bool), q ≤ n ∧ i = .int .i64 q ∧ s = .bool bb ∧ WasI free len vj q bb ∧ Below W6.heap.size W6 wr) (fun _ i _ => n - (intOf i).toNat)
              case atStart => exact ⟨0, decide (vj ≥ len), Nat.zero_le _, rfl, rfl, fun h => ⟨by have := of_decide_eq_false h; omega, fun r hr => by omega⟩, LQ2.out⟩
              case round =>
                obtain ⟨q, bb, hq, rfl, rfl, hwi, hl⟩ := hrel
                have LQ3 := Lib.hid hl
                have HWI := Lib.hid hwi
                have b0' := (B6.out.step hl).cell 0
                clear hwi
                by_cases hqn : q < n
                · have hqn' : (q : Int) < n := by omega
                  have hql : q < free.length := by rw [HN.out]; exact hqn
                  obtain ⟨b2, o2, rfl, hb2', hc2⟩ := (S6.out.below hl) q hql
                  obtain ⟨bx, ox, ex, _, hc3⟩ := (P6.out.below hl) j hjl
                  obtain ⟨rfl, rfl⟩ : b1 = bx ∧ o1 = ox := by simpa using ex
                  rw [show all[j] = vj by have := HE.out; rw [List.getElem?_eq_getElem hjl] at this; exact Option.some.inj this] at hc3
                  have HFQ := Lib.hid (List.getElem?_eq_getElem hql)
                  clear ex hl
                  generalize free[q] = fq at *
                  cases bb with
                  | true =>
                    go_wp2_with fail
                    go_quiet (fail)
                    go_wp2_with fail
                    exact ⟨⟨q + 1, true, by omega, by go_num, rfl, (fun h => by cases h), bel_drewN LQ3.out _⟩, by simp [intOf]; omega⟩
                  | false =>
                    go_wp2_with fail
                    go_quiet (fail)
                    go_wp2_with fail
                    exact ⟨⟨q + 1, fq == vj, by omega, by go_num, rfl, wasI_step HWI.out HFQ.out, bel_drewN LQ3.out _⟩, by simp [intOf]; omega⟩
                · obtain rfl : n = q := by omega
                  have hbt : bb = true := by
                    cases bb with
                    | true => rfl
                    | false =>
                      obtain ⟨h1, h2⟩ := HWI.out rfl
                      rcases HWAS.out with h | h
                      · omega
                      · obtain ⟨r, hr, e⟩ := List.mem_iff_getElem.1 h
                        exact absurd (by rw [List.getElem?_eq_getElem hr, e]) (h2 r (by have := HN.out; omega))
                  subst hbt
                  clear hl
                  go_wp2_with fail
                  go_loopw [19] (fun i wr => ∃ q : Nat, q ≤ j ∧ i = .int .i64 q ∧ Below W6.heap.size W6 wr) (fun i _ => j - (intOf i).toNat)
                  case atStart => exact ⟨0, Nat.zero_le _, rfl, LQ3.out⟩
                  case round =>
                    obtain ⟨q, hq, rfl, hl⟩ := hrel
                    have LQ4 := Lib.hid hl
                    by_cases hqj : q < j
                    · have hqj' : (q : Int) < j := by omega
                      have hqM : (q : Int) < M := by omega
                      have hql : q < all.length := by omega
                      obtain ⟨b2, o2, e2, _, hc2⟩ := (P6.out.below hl) q hql
                      obtain ⟨rfl, rfl⟩ : b1 = b2 ∧ o1 = o2 := by simpa using e2
                      obtain ⟨bx, ox, ex, _, hc3⟩ := (P6.out.below hl) j hjl
                      obtain ⟨rfl, rfl⟩ : b1 = bx ∧ o1 = ox := by simpa using ex
                      rw [show all[j] = vj by have := HE.out; rw [List.getElem?_eq_getElem hjl] at this; exact Option.some.inj this] at hc3
                      have hlt3 := HR.out q hqj
                      clear e2 ex hl
                      generalize all[q] = vq at *
                      have hne : (vq == vj) = false := by rw [beq_eq_false_iff_ne]; omega
                      go_wp2_with fail
                      go_quiet (fail)
                      go_wp2_with fail
                      exact ⟨⟨q + 1, by omega, by go_num, bel_drewN LQ4.out _⟩, by simp [intOf]; omega⟩
                    · obtain rfl : j = q := by omega
                      clear hl
                      go_wp2_with fail
                      exact ⟨⟨j + 1, by omega, by go_num, LQ4.out⟩, by simp [intOf]; omega⟩
            · obtain rfl : M = j := by omega
              have B7 := B6.out.step hl
              have D7 := D6.out.step hl
              have L7 := Lib.hid (bel_then L6.out hl)
              have b0' := B7.cell 0; have b1' := B7.cell 1; have d1' := D7.cell 1
              have hMn : (M : Int) = n + xF - len := by have := HM.out; have := HXF.out; omega
              have y1 : IntKind.i64.wrap ((n : Int) + xF) = n + xF := by have := HXF.out; rw [IntKind.wrap_i64]; omega
              have y2 : IntKind.i64.wrap ((n : Int) + xF - len) = M := by have := HXF.out; rw [IntKind.wrap_i64]; omega
              clear hl B7 D7 hMn
              go_wp2_with fail
              ((with_reducible refine (wakes25_calls _).mono ?_); rintro e w5 ⟨rfl, hl⟩)
              have L8 := Lib.hid (bel_then L7.out hl)
              go_wp2_with fail
              go_ret
              exact ⟨rfl, L8.out⟩
      · have hokT : tOk F1 x cap b = false := by
          unfold tOk
          rw [decide_eq_false (show ¬ (b : Int) - F1.length ≤ cap - x by rw [HN1.out]; have := HXX.out; have := HNA.out; omega), Bool.and_false]
        have CT := take_no Av cv F1 x cap b W2 (by have := V2.out; exact this) (by rw [HN1.out]; have := HNA.out; omega) (by omega) hokT
        unfold NoPost at CT
        rw [HN1.out] at CT
        have C := Lib.hid CT
        have EQ : Hid (lL ++ ([] ++ F1) = free ++ extL len (a - n)) := A1.out
        have OK := Lib.hid (all_ok HG.out (a - n))
        have HKB : Hid (([] : List Int).length = 0) := rfl
        rw [HXX.out] at OK
        have hk2 : decide ((a : Int) + b ≤ n + cap - len) = false := decide_eq_false hok2
        have hn1b : n1 ≤ 300 := by have := HNA.out; omega
        clear CT hokT A1 A2 hok2
        generalize hmm : a - n = m at *
        generalize hall : free ++ extL len m = all at *
        have HXF := Lib.hid HXX.out
        have hm60 : m ≤ 60 := by omega
        clear hall hmm
        go_wp2_with fail
        ((with_reducible refine C.out.mono ?_); rintro e w3 ⟨rfl, hl⟩)
        have hbb := bel_alloc (Below.refl w3.heap.size w3) (.cells #[.slice none 0 0, .int .i64 0, .int .i64 0] 41)
        have B4 := Lib.hid (B3.out.step hl)
        have T4 := Lib.hid ((T2.out.step hl).step hbb)
        have X4 := Lib.hid ((B3.out.step hl).step hbb)
        have D4 := Lib.hid (Blk.new w3 41 [.slice none 0 0, .int .i64 0, .int .i64 0])
        have U4 := Lib.hid (U2.out.below hl)
        have V4 := Lib.hid (V2.out.below hl)
        have R4 := Lib.hid (R3.out.below hl)
        have L4 := Lib.hid (bel_then L3.out hl)
        have LD := Lib.hid hbb
        clear C hl hbb B3 T2 U2 V2 R3 L3 t0 t1 t2
        go_upto_region 8 with fail
        rw [show (w3.alloc (.cells [Value.slice none 0 0, .int .i64 0, .int .i64 0].toArray 41)) = w3.alloc (.cells #[.slice none 0 0, .int .i64 0, .int .i64 0] 41) from rfl] at D4
        generalize w3.alloc (.cells #[.slice none 0 0, .int .i64 0, .int .i64 0] 41) = W4 at *
        obtain ⟨g12, hg12⟩ : ∃ g12, w3.heap.size = g12 := ⟨_, rfl⟩
        have HG12 := Lib.hid hg12
        rw [hg12] at D4 ⊢
        clear hg12
        have t0 := T4.out.cell 0; have t1 := T4.out.cell 1; have t2 := T4.out.cell 2
        have CG2 := good_calls Av cv F1 x cap W4 ((V4.out.below LD.out)) (by rw [HN1.out]; omega)
        rw [G2.out, HN1.out] at CG2
        have C := Lib.hid CG2
        clear CG2
        go_wp2_with fail
        ((with_reducible refine C.out.mono ?_); rintro e W4b ⟨rfl, hl⟩)
        have T5 := T4.out.step hl
        have X5 := X4.out.step hl
        have D5 := Lib.hid (D4.out.step hl)
        have LD5 := Lib.hid (bel_then LD.out hl)
        have t0 := T5.cell 0; have t1 := T5.cell 1; have t2 := T5.cell 2
        have z0 := D5.out.cell 0; have z1 := D5.out.cell 1; have z2 := D5.out.cell 2
        have y0 := D5.out.frozen 0; have y1 := D5.out.frozen 1; have y2 := D5.out.frozen 2
        have s0 := X5.cell 0; have s1 := X5.cell 1; have s2 := X5.cell 2
        have LF := bel_set3 LD5.out (show w3.heap.size ≤ g12 by rw [HG12.out]; omega) (.slice Av n1 cv) (.int .i64 x) (.int .i64 cap)
        have D5 := Lib.hid (blk_set3 D5.out (.slice Av n1 cv) (.int .i64 x) (.int .i64 cap))
        clear C hl T4 X4 D4 T5 X5 LD LD5
        unfold wset3 at LF D5
        go_upto_region 13 with fail
        generalize ((W4b.setCell ⟨g12, 0, none⟩ (.slice Av n1 cv)).setCell ⟨g12, 1, none⟩ (.int .i64 x)).setCell ⟨g12, 2, none⟩ (.int .i64 cap) = W5 at *
        have B5 := Lib.hid (B4.out.step LF)
        have RL := Lib.hid (U4.out.below LF)
        have RK : Hid (RowOf W5 none 0 []) := ⟨fun j hj => absurd hj (by simp), fun _ => ⟨rfl, rfl⟩, fun a ha => by cases ha⟩
        have RF := Lib.hid (V4.out.below LF)
        have RS := Lib.hid (R4.out.below LF)
        have L5 := Lib.hid (bel_then L4.out LF)
        clear LF B4 U4 V4 R4 L4 t0 t1 t2 z0 z1 z2 y0 y1 y2 s0 s1 s2
        have hs5 := L5.out.size
        have hsz5 : W5.drew.heap.size = W5.heap.size := rfl
        have hgl := D5.out.lt
        have hM : a + n1 = n + m := by
          have h1 := congrArg List.length EQ.out
          have h2 := OK.out.cnt
          simp only [List.length_append, HLA.out, HKB.out, HN1.out] at h1
          rw [HN.out] at h2
          omega
        have e0 : ((W5.alloc (.cells #[] 3)).drew).ownsRow W5.heap.size 3 1 (.slice (some ⟨W5.heap.size, 0, none⟩) 0 0) 0 (ints []) := made3 W5
        have Ld0 : Below W5.heap.size W5 (W5.alloc (.cells #[] 3)).drew := bel_drew (bel_alloc (Below.refl _ _) _)
        obtain ⟨v1, wa, e1, o1, g1, _⟩ := run_append_ints (P := Try.prog) ((W5.alloc (.cells #[] 3)).drew) W5.heap.size 22 22 i0 Try.underlying22 hi hz0 hz1 hz2 _ 0 [] e0 Au a cu lL HLA.out (RL.out.below Ld0) (by omega) Ld0.size
        rw [Nat.zero_add, List.nil_append] at o1
        obtain ⟨A1', c1', rfl⟩ := own_form o1
        have La : Below W5.heap.size W5 wa := Below.grown Ld0 g1 Ld0.size (fun k hk => Nat.le_of_eq (by simpa [Value.ownBlock] using hk))
        obtain ⟨v2, wb, e2, o2, g2'', _⟩ := run_append_ints (P := Try.prog) wa W5.heap.size 22 22 i0 Try.underlying22 hi hz0 hz1 hz2 _ a lL o1 none 0 0 [] HKB.out (RK.out.below La) (by omega) La.size
        rw [Nat.add_zero] at o2
        obtain ⟨A2', c2', rfl⟩ := own_form o2
        have Lb : Below W5.heap.size W5 wb := Below.grown La g2'' La.size (fun k hk => (own_lt o1 k hk).1)
        obtain ⟨v3, W6, e3, o3, g3', _⟩ := run_append_ints (P := Try.prog) wb W5.heap.size 22 22 i0 Try.underlying22 hi hz0 hz1 hz2 _ a (lL ++ []) o2 Av n1 cv F1 HN1.out (RF.out.below Lb) (by omega) Lb.size
        have Lc : Below W5.heap.size W5 W6 := Below.grown Lb g3' Lb.size (fun k hk => (own_lt o2 k hk).1)
        rw [List.append_assoc, EQ.out] at o3
        have d0 := (D5.out.step (bel_drew (Below.refl _ _))).cell 0
        have da := (D5.out.step Ld0).cell 0
        have db := (D5.out.step La).cell 0
        have dc := (D5.out.step Lb).cell 0
        obtain ⟨M, hMM⟩ : ∃ M, a + n1 = M := ⟨_, rfl⟩
        rw [hMM] at o3 hM
        obtain ⟨A3, c3, rfl⟩ := own_form o3
        have B6 := Lib.hid (B5.out.step Lc)
        have D6 := Lib.hid (D5.out.step Lc)
        have P6 := Lib.hid (own_intArg o3)
        have S6 := Lib.hid ((RS.out.below Lc).arg)
        have L6 := Lib.hid (bel_then L5.out Lc)
        have HM := Lib.hid hM
        clear o1 o2 o3 g1 g2'' g3' Ld0 La Lb Lc hM hMM hgl e0 hs5
        go_cut [15] (fun s15 wx => s15 = .slice A3 M c3 ∧ W6 = wx)
        case first =>
          go_region_law (first | (refine step_append_run rfl (.tmp 96) (.tmp 97) 22 rfl _ _ _ _ (by simp [Act.eval, Act.put]) (by simp [Act.eval, Act.put]) e1 ?_) | (refine step_append_run rfl (.tmp 98) (.tmp 99) 22 rfl _ _ _ _ (by simp [Act.eval, Act.put]) (by simp [Act.eval, Act.put]) e2 ?_) | (refine step_append_run rfl (.tmp 100) (.tmp 102) 22 rfl _ _ _ _ (by simp [Act.eval, Act.put]) (by simp [Act.eval, Act.put]) e3 ?_))
          all_goals (go_wp2_with fail; go_meet; exact ⟨rfl, rfl⟩)
        case rest =>
          obtain ⟨rfl, rfl⟩ := hcut
          clear e1 e2 e3 d0 da db dc
          have hMb : M ≤ 300 := by have := HM.out; omega
          have PL := Lib.hid (List.pairwise_iff_getElem.1 OK.out.rise)
          have HML : Hid (all.length = M) := by unfold Hid; rw [OK.out.cnt, HN.out, HM.out]
          go_wp2_with fail
          go_loopw [16] (fun i wr => ∃ j : Nat, j ≤ M ∧ i = .int .i64 j ∧ Below W6.heap.size W6 wr) (fun i _ => M - (intOf i).toNat)
          case atStart => exact ⟨0, Nat.zero_le _, rfl, Below.refl _ _⟩
          case round =>
            obtain ⟨j, hj, rfl, hl⟩ := hrel
            by_cases hlt : j < M
            · have hjM : (j : Int) < M := by omega
              have hjl : j < all.length := by rw [HML.out]; exact hlt
              obtain ⟨b1, o1, rfl, hb1, hc1⟩ := (P6.out.below hl) j hjl
              have hvm := List.getElem_mem hjl
              have hin := OK.out.inn _ hvm
              have hwas := OK.out.was _ hvm
              have hrise := fun q (hq : q < j) => PL.out q j (by omega) hjl hq
              have HE := Lib.hid (List.getElem?_eq_getElem hjl)
              generalize all[j] = vj at *
              have HR := Lib.hid hrise; have HWAS := Lib.hid hwas
              have D7 := D6.out.step hl
              have B7 := B6.out.step hl
              have LQ0 := Lib.hid hl
              have r1 := D7.cell 1
              have s1 := B7.cell 1
              have v1 : decide (vj < 2) = false := decide_eq_false (by omega)
              have v2 : decide (vj ≥ x) = false := decide_eq_false (by omega)
              clear hl hvm hin hwas hrise D7 B7
              go_upto_region 17 with fail
              go_quiet (fail)
              have LQ1 := Lib.hid (bel_drewN LQ0.out nq)
              go_upto_region 19 with fail
              have D8 := (D6.out.step LQ1.out).cell 1
              have B8 := (B6.out.step LQ1.out).cell 1
              obtain ⟨bx, ox, ex, _, hc2⟩ := (P6.out.below LQ1.out) j hjl
              obtain ⟨rfl, rfl⟩ : b1 = bx ∧ o1 = ox := by simpa using ex
              rw [show all[j] = vj by have := HE.out; rw [List.getElem?_eq_getElem hjl] at this; exact Option.some.inj this] at hc2
              clear ex r1 s1 hc1
              generalize hW7 : wr.drewN nq = W7 at *
              clear hW7 nq
              go_quiet (fail)
              have LQ2 := Lib.hid (bel_drewN LQ1.out nq)
              clear D8 B8 hc2
              go_wp2_with fail
              go_loopw [17, 18] (fun s i wr => ∃ (q : Nat) (bb : Bool), q ≤ n ∧ i = .int .i64 q ∧ s = .bool bb ∧ WasI free len vj q bb ∧ Below W6.heap.size W6 wr) (fun _ i _ => n - (intOf i).toNat)
              case atStart => exact ⟨0, decide (vj ≥ len), Nat.zero_le _, rfl, rfl, fun h => ⟨by have := of_decide_eq_false h; omega, fun r hr => by omega⟩, LQ2.out⟩
              case round =>
                obtain ⟨q, bb, hq, rfl, rfl, hwi, hl⟩ := hrel
                have LQ3 := Lib.hid hl
                have HWI := Lib.hid hwi
                have b0' := (B6.out.step hl).cell 0
                clear hwi
                by_cases hqn : q < n
                · have hqn' : (q : Int) < n := by omega
                  have hql : q < free.length := by rw [HN.out]; exact hqn
                  obtain ⟨b2, o2, rfl, hb2', hc2⟩ := (S6.out.below hl) q hql
                  obtain ⟨bx, ox, ex, _, hc3⟩ := (P6.out.below hl) j hjl
                  obtain ⟨rfl, rfl⟩ : b1 = bx ∧ o1 = ox := by simpa using ex
                  rw [show all[j] = vj by have := HE.out; rw [List.getElem?_eq_getElem hjl] at this; exact Option.some.inj this] at hc3
                  have HFQ := Lib.hid (List.getElem?_eq_getElem hql)
                  clear ex hl
                  generalize free[q] = fq at *
                  cases bb with
                  | true =>
                    go_wp2_with fail
                    go_quiet (fail)
                    go_wp2_with fail
                    exact ⟨⟨q + 1, true, by omega, by go_num, rfl, (fun h => by cases h), bel_drewN LQ3.out _⟩, by simp [intOf]; omega⟩
                  | false =>
                    go_wp2_with fail
                    go_quiet (fail)
                    go_wp2_with fail
                    exact ⟨⟨q + 1, fq == vj, by omega, by go_num, rfl, wasI_step HWI.out HFQ.out, bel_drewN LQ3.out _⟩, by simp [intOf]; omega⟩
                · obtain rfl : n = q := by omega
                  have hbt : bb = true := by
                    cases bb with
                    | true => rfl
                    | false =>
                      obtain ⟨h1, h2⟩ := HWI.out rfl
                      rcases HWAS.out with h | h
                      · omega
                      · obtain ⟨r, hr, e⟩ := List.mem_iff_getElem.1 h
                        exact absurd (by rw [List.getElem?_eq_getElem hr, e]) (h2 r (by have := HN.out; omega))
                  subst hbt
                  clear hl
                  go_wp2_with fail
                  go_loopw [19] (fun i wr => ∃ q : Nat, q ≤ j ∧ i = .int .i64 q ∧ Below W6.heap.size W6 wr) (fun i _ => j - (intOf i).toNat)
                  case atStart => exact ⟨0, Nat.zero_le _, rfl, LQ3.out⟩
                  case round =>
                    obtain ⟨q, hq, rfl, hl⟩ := hrel
                    have LQ4 := Lib.hid hl
                    by_cases hqj : q < j
                    · have hqj' : (q : Int) < j := by omega
                      have hqM : (q : Int) < M := by omega
                      have hql : q < all.length := by omega
                      obtain ⟨b2, o2, e2, _, hc2⟩ := (P6.out.below hl) q hql
                      obtain ⟨rfl, rfl⟩ : b1 = b2 ∧ o1 = o2 := by simpa using e2
                      obtain ⟨bx, ox, ex, _, hc3⟩ := (P6.out.below hl) j hjl
                      obtain ⟨rfl, rfl⟩ : b1 = bx ∧ o1 = ox := by simpa using ex
                      rw [show all[j] = vj by have := HE.out; rw [List.getElem?_eq_getElem hjl] at this; exact Option.some.inj this] at hc3
                      have hlt3 := HR.out q hqj
                      clear e2 ex hl
                      generalize all[q] = vq at *
                      have hne : (vq == vj) = false := by rw [beq_eq_false_iff_ne]; omega
                      go_wp2_with fail
                      go_quiet (fail)
                      go_wp2_with fail
                      exact ⟨⟨q + 1, by omega, by go_num, bel_drewN LQ4.out _⟩, by simp [intOf]; omega⟩
                    · obtain rfl : j = q := by omega
                      clear hl
                      go_wp2_with fail
                      exact ⟨⟨j + 1, by omega, by go_num, LQ4.out⟩, by simp [intOf]; omega⟩
            · obtain rfl : M = j := by omega
              have B7 := B6.out.step hl
              have D7 := D6.out.step hl
              have L7 := Lib.hid (bel_then L6.out hl)
              have b0' := B7.cell 0; have b1' := B7.cell 1; have d1' := D7.cell 1
              have hMn : (M : Int) = n + x - len := by have := HM.out; have := HXF.out; omega
              have y1 : IntKind.i64.wrap ((n : Int) + x) = n + x := by have := HXF.out; rw [IntKind.wrap_i64]; omega
              have y2 : IntKind.i64.wrap ((n : Int) + x - len) = M := by have := HXF.out; rw [IntKind.wrap_i64]; omega
              clear hl B7 D7 hMn
              go_wp2_with fail
              ((with_reducible refine (wakes25_calls _).mono ?_); rintro e w5 ⟨rfl, hl⟩)
              have L8 := Lib.hid (bel_then L7.out hl)
              go_wp2_with fail
              go_ret
              exact ⟨rfl, L8.out⟩
    · have hokT : tOk free len cap a = false := by
        unfold tOk
        rw [decide_eq_false (show ¬ (a : Int) - free.length ≤ cap - len by rw [hnf]; omega), Bool.and_false]
      have CT := take_no A c free len cap a w1 R2.out hn (by omega) hokT
      unfold NoPost at CT
      rw [hnf] at CT
      have C := Lib.hid CT
      have hk2 : decide ((a : Int) > n + cap - len) = true := decide_eq_true (by omega)
      clear CT hokT
      go_wp2_with fail
      ((with_reducible refine C.out.mono ?_); rintro e w2 ⟨rfl, hl⟩)
      have hbb := bel_alloc (Below.refl w2.heap.size w2) (.cells #[.slice none 0 0, .int .i64 0, .int .i64 0] 41)
      have B3 := (B2.out.step hl).step hbb
      have L3 := Lib.hid (bel_then (bel_then L2.out hl) hbb)
      clear C hl hbb c0 c1 c2
      have c0 := B3.cell 0; have c1 := B3.cell 1; have c2 := B3.cell 2
      clear B3
      go_upto_region 5 with fail
      generalize hg2' : w2.heap.size = g2 at *
      generalize w2.alloc (.cells #[.slice none 0 0, .int .i64 0, .int .i64 0] 41) = W2 at *
      clear hg2'
      go_wp2_with fail
      ((with_reducible refine (wakes25_calls _).mono ?_); rintro e w5 ⟨rfl, hl⟩)
      have L5 := Lib.hid (bel_then L3.out hl)
      go_wp2_with fail
      go_ret
      exact ⟨rfl, L5.out⟩
end Go.Proofs.Ytgpnceaplakemaa.Hp
