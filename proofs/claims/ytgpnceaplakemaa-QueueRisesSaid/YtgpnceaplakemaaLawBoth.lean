/- What this text proves: the law QueueBoth answers true at every two lists. -/
import Derived.Test.YtgpnceaplakemaaQkA
import Derived.Test.YtgpnceaplakemaaOwn2
namespace Go.Proofs.Ytgpnceaplakemaa.Hp
open Go Go.RowKit Go.Proofs.Ytgpnceaplakemaa.Base Go.Proofs.Ytgpnceaplakemaa.Own
set_option linter.unusedSimpArgs false

/-- The numbers laid in, one behind the other. -/
def insAll (a : List Int) (m : List Int) : List Int := m.foldl (fun a v => ins v a) a
theorem insAll_succ (a m : List Int) (k : Nat) (h : k < m.length) : insAll a (m.take (k + 1)) = ins m[k] (insAll a (m.take k)) := by
  unfold insAll
  rw [List.take_succ_eq_append_getElem h, List.foldl_append]
  rfl
theorem insAll_srt (l m : List Int) : insAll (srt l) m = srt (l ++ m) := by
  unfold insAll srt
  rw [List.foldl_append]
theorem insAll_length (m : List Int) : ∀ a : List Int, (insAll a m).length = a.length + m.length := by
  intro a
  unfold insAll
  induction m generalizing a with
  | nil => rfl
  | cons v m ih =>
    rw [List.foldl_cons, ih, (ins_perm v a).length_eq]
    simp
    omega
theorem own_nil_ints {w : World} {B n c : Nat} {l : List Int} (h : w.ownsRow B 3 1 (.slice none n c) n (ints l)) : l = [] := by
  rcases h.2 with ⟨_, h0⟩ | ⟨g', cap, cur, hv, _⟩
  · have := h.1
    rw [ints_length] at this
    exact List.eq_nil_of_length_eq_zero (by omega)
  · cases hv
theorem drop_cons {l : List Int} {k : Nat} (h : k < l.length) : l.drop k = l[k] :: l.drop (k + 1) := List.drop_eq_getElem_cons h
set_option maxHeartbeats 12800000 in
set_option maxRecDepth 100000 in
theorem both_law (A A1 : Option Addr) (c c1 : Nat) (l m : List Int) (w : World) (h : IntsIn w A c l) (h1 : IntsIn w A1 c1 m) :
    Calls Try.prog 5 #[.slice A l.length c, .slice A1 m.length c1] w fun e w' => e = .returned (.bool true) ∧ Below w.heap.size w w' := by
  obtain ⟨i0, hi, hz0, hz1, hz2⟩ := info_parts info3
  obtain ⟨n, hn⟩ : ∃ n, l.length = n := ⟨_, rfl⟩
  obtain ⟨n1, hn1⟩ : ∃ n, m.length = n := ⟨_, rfl⟩
  have HN := Lib.hid hn; have HN1 := Lib.hid hn1; have HA := Lib.hid h; have HA1 := Lib.hid h1
  rw [hn, hn1]
  clear hn hn1 h h1
  by_cases h3 : 150 < n
  · have h3' : (150 : Int) < n := by omega
    clear h3
    go_enter Try.func5, Try.ntmps5
    go_wp2_with fail
    ((with_reducible refine (wakes_calls _).mono ?_); rintro e w1 ⟨rfl, hl⟩)
    go_wp2_with fail
    go_ret
    exact ⟨rfl, hl⟩
  have h3' : ¬ (150 : Int) < n := by omega
  by_cases h4 : 150 < n1
  · have h4' : (150 : Int) < n1 := by omega
    clear h3 h4
    go_enter Try.func5, Try.ntmps5
    go_wp2_with fail
    ((with_reducible refine (wakes_calls _).mono ?_); rintro e w1 ⟨rfl, hl⟩)
    go_wp2_with fail
    go_ret
    exact ⟨rfl, hl⟩
  have h4' : ¬ (150 : Int) < n1 := by omega
  have hn2 : n ≤ 150 := by omega
  have hn3 : n1 ≤ 150 := by omega
  clear h3 h4
  have M0 := Lib.hid (made3 w)
  have L0 := Lib.hid (bel_alloc (Below.refl w.heap.size w) (.cells #[] 3))
  go_enter Try.func5, Try.ntmps5
  go_wp2_with (first | (at_builtin; refine wpList_append_ints rfl (.tmp 22) (.tmp 23) 22 rfl w.heap.size i0 Try.underlying22 hi hz0 hz1 hz2 (.slice (some ⟨w.heap.size, 0, none⟩) 0 0) 0 [] rfl M0.out A n c l rfl HN.out (HA.out.below L0.out).arg HA.out.nil HA.out.off (by omega) L0.out.size ?_; intro v1 w1 hown hgr hat; obtain ⟨A2, c2, rfl⟩ := own_form hown; rw [Nat.zero_add, List.nil_append] at hown; have O1 := Lib.hid hown; have L1 := Lib.hid (Below.grown L0.out hgr L0.out.size (fun k hk => by rw [← (show w.heap.size = k by simpa [Value.ownBlock] using hk)]; exact Nat.le_refl _)); clear hown hgr hat) | (at_builtin; refine wpList_append_ints rfl (.tmp 24) (.tmp 25) 22 rfl w.heap.size i0 Try.underlying22 hi hz0 hz1 hz2 (.slice A2 n c2) n l rfl O1.out A1 n1 c1 m rfl HN1.out (HA1.out.below L1.out).arg HA1.out.nil HA1.out.off (by omega) L1.out.size ?_; intro v2 w2 hown hgr hat; obtain ⟨A3, c3, rfl⟩ := own_form hown; have O2 := Lib.hid hown; have L2 := Lib.hid (Below.grown L1.out hgr L1.out.size (fun k hk => (own_lt O1.out k hk).1)); clear hown hgr hat))
  have HLM := Lib.hid (show (l ++ m).length = n + n1 by rw [List.length_append, HN.out, HN1.out])
  have C1 := qnew_calls A3 c3 (l ++ m) w2 (own_intArg O2.out) (fun e => by rw [e] at O2; exact own_nil_ints O2.out) (by rw [HLM.out]; omega)
  rw [HLM.out] at C1
  have C1 := Lib.hid C1
  ((with_reducible refine C1.out.mono ?_); rintro e w3 ⟨a, rfl, hI, hl⟩)
  have I3 := Lib.hid hI; have L3 := Lib.hid (low_then L2.out L2.out.size hl)
  have L23 := Lib.hid hl.size
  clear hI hl C1 O1 O2 M0 L0 L1
  have C2 := qnew_calls A c l w3 (HA.out.below L3.out).arg (fun e => (HA.out.nil e).1) (by rw [HN.out]; omega)
  rw [HN.out] at C2
  have C2 := Lib.hid C2
  go_wp2_with fail
  ((with_reducible refine C2.out.mono ?_); rintro e w4 ⟨b, rfl, hI, hl⟩)
  -- a's blocks lie below w3's size, b's from it on
  have IA := Lib.hid ((I3.out.mono (F' := fun k => w2.heap.size ≤ k ∧ k < w3.heap.size) (fun k h1 h2 => ⟨h2, h1⟩)).below hl)
  have IB := Lib.hid hI; have L4 := Lib.hid (low_then L3.out L3.out.size hl)
  have hw2 := L2.out.size; have hw3 := L3.out.size
  clear hI hl C2 I3
  have HFA := Lib.hid (show ∀ W W' : World, w3.heap.size ≤ W.heap.size → Within (fun k => w3.heap.size ≤ k) W W' → Below w.heap.size w W → Below w.heap.size w W' from fun W W' _ h1 h2 => h2.trans (h1.below h2.size (fun k hk => Nat.le_trans hw3 hk)))
  have HFB := Lib.hid (show ∀ W W' : World, Within (fun k => w2.heap.size ≤ k ∧ k < w3.heap.size) W W' → Below w.heap.size w W → Below w.heap.size w W' from fun W W' h1 h2 => h2.trans (h1.below h2.size (fun k hk => Nat.le_trans hw2 hk.1)))
  have hs4 := IB.out.lt
  have HS4 := Lib.hid (show w3.heap.size ≤ w4.heap.size from by have := IB.out.1; omega)
  go_wp2_with fail
  go_loopw [7] (fun i wr => ∃ k : Nat, k ≤ n1 ∧ i = .int .i64 k ∧ IsQ (fun k => w2.heap.size ≤ k ∧ k < w3.heap.size) wr a (srt (l ++ m)) ∧ IsQ (fun k => w3.heap.size ≤ k) wr b (insAll (srt l) (m.take k)) ∧ Below w.heap.size w wr ∧ w3.heap.size ≤ wr.heap.size) (fun i _ => n1 - (intOf i).toNat)
  case atStart => exact ⟨0, Nat.zero_le _, rfl, IA.out, by rw [List.take_zero]; exact IB.out, L4.out, HS4.out⟩
  case round =>
    obtain ⟨k, hk, rfl, hIA, hIB, hl, hs⟩ := hrel
    have JA := Lib.hid hIA; have JB := Lib.hid hIB; have M4 := Lib.hid hl; have MS := Lib.hid hs
    clear hIA hIB hl hs IA IB L4 HS4 hs4
    by_cases hlt : k < n1
    · have hkn : (k : Int) < n1 := by omega
      have hkm : k < m.length := by rw [HN1.out]; exact hlt
      obtain ⟨bb, oo, rfl, _, hc⟩ := (HA1.out.below M4.out).arg k hkm
      have HI := Lib.hid (insAll_succ (srt l) m k hkm)
      have hlen := insAll_length (m.take k) (srt l)
      rw [srt_length, List.length_take, HN.out] at hlen
      generalize m[k] = v at *
      have C5 := Lib.hid (qpush_calls _ b v _ _ JB.out (fun k hk => Nat.le_trans MS.out hk) (by omega))
      rw [← HI.out] at C5
      clear hlen
      go_wp2_with fail
      ((with_reducible refine C5.out.mono ?_); rintro e w5 ⟨rfl, hI, hl⟩)
      have KA := Lib.hid (JA.out.within hl (fun k _ hk h => by omega)); have KB := Lib.hid hI; have M5 := Lib.hid (HFA.out _ _ MS.out hl M4.out); have MS5 := Lib.hid (Nat.le_trans MS.out hl.size)
      clear hI hl C5 JA JB M4 MS
      go_wp2_with fail
      exact ⟨⟨k + 1, by omega, by go_num, KA.out, KB.out, M5.out, MS5.out⟩, by simp [intOf]; omega⟩
    · obtain rfl : n1 = k := by omega
      have JB' := JB.out
      rw [List.take_of_length_le (by have := HN1.out; omega), insAll_srt] at JB'
      have JB := Lib.hid JB'
      clear JB'
      have HLS := Lib.hid (show (srt (l ++ m)).length = n + n1 by rw [srt_length, HLM.out])
      generalize srt (l ++ m) = S at *
      go_wp2_with fail
      have CA := list_calls _ a S _ JA.out (by rw [HLS.out]; omega)
      rw [HLS.out] at CA
      have CA := Lib.hid CA
      ((with_reducible refine CA.out.mono ?_); rintro e w5 ⟨v, rfl, hv, hl⟩)
      obtain ⟨A5, c5, rfl⟩ := own_form hv
      have R5 := Lib.hid (own_intArg hv); have KA := Lib.hid (JA.out.below hl); have KB := Lib.hid (JB.out.below hl); have M5 := Lib.hid (low_then M4.out M4.out.size hl); have MS5 := Lib.hid (Nat.le_trans MS.out hl.size)
      clear hv hl CA JA JB M4 MS
      have CB := list_calls _ b S _ KB.out (by rw [HLS.out]; omega)
      rw [HLS.out] at CB
      have CB := Lib.hid CB
      go_wp2_with fail
      ((with_reducible refine CB.out.mono ?_); rintro e w6 ⟨v, rfl, hv, hl⟩)
      obtain ⟨A6, c6, rfl⟩ := own_form hv
      have R6 := Lib.hid (own_intArg hv); have R7 := Lib.hid (R5.out.below hl); have JA := Lib.hid (KA.out.below hl); have JB := Lib.hid (KB.out.below hl); have M6 := Lib.hid (low_then M5.out M5.out.size hl); have MS6 := Lib.hid (Nat.le_trans MS5.out hl.size)
      clear hv hl CB KA KB M5 MS5 R5
      have CI := ints_calls A5 A6 c5 c6 (n + n1) (n + n1) S S w6 R7.out R6.out HLS.out HLS.out (by omega)
      rw [decide_eq_true (show S = S from rfl)] at CI
      have CI := Lib.hid CI
      go_wp2_with fail
      ((with_reducible refine CI.out.mono ?_); rintro e w7 ⟨rfl, hl⟩)
      have KA := Lib.hid (JA.out.below hl); have KB := Lib.hid (JB.out.below hl); have M7 := Lib.hid (low_then M6.out M6.out.size hl); have MS7 := Lib.hid (Nat.le_trans MS6.out hl.size)
      clear hl CI JA JB M6 MS6 R6 R7
      have CL := qlen_calls _ a S w7 KA.out
      rw [HLS.out] at CL
      have CL := Lib.hid CL
      go_wp2_with fail
      ((with_reducible refine CL.out.mono ?_); rintro e w8 ⟨rfl, rfl⟩)
      clear CL
      have CL := qlen_calls _ b S w7 KB.out
      rw [HLS.out] at CL
      have CL := Lib.hid CL
      go_wp2_with fail
      ((with_reducible refine CL.out.mono ?_); rintro e w8 ⟨rfl, rfl⟩)
      clear CL
      go_wp2_with fail
      go_loopw [8] (fun i wr => ∃ k : Nat, k ≤ n + n1 ∧ i = .int .i64 k ∧ IsQ (fun k => w2.heap.size ≤ k ∧ k < w3.heap.size) wr a (S.drop k) ∧ IsQ (fun k => w3.heap.size ≤ k) wr b (S.drop k) ∧ Below w.heap.size w wr ∧ w3.heap.size ≤ wr.heap.size) (fun i _ => n + n1 - (intOf i).toNat)
      case atStart => exact ⟨0, Nat.zero_le _, rfl, KA.out, KB.out, M7.out, MS7.out⟩
      case round =>
        obtain ⟨k, hk, rfl, hIA, hIB, hl, hs⟩ := hrel
        have JA := Lib.hid hIA; have JB := Lib.hid hIB; have M8 := Lib.hid hl; have MS := Lib.hid hs
        clear hIA hIB hl hs KA KB M7 MS7
        by_cases hlt : k < n + n1
        · have hkn : (k : Int) < (n : Int) + n1 := by omega
          have hkS : k < S.length := by rw [HLS.out]; exact hlt
          have hd := drop_cons hkS
          have hdl : (S.drop (k + 1)).length ≤ 999999 := by rw [List.length_drop, HLS.out]; omega
          rw [hd] at JA JB
          clear hd
          generalize S[k] = v at *
          have CA := Lib.hid (qpop_calls _ a v _ _ JA.out hdl)
          go_wp2_with fail
          ((with_reducible refine CA.out.mono ?_); rintro e w9 ⟨rfl, hI, hl⟩)
          have KA := Lib.hid hI; have KB := Lib.hid (JB.out.within hl (fun k _ hk h => by omega)); have M9 := Lib.hid (HFB.out _ _ hl M8.out); have MS9 := Lib.hid (Nat.le_trans MS.out hl.size)
          clear hI hl CA JA JB M8 MS
          have CB := Lib.hid (qpop_calls _ b v _ _ KB.out hdl)
          go_wp2_with fail
          ((with_reducible refine CB.out.mono ?_); rintro e w10 ⟨rfl, hI, hl⟩)
          have JB := Lib.hid hI; have JA := Lib.hid (KA.out.within hl (fun k _ hk h => by omega)); have M10 := Lib.hid (HFA.out _ _ MS9.out hl M9.out); have MS10 := Lib.hid (Nat.le_trans MS9.out hl.size)
          clear hI hl CB KA KB M9 MS9
          go_wp2_with fail
          exact ⟨⟨k + 1, by omega, by go_num, JA.out, JB.out, M10.out, MS10.out⟩, by simp [intOf]; omega⟩
        · obtain rfl : k = n + n1 := by omega
          have hnil : S.drop (n + n1) = [] := List.drop_eq_nil_of_le (by have := HLS.out; omega)
          rw [hnil] at JA JB
          clear hnil
          have hkn : ¬ (((n + n1 : Nat)) : Int) < (n : Int) + n1 := by omega
          have CA := qlen_calls _ a [] _ JA.out
          have CB := qlen_calls _ b [] _ JB.out
          rw [show ((([] : List Int).length : Nat) : Int) = 0 from rfl] at CA CB
          have CA := Lib.hid CA; have CB := Lib.hid CB
          go_wp2_with fail
          ((with_reducible refine CA.out.mono ?_); rintro e w9 ⟨rfl, rfl⟩)
          go_wp2_with fail
          ((with_reducible refine CB.out.mono ?_); rintro e w9 ⟨rfl, rfl⟩)
          go_wp2_with fail
          ((with_reducible refine (wakes_calls _).mono ?_); rintro e w9 ⟨rfl, hl⟩)
          have M9 := Lib.hid (low_then M8.out M8.out.size hl)
          clear hl
          go_wp2_with fail
          go_ret
          exact ⟨rfl, M9.out⟩
end Go.Proofs.Ytgpnceaplakemaa.Hp
