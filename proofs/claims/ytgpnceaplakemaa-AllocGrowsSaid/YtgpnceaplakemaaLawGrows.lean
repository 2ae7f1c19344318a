/- What this text proves: the law AllocGrows on every three bytes. -/
import Derived.Test.YtgpnceaplakemaaAlG
namespace Go.Proofs.Ytgpnceaplakemaa.Hp
open Go Go.RowKit Go.ChangeShapes Go.Maps Go.Proofs.Ytgpnceaplakemaa.Base Go.Proofs.Ytgpnceaplakemaa.Own
set_option linter.unusedSimpArgs false

theorem good_nil {len cap : Int} (h1 : 2 ≤ len) (h2 : len ≤ cap) (h3 : cap ≤ 200) : aGood [] len cap = true := aGood_iff.2 ⟨h1, h2, h3, rfl⟩
theorem tkL_nil (len : Int) (k : Nat) : tkL [] len k = (List.range k).map fun j => len + ((j : Nat) : Int) := by simp [tkL]
set_option maxHeartbeats 6400000 in
set_option maxRecDepth 100000 in
theorem grows_law (a b c : Nat) (ha : a < 256) (hb : b < 256) (hc : c < 256) (w : World) :
    Calls Try.prog 9 #[.int .u8 a, .int .u8 b, .int .u8 c] w fun e w' => e = .returned (.bool true) ∧ Below w.heap.size w w' := by
  obtain ⟨x, hx, hx2⟩ : ∃ x : Nat, a % 150 = x ∧ x < 150 := ⟨_, rfl, by omega⟩
  obtain ⟨y, hy, hy2⟩ : ∃ y : Nat, b % 50 = y ∧ y < 50 := ⟨_, rfl, by omega⟩
  obtain ⟨k, hk, hk2⟩ : ∃ k : Nat, c % 60 = k ∧ k < 60 := ⟨_, rfl, by omega⟩
  have tx : (a : Int).tmod 150 = x := by rw [← hx]; rfl
  have ty : (b : Int).tmod 50 = y := by rw [← hy]; rfl
  have tk : (c : Int).tmod 60 = k := by rw [← hk]; rfl
  clear hx hy hk
  go_enter Try.func9, Try.ntmps9
  go_upto_region 4 with fail
  have B1 := Lib.hid (Blk.new w 41 [.slice none 0 0, .int .i64 (2 + (x : Int)), .int .i64 (2 + (x : Int) + y)])
  have L1 := Lib.hid (bel_alloc (Below.refl w.heap.size w) (.cells #[.slice none 0 0, .int .i64 (2 + (x : Int)), .int .i64 (2 + (x : Int) + y)] 41))
  rw [show (w.alloc (.cells [Value.slice none 0 0, .int .i64 (2 + (x : Int)), .int .i64 (2 + (x : Int) + y)].toArray 41)) = w.alloc (.cells #[.slice none 0 0, .int .i64 (2 + (x : Int)), .int .i64 (2 + (x : Int) + y)] 41) from rfl] at B1
  generalize w.alloc (.cells #[.slice none 0 0, .int .i64 (2 + (x : Int)), .int .i64 (2 + (x : Int) + y)] 41) = W1 at *
  have hgood := good_nil (len := 2 + (x : Int)) (cap := 2 + (x : Int) + y) (by omega) (by omega) (by omega)
  have R1 := Lib.hid (⟨fun j hj => absurd hj (by simp), fun _ => ⟨rfl, rfl⟩, fun a ha => by cases ha⟩ : RowOf W1 none 0 [])
  have c0 := B1.out.cell 0; have c1 := B1.out.cell 1; have c2 := B1.out.cell 2
  by_cases hky : k ≤ y
  · have CT1 : Calls Try.prog 24 #[.agg #[.slice none 0 0, .int .i64 (2 + (x : Int)), .int .i64 (2 + (x : Int) + y)], .int .i64 k] W1 fun e w' => ∃ v u, e = .returned (.tuple #[.agg #[v, .int .i64 (2 + (x : Int) + k), .int .i64 (2 + (x : Int) + y)], u, .bool true]) ∧ w'.ownsRow W1.heap.size 3 1 v 0 (ints []) ∧ w'.ownsRow W1.heap.size 3 1 u k (ints (tkL [] (2 + (x : Int)) k)) ∧ Below W1.heap.size W1 w' := by
      have C := take_yes none 0 [] (2 + (x : Int)) (2 + (x : Int) + y) k W1 R1.out (by simp [tOk, hgood]; omega)
      unfold TkPost at C
      simpa using C
    have C := Lib.hid CT1
    have D1 : Hid (∀ j, j < k → (tkL [] (2 + (x : Int)) k)[j]? = some (2 + (x : Int) + j)) := by
      intro j hj
      simp [tkL_nil, hj]
    clear CT1
    go_wp2_with fail
    ((with_reducible refine C.out.mono ?_); rintro e w2 ⟨v, u, rfl, hv, hu, hl⟩)
    obtain ⟨Av, cv, rfl⟩ := own_form hv
    obtain ⟨Au, cu, rfl⟩ := own_form hu
    have hbb := bel_alloc (Below.refl w2.heap.size w2) (.cells #[.slice Av 0 cv, .int .i64 (2 + (x : Int) + k), .int .i64 (2 + (x : Int) + y)] 41)
    have B2 := Lib.hid ((B1.out.step hl).step hbb)
    have T2 := Lib.hid (Blk.new w2 41 [.slice Av 0 cv, .int .i64 (2 + (x : Int) + k), .int .i64 (2 + (x : Int) + y)])
    have U2 := Lib.hid ((own_intArg hu).below hbb)
    have L2 := Lib.hid (bel_then (bel_then L1.out hl) hbb)
    clear C hv hu hl hbb B1 L1 c0 c1 c2
    go_upto_region 5 with fail
    generalize hg2 : w2.heap.size = g2 at *
    generalize w2.alloc (.cells #[.slice Av 0 cv, .int .i64 (2 + (x : Int) + k), .int .i64 (2 + (x : Int) + y)] 41) = W2 at *
    clear hg2
    have c0 := B2.out.cell 0; have c1 := B2.out.cell 1; have c2 := B2.out.cell 2
    have w1' : IntKind.i64.wrap (2 + (x : Int) + y - (2 + x)) = y := by rw [IntKind.wrap_i64]; omega
    have k1' : decide ((k : Int) ≤ y) = true := decide_eq_true (by omega)
    go_wp2_with fail
    clear c0 c1 c2
    go_loopw [12] (fun i wr => ∃ j : Nat, j ≤ k ∧ i = .int .i64 j ∧ Below W2.heap.size W2 wr) (fun i _ => k - (intOf i).toNat)
    case atStart => exact ⟨0, Nat.zero_le _, rfl, Below.refl _ _⟩
    case round =>
      obtain ⟨j, hj, rfl, hl⟩ := hrel
      have B3 := Lib.hid (B2.out.step hl)
      have LL := Lib.hid hl
      have c1 := B3.out.cell 1
      by_cases hlt : j < k
      · have hjk : (j : Int) < k := by omega
        have hjl : j < (tkL [] (2 + (x : Int)) k).length := by rw [tkL_length]; exact hlt
        obtain ⟨b, o, rfl, hbx, hcx⟩ := (U2.out.below hl) j hjl
        rw [show (tkL [] (2 + (x : Int)) k)[j] = 2 + (x : Int) + j by
          have := D1.out j hlt
          rw [List.getElem?_eq_getElem hjl] at this
          exact Option.some.inj this] at hcx
        clear hl
        go_wp2_with fail
        go_quiet (fail)
        go_wp2_with fail
        exact ⟨⟨j + 1, by omega, by go_num, bel_drewN LL.out _⟩, by simp [intOf]; omega⟩
      · obtain rfl : k = j := by omega
        have T3 := Lib.hid (T2.out.step hl)
        have L3 := Lib.hid (bel_then L2.out hl)
        have c0 := B3.out.cell 0; have c2 := B3.out.cell 2
        have CN := take_no none 0 [] (2 + (x : Int)) (2 + (x : Int) + y) (-1) wr ⟨fun j hj => absurd hj (by simp), fun _ => ⟨rfl, rfl⟩, fun a ha => by cases ha⟩ (by simp) (by decide) (by simp [tOk])
        unfold NoPost at CN
        rw [show (([] : List Int).length) = 0 from rfl] at CN
        have C := Lib.hid CN
        clear CN hl
        go_wp2_with fail
        ((with_reducible refine C.out.mono ?_); rintro e w4 ⟨rfl, hl⟩)
        have hbb := bel_alloc (Below.refl w4.heap.size w4) (.cells #[.slice none 0 0, .int .i64 0, .int .i64 0] 41)
        have B4 := (B3.out.step hl).step hbb
        have T4 := (T3.out.step hl).step hbb
        have L4 := Lib.hid (bel_then (bel_then L3.out hl) hbb)
        clear c0 c1 c2 C hl hbb
        have c0 := B4.cell 0; have c1 := B4.cell 1; have c2 := B4.cell 2
        have t0 := T4.cell 0; have t1 := T4.cell 1; have t2 := T4.cell 2
        clear B4 T4
        go_upto_region 15 with fail
        generalize w4.alloc (.cells #[.slice none 0 0, .int .i64 0, .int .i64 0] 41) = W4 at *
        go_wp2_with fail
        ((with_reducible refine (wakes25_calls _).mono ?_); rintro e w5 ⟨rfl, hl⟩)
        have L5 := Lib.hid (bel_then L4.out hl)
        go_wp2_with fail
        go_ret
        exact ⟨rfl, L5.out⟩
  · have CN := take_no none 0 [] (2 + (x : Int)) (2 + (x : Int) + y) k W1 R1.out (by simp) (by omega) (by simp [tOk, hgood]; omega)
    unfold NoPost at CN
    rw [show (([] : List Int).length) = 0 from rfl] at CN
    have C := Lib.hid CN
    clear CN
    go_wp2_with fail
    ((with_reducible refine C.out.mono ?_); rintro e w2 ⟨rfl, hl⟩)
    have hbb := bel_alloc (Below.refl w2.heap.size w2) (.cells #[.slice none 0 0, .int .i64 0, .int .i64 0] 41)
    have B2 := (B1.out.step hl).step hbb
    have T2 := Blk.new w2 41 [.slice none 0 0, .int .i64 0, .int .i64 0]
    have L2 := Lib.hid (bel_then (bel_then L1.out hl) hbb)
    clear C hl hbb B1 L1 c0 c1 c2
    go_upto_region 5 with fail
    generalize hg2 : w2.heap.size = g2 at *
    rw [show (w2.alloc (.cells [Value.slice none 0 0, .int .i64 0, .int .i64 0].toArray 41)) = w2.alloc (.cells #[.slice none 0 0, .int .i64 0, .int .i64 0] 41) from rfl] at T2
    generalize w2.alloc (.cells #[.slice none 0 0, .int .i64 0, .int .i64 0] 41) = W2 at *
    clear hg2
    have c1 := B2.cell 1; have c2 := B2.cell 2; have t1 := T2.cell 1
    have w1' : IntKind.i64.wrap (2 + (x : Int) + y - (2 + x)) = y := by rw [IntKind.wrap_i64]; omega
    have k1' : decide ((k : Int) ≤ y) = false := decide_eq_false (by omega)
    clear B2 T2
    go_wp2_with fail
    ((with_reducible refine (wakes25_calls _).mono ?_); rintro e w5 ⟨rfl, hl⟩)
    have L5 := Lib.hid (bel_then L2.out hl)
    go_wp2_with fail
    go_ret
    exact ⟨rfl, L5.out⟩
theorem grows_law' (a b c : UInt8) (w : World) : Calls Try.prog 9 #[.int .u8 a.toNat, .int .u8 b.toNat, .int .u8 c.toNat] w fun e w' => e = .returned (.bool true) ∧ Below w.heap.size w w' :=
  grows_law a.toNat b.toNat c.toNat a.toNat_lt b.toNat_lt c.toNat_lt w
end Go.Proofs.Ytgpnceaplakemaa.Hp
