/- What this text proves: what super's functions and sum's come to, for every argument within the bounds that stand here. -/
import Derived.Test.YtlipbpdigffajaaDoorSupPure
import Derived.Test.YtlipbpdigffajaaDoorExt
import Derived.Deep.RegionHeld3
namespace Go.Proofs.YtlipbpdigffajaaDoor.Sup
open Go Go.RowKit Go.Proofs.YtlipbpdigffajaaDoor.Base Go.Proofs.YtlipbpdigffajaaDoor.Ext

theorem between_calls (v a b : Int) (w : World) : Calls Tryd.prog 10 #[.int .i64 v, .int .i64 a, .int .i64 b] w fun e w' => e = .returned (.bool (btw v a b)) ∧ w = w' := by
  by_cases h1 : a ≤ v
  · have H : Hid (btw v a b = decide (v ≤ b)) := by simp [Hid, btw, h1]
    have h1' : decide (a ≤ v) = true := by simp [h1]
    clear h1
    go_enter Tryd.func10, Tryd.ntmps10
    go_wp2
    go_ret
    exact ⟨by rw [H.out]; rfl, rfl⟩
  · have H : Hid (btw v a b = false) := by simp [Hid, btw, h1]
    have h1' : decide (a ≤ v) = false := by simp [h1]
    clear h1
    go_enter Tryd.func10, Tryd.ntmps10
    go_wp2
    go_ret
    exact ⟨by rw [H.out]; rfl, rfl⟩

def S6.val (s : S6) : Value := .agg #[.int .i64 s.q, .int .i64 s.g, .int .i64 s.l, .int .i64 s.r, .int .i64 s.li, .int .i64 s.k]

set_option maxHeartbeats 800000 in
theorem good_in (q g l r li k : Int) (hl0 : -9223372036854775807 ≤ l) (hl1 : l ≤ 9223372036854775807) (w : World) :
    Calls Tryd.prog 5 #[.agg #[.int .i64 q, .int .i64 g, .int .i64 l, .int .i64 r, .int .i64 li, .int .i64 k]] w fun e w' => e = .returned (.bool (goodB ⟨q, g, l, r, li, k⟩)) ∧ Below w.heap.size w w' := by
  have H : Hid (goodB ⟨q, g, l, r, li, k⟩ = (btw q 1 2147483647 && btw g 1 2147483647 && btw l 3 200 && btw r 2 (l - 1) && (decide (li = 0) || btw li 2 (l - 1)) && !decide (li = r) && btw k 1 6)) := rfl
  go_enter Tryd.func5, Tryd.ntmps5
  go_wp2_with (go_at_call 10; refine (between_calls _ _ _ _).mono ?_; rintro e w' ⟨rfl, rfl⟩)
  all_goals (go_ret; exact ⟨by rw [H.out]; simp [*], bel_alloc (Below.refl _ _) _⟩)

set_option maxHeartbeats 800000 in
theorem good_calls (q g l r li k : Int) (hl0 : -9223372036854775808 ≤ l) (hl1 : l ≤ 9223372036854775807) (w : World) :
    Calls Tryd.prog 5 #[.agg #[.int .i64 q, .int .i64 g, .int .i64 l, .int .i64 r, .int .i64 li, .int .i64 k]] w fun e w' => e = .returned (.bool (goodB ⟨q, g, l, r, li, k⟩)) ∧ Below w.heap.size w w' := by
  by_cases hm : -9223372036854775807 ≤ l
  · exact good_in q g l r li k hm hl1 w
  · have h3 : btw l 3 200 = false := by
      rw [Bool.eq_false_iff]
      intro h
      have := (btw_iff _ _ _).1 h
      omega
    have H : Hid (goodB ⟨q, g, l, r, li, k⟩ = false) := by simp [Hid, goodB, h3]
    have h3 := Lib.hid h3
    clear hm hl0 hl1
    go_enter Tryd.func5, Tryd.ntmps5
    go_wp2_with (go_at_call 10; refine (between_calls _ _ _ _).mono ?_; rintro e w' ⟨rfl, rfl⟩; try rw [h3.out])
    all_goals (go_ret; exact ⟨by rw [H.out]; rfl, bel_alloc (Below.refl _ _) _⟩)

/-! ### put: a number's bytes -/
def putF (v n : Nat) (j : Nat) : Int := ((v / 256 ^ (n - 1 - j) : Nat) : Int) % 256
theorem putF_row (v n : Nat) : strOfNums ((List.range n).map (putF v n)) = bs (putL v n) := by
  rw [strOfNums_bs, List.map_map]
  unfold putL
  congr 1
  apply List.map_congr_left
  intro j _
  simp only [Function.comp, putF]
  apply UInt8.toNat_inj.1
  generalize v / 256 ^ (n - 1 - j) = x
  rw [show ((x : Nat) : Int) % 256 = ((x % 256 : Nat) : Int) by omega, Int.toNat_natCast]
  simp
theorem putF_at (v n k : Nat) : putF v n k = (v : Int) / 2 ^ (8 * (n - 1 - k)) % 256 := by
  unfold putF
  rw [Int.pow_mul, show ((2 : Int) ^ 8) = 256 from rfl]
  simp
theorem info5 : (Tryd.prog.info? 5).map (fun i => (i.zero, i.size, i.bytes)) = some (some (.int .u8 0), 1, 1) := by kernel_rfl
set_option maxHeartbeats 800000 in
theorem put_calls (v n : Nat) (hn : n ≤ 4) (w : World) :
    Calls Tryd.prog 13 #[.int .i64 v, .int .i64 n] w fun e w' => e = .returned (.string (bs (putL v n))) ∧ Below w.heap.size w w' := by
  obtain ⟨i0, hi, hz0, hz1, hz2⟩ := info_parts info5
  have hmk := run_make (P := Tryd.prog) w 39 5 i0 _ Tryd.underlying39 hi hz0 .i64 .i64 n n (by omega) (by omega) (by rw [hz2]; omega) (by omega)
  rw [hz1, Nat.mul_one, Int.toNat_natCast] at hmk
  go_enter Tryd.func13, Tryd.ntmps13
  go_wp2
  have hB := bel_alloc (Below.refl w.heap.size w) (.cells (madeCells #[Value.int .u8 0] n) 5)
  have hb := Blk.new w 5 (byt (row (putF v n) n 0))
  rw [row_zero, ← madeCells_u8, ← row_zero (putF v n)] at hb
  have HB := Lib.hid hB
  have HK := Lib.hid hb
  clear hB hb
  go_loopw [6, 11] (fun _ i wr => ∃ k : Nat, k ≤ n ∧ i = .int .i64 k ∧ Blk wr w.heap.size 5 (byt (row (putF v n) n k)) ∧ Below w.heap.size w wr) (fun _ i _ => n - (intOf i).toNat)
  case atStart => exact ⟨0, Nat.zero_le _, rfl, HK.out, HB.out⟩
  case round =>
    obtain ⟨k, hk, rfl, hb, hB⟩ := hrel
    clear HB HK
    by_cases hlt : k < n
    · have hc := hb.cell k
      rw [byt_get _ _ (by rw [row_length]; exact hlt)] at hc
      have hf := hb.frozen k
      go_wp2
      rw [← putF_at v n k]
      exact ⟨⟨k + 1, by omega, by go_num, by rw [← byt_row_set]; exact hb.set_ k _, bel_set hB (Nat.le_refl _) _ _⟩, by simp [intOf]; omega⟩
    · obtain rfl : k = n := by omega
      have hs := hb.string (P := Tryd.prog) Tryd.underlying39 Tryd.underlying5 Tryd.underlying9 k k (row_length _ _ _)
      rw [row_full, putF_row] at hs
      go_wp2
      go_ret
      exact ⟨rfl, hB⟩

theorem put4 (v : Nat) (w : World) : Calls Tryd.prog 13 #[.int .i64 v, .int .i64 4] w fun e w' => e = .returned (.string (bs (putL v 4))) ∧ Below w.heap.size w w' := put_calls v 4 (by omega) w
theorem put2 (v : Nat) (w : World) : Calls Tryd.prog 13 #[.int .i64 v, .int .i64 2] w fun e w' => e = .returned (.string (bs (putL v 2))) ∧ Below w.heap.size w w' := put_calls v 2 (by omega) w
theorem put1 (v : Nat) (w : World) : Calls Tryd.prog 13 #[.int .i64 v, .int .i64 1] w fun e w' => e = .returned (.string (bs (putL v 1))) ∧ Below w.heap.size w w' := put_calls v 1 (by omega) w

/-! ### number -/
theorem wraps_i64 (n : Int) (h₀ : 0 ≤ n) (h₁ : n < 2 ^ 63) : IntKind.i64.wrap n = n := by rw [IntKind.wrap_i64]; omega
theorem or_byte (v : Nat) (b : UInt8) (hv : v < 16777216) : bits .or .i64 (wrap64 ((v : Int) * 256)) (wrap64 (b.toNat : Int)) = ((v * 256 + b.toNat : Nat) : Int) := by
  have hb := b.toNat_lt
  rw [show wrap64 ((v : Int) * 256) = (v : Int) * 256 by unfold wrap64; omega, show wrap64 (b.toNat : Int) = (b.toNat : Int) by unfold wrap64; omega,
    bits_join .i64 63 (by decide) wraps_i64 8 _ _ (by omega) (by omega) (by omega) (by omega) (by omega) (by omega)]
  omega
theorem numL_take (l : List UInt8) (k : Nat) (h : k < l.length) : numL (l.take (k + 1)) = numL (l.take k) * 256 + l[k].toNat := by
  rw [List.take_succ_eq_append_getElem h, numL_snoc]
theorem numL_small (l : List UInt8) (k : Nat) (h : k ≤ 3) : numL (l.take k) < 16777216 := by
  refine Nat.lt_of_lt_of_le (numL_lt _) ?_
  exact Nat.pow_le_pow_right (by omega : 0 < 256) (show (l.take k).length ≤ 3 by rw [List.length_take]; omega)
set_option maxHeartbeats 800000 in
theorem number_calls (l : List UInt8) (hl : l.length ≤ 4) (w : World) :
    Calls Tryd.prog 22 #[.string (bs l)] w fun e w' => e = .returned (.int .i64 (numL l)) ∧ w = w' := by
  go_enter Tryd.func22, Tryd.ntmps22
  go_wp2
  have hz := bs_size l
  go_loop [3, 4, 7] (fun v _ i => ∃ k : Nat, k ≤ l.length ∧ i = .int .i64 k ∧ v = .int .i64 (numL (l.take k))) (fun _ _ i => l.length - (intOf i).toNat)
  case atStart => exact ⟨0, Nat.zero_le _, rfl, rfl⟩
  case round =>
    obtain ⟨k, hk, rfl, rfl⟩ := hrel
    by_cases hlt : k < l.length
    · go_wp2
      refine ⟨⟨k + 1, by omega, by go_num, ?_⟩, by simp [intOf]; omega⟩
      rw [bs_get, or_byte _ _ (numL_small l k (by omega)), numL_take l k hlt]
    · obtain rfl : k = l.length := by omega
      go_wp2
      go_ret
      exact ⟨by simp, rfl⟩

/-! ### sum.Put, sum.Of -/
def sumL (v : Int) : List UInt8 := putL v.toNat 4
theorem sumOf_calls (s : ByteArray) (hs : s.size ≤ 9223372036854775807) (w : World) (hG : Glob w) :
    Calls Tryd.prog 15 #[.string s] w fun e w' => e = .returned (.int .u32 (add 0 s)) ∧ w = w' := by
  go_enter Tryd.func15, Tryd.ntmps15
  go_wp2_with (go_at_call 23; refine (add_calls _ _ _ (by omega) (by omega) hs hG).mono ?_; rintro e w' ⟨rfl, rfl⟩)
  go_ret
  exact ⟨rfl, rfl⟩
theorem sumPut_nums (v : Int) (h0 : 0 ≤ v) (h1 : v ≤ 4294967295) : strOfNums [v / 16777216, v / 65536 % 256, v / 256 % 256, v % 256] = bs (sumL v) := by
  obtain ⟨n, rfl⟩ := Int.eq_ofNat_of_zero_le h0
  rw [strOfNums_bs]
  unfold sumL putL
  congr 1
  simp only [List.map_cons, List.map_nil, List.range_succ, List.range_zero, List.nil_append, List.cons_append, Int.toNat_natCast]
  simp only [Nat.reduceSub, Nat.reducePow, Nat.div_one]
  rw [show ((n : Int) / 16777216).toNat = n / 16777216 by omega, show ((n : Int) / 65536 % 256).toNat = n / 65536 % 256 by omega, show ((n : Int) / 256 % 256).toNat = n / 256 % 256 by omega, show ((n : Int) % 256).toNat = n % 256 by omega]
  have e : ∀ m : Nat, UInt8.ofNat (m % 256) = UInt8.ofNat m := fun m => UInt8.toNat_inj.1 (by simp)
  simp [e]
set_option maxHeartbeats 800000 in
theorem sumPut_calls (v : Int) (h0 : 0 ≤ v) (h1 : v ≤ 4294967295) (w : World) :
    Calls Tryd.prog 14 #[.int .u32 v] w fun e w' => e = .returned (.string (bs (sumL v))) ∧ Below w.heap.size w w' := by
  have hs := (Blk.new w 5 (byt [v / 16777216, v / 65536 % 256, v / 256 % 256, v % 256])).string (P := Tryd.prog) Tryd.underlying39 Tryd.underlying5 Tryd.underlying9 4 4 rfl
  rw [sumPut_nums v h0 h1] at hs
  simp only [byt, List.map_cons, List.map_nil] at hs
  go_enter Tryd.func14, Tryd.ntmps14
  go_wp2
  go_ret
  exact ⟨rfl, bel_alloc (Below.refl _ _) _⟩

/-! ### sector, Encode -/
def zs (n : Nat) : List UInt8 := List.replicate n 0
theorem zs_length (n : Nat) : (zs n).length = n := List.length_replicate
theorem repeat_calls (c : Nat) (hc : c ≤ 1000) (w : World) :
    Calls Tryd.prog 9 #[.string ⟨#[0]⟩, .int .i64 c] w fun e w' => e = .returned (.string (bs (zs c))) ∧ Below w.heap.size w w' := by
  have h := Tryd.strings_Repeat ⟨#[0]⟩ c w (by omega) (by simp [ByteArray.size]; omega)
  refine h.mono fun e w' ⟨he, hb⟩ => ⟨?_, hb⟩
  rw [he]
  have : ∀ c, Lib.repeatL [0] c = List.replicate c (0 : UInt8) := by
    intro c
    induction c with
    | zero => rfl
    | succ c ih => rw [Lib.repeatL, ih]; rfl
  simp [bs, this, zs]
theorem repeat41 (w : World) : Calls Tryd.prog 9 #[.string ⟨#[0]⟩, .int .i64 41] w fun e w' => e = .returned (.string (bs (zs 41))) ∧ Below w.heap.size w w' := repeat_calls 41 (by omega) w
theorem repeat192 (w : World) : Calls Tryd.prog 9 #[.string ⟨#[0]⟩, .int .i64 192] w fun e w' => e = .returned (.string (bs (zs 192))) ∧ Below w.heap.size w w' := repeat_calls 192 (by omega) w
def sec (s : S6) : List UInt8 := secH s ++ sumL (add 0 (bs (secH s)))
theorem sec_length (s : S6) : (sec s).length = 64 := by simp [sec, secH_length, sumL, putL_length]
set_option maxHeartbeats 800000 in
theorem sector_calls (s : S6) (hs : goodB s = true) (w : World) (hG : Glob w) :
    Calls Tryd.prog 8 #[s.val] w fun e w' => e = .returned (.string (bs (sec s))) ∧ Below w.heap.size w w' := by
  obtain ⟨h1, h2, h3, h4, h5, h6, h7, h8, h9, h10, h11, h12⟩ := good_range hs
  obtain ⟨q, g, l, r, li, k⟩ := s
  have HS : Hid (sec ⟨q, g, l, r, li, k⟩ = secH ⟨q, g, l, r, li, k⟩ ++ sumL (add 0 (bs (secH ⟨q, g, l, r, li, k⟩)))) := rfl
  have HH : Hid (secH ⟨q, g, l, r, li, k⟩ = [85, 77, 66, 49] ++ putL q.toNat 4 ++ putL g.toNat 4 ++ putL l.toNat 2 ++ putL r.toNat 2 ++ putL li.toNat 2 ++ putL k.toNat 1 ++ List.replicate 41 0) := rfl
  clear hs
  simp only at h1 h2 h3 h4 h5 h6 h7 h8 h9 h10 h11 h12
  unfold S6.val
  obtain ⟨q, rfl⟩ := Int.eq_ofNat_of_zero_le (show 0 ≤ q by omega)
  obtain ⟨g, rfl⟩ := Int.eq_ofNat_of_zero_le (show 0 ≤ g by omega)
  obtain ⟨l, rfl⟩ := Int.eq_ofNat_of_zero_le (show 0 ≤ l by omega)
  obtain ⟨r, rfl⟩ := Int.eq_ofNat_of_zero_le (show 0 ≤ r by omega)
  obtain ⟨li, rfl⟩ := Int.eq_ofNat_of_zero_le (show 0 ≤ li by omega)
  obtain ⟨k, rfl⟩ := Int.eq_ofNat_of_zero_le (show 0 ≤ k by omega)
  simp only [Int.toNat_natCast] at HH
  go_enter Tryd.func8, Tryd.ntmps8
  go_wp2
  obtain ⟨W, hW⟩ : ∃ W : World, w.alloc (.cells #[.int .i64 q, .int .i64 g, .int .i64 l, .int .i64 r, .int .i64 li, .int .i64 k] 23) = W := ⟨_, rfl⟩
  have HB : Hid (Below w.heap.size w W) := by rw [← hW]; exact bel_alloc (Below.refl _ _) _
  have hb := Blk.new w 23 [.int .i64 q, .int .i64 g, .int .i64 l, .int .i64 r, .int .i64 li, .int .i64 k]
  rw [hW] at hb ⊢
  clear hW
  have hc0 : W.cell? ⟨w.heap.size, 0, none⟩ = some (.int .i64 q) := hb.cell 0
  have hc1 : W.cell? ⟨w.heap.size, 1, none⟩ = some (.int .i64 g) := hb.cell 1
  have hc2 : W.cell? ⟨w.heap.size, 2, none⟩ = some (.int .i64 l) := hb.cell 2
  have hc3 : W.cell? ⟨w.heap.size, 3, none⟩ = some (.int .i64 r) := hb.cell 3
  have hc4 : W.cell? ⟨w.heap.size, 4, none⟩ = some (.int .i64 li) := hb.cell 4
  have hc5 : W.cell? ⟨w.heap.size, 5, none⟩ = some (.int .i64 k) := hb.cell 5
  have a1 := run_bs (P := Tryd.prog) [85, 77, 66, 49] (putL q 4) (by simp [putL_length])
  have a2 := run_bs (P := Tryd.prog) ([85, 77, 66, 49] ++ putL q 4) (putL g 4) (by simp [putL_length])
  have a3 := run_bs (P := Tryd.prog) ([85, 77, 66, 49] ++ putL q 4 ++ putL g 4) (putL l 2) (by simp [putL_length])
  have a4 := run_bs (P := Tryd.prog) ([85, 77, 66, 49] ++ putL q 4 ++ putL g 4 ++ putL l 2) (putL r 2) (by simp [putL_length])
  have a5 := run_bs (P := Tryd.prog) ([85, 77, 66, 49] ++ putL q 4 ++ putL g 4 ++ putL l 2 ++ putL r 2) (putL li 2) (by simp [putL_length])
  have a6 := run_bs (P := Tryd.prog) ([85, 77, 66, 49] ++ putL q 4 ++ putL g 4 ++ putL l 2 ++ putL r 2 ++ putL li 2) (putL k 1) (by simp [putL_length])
  rw [show bs [85, 77, 66, 49] = ⟨#[85, 77, 66, 49]⟩ from rfl] at a1
  simp only [List.cons_append, List.nil_append, List.append_assoc] at a1 a2 a3 a4 a5 a6
  go_region_held3 (fun w' => Below w.heap.size w w' ∧ Blk w' w.heap.size 23 [.int .i64 q, .int .i64 g, .int .i64 l, .int .i64 r, .int .i64 li, .int .i64 k] ∧ w'.cell? ⟨w.heap.size, 0, none⟩ = some (.int .i64 q) ∧ w'.cell? ⟨w.heap.size, 1, none⟩ = some (.int .i64 g) ∧ w'.cell? ⟨w.heap.size, 2, none⟩ = some (.int .i64 l) ∧ w'.cell? ⟨w.heap.size, 3, none⟩ = some (.int .i64 r) ∧ w'.cell? ⟨w.heap.size, 4, none⟩ = some (.int .i64 li) ∧ w'.cell? ⟨w.heap.size, 5, none⟩ = some (.int .i64 k))
    (first | exact ⟨bel_drewN HB.out 1, hb, hc0, hc1, hc2, hc3, hc4, hc5⟩ | (have hx := held_blk (w := w) (g := w.heap.size) (t := 23) ‹_› ‹_›; exact ⟨hx.1, hx.2, hx.2.cell 0, hx.2.cell 1, hx.2.cell 2, hx.2.cell 3, hx.2.cell 4, hx.2.cell 5⟩))
    (first | (go_at_call 13; (with_reducible refine (put4 _ _).mono ?_); rintro e w' ⟨rfl, hb'⟩) | (go_at_call 13; (with_reducible refine (put2 _ _).mono ?_); rintro e w' ⟨rfl, hb'⟩) | (go_at_call 13; (with_reducible refine (put1 _ _).mono ?_); rintro e w' ⟨rfl, hb'⟩))
  have HB2 : Hid (Below w.heap.size w w') := by
    show Below w.heap.size w w'
    refine bel_then ?_ hb'
    repeat (first | exact bel_drewN HB.out 1 | refine bel_then ?_ (by assumption))
  clear a1 a2 a3 a4 a5 a6 hc0 hc1 hc2 hc3 hc4 hc5 hb HB
  have a7 := run_bs (P := Tryd.prog) (85 :: 77 :: 66 :: 49 :: (putL q 4 ++ (putL g 4 ++ (putL l 2 ++ (putL r 2 ++ (putL li 2 ++ putL k 1)))))) (zs 41) (by simp [putL_length, zs_length])
  have HH' : Hid (85 :: 77 :: 66 :: 49 :: (putL q 4 ++ (putL g 4 ++ (putL l 2 ++ (putL r 2 ++ (putL li 2 ++ putL k 1))))) ++ zs 41 = secH ⟨q, g, l, r, li, k⟩) := by
    rw [HH.out]; simp [Hid, zs]
  rw [HH'.out] at a7
  have hl := secH_length ⟨q, g, l, r, li, k⟩
  have hz := bs_size (secH ⟨q, g, l, r, li, k⟩)
  rw [hl] at hz
  have hr := add_range 0 (bs (secH ⟨q, g, l, r, li, k⟩)) (by omega) (by omega)
  have a8 := run_bs (P := Tryd.prog) (secH ⟨q, g, l, r, li, k⟩) (sumL (add 0 (bs (secH ⟨q, g, l, r, li, k⟩)))) (by rw [hl]; simp [sumL, putL_length])
  rw [← HS.out] at a8
  have r1 := hr.1
  have r2 := hr.2
  clear HH HH' HS hr hl
  obtain ⟨y, hy⟩ : ∃ y, sec ⟨q, g, l, r, li, k⟩ = y := ⟨_, rfl⟩
  rw [hy] at a8
  have HY := Lib.hid hy
  clear hy
  generalize secH ⟨q, g, l, r, li, k⟩ = x at *
  have hz' := Nat.le_of_eq hz
  clear hz
  go_wp2_with (first
    | (go_at_call 9; (with_reducible refine (repeat41 _).mono ?_); rintro e w1 ⟨rfl, hb1⟩)
    | (go_at_call 15; (with_reducible refine (sumOf_calls _ (by omega) _ (hG.below (bel_then HB2.out hb1))).mono ?_); rintro e w2 ⟨rfl, rfl⟩)
    | (go_at_call 14; (with_reducible refine (sumPut_calls _ r1 r2 _).mono ?_); rintro e w3 ⟨rfl, hb3⟩))
  go_ret
  exact ⟨by rw [HY.out]; rfl, bel_then (bel_then HB2.out hb1) hb3⟩

def enc (s : S6) : List UInt8 := sec s ++ zs 192
def encB (s : S6) : List UInt8 := if goodB s = true then enc s else []
theorem enc_length (s : S6) : (enc s).length = 256 := by rw [enc, List.length_append, sec_length, zs_length]
set_option maxHeartbeats 800000 in
theorem encode_calls (s : S6) (hl0 : -9223372036854775808 ≤ s.l) (hl1 : s.l ≤ 9223372036854775807) (w : World) (hG : Glob w) :
    Calls Tryd.prog 4 #[s.val] w fun e w' => e = .returned (.tuple #[.string (bs (encB s)), .bool (goodB s)]) ∧ Below w.heap.size w w' := by
  obtain ⟨q, g, l, r, li, k⟩ := s
  simp only at hl0 hl1
  have hgood := good_calls q g l r li k hl0 hl1
  have hsec := fun h W hW => sector_calls ⟨q, g, l, r, li, k⟩ h W hW
  have hz := sec_length ⟨q, g, l, r, li, k⟩
  have HE : Hid (encB ⟨q, g, l, r, li, k⟩ = if goodB ⟨q, g, l, r, li, k⟩ = true then sec ⟨q, g, l, r, li, k⟩ ++ zs 192 else []) := rfl
  unfold S6.val at hsec ⊢
  simp only at hsec ⊢
  generalize goodB ⟨q, g, l, r, li, k⟩ = b at *
  generalize sec ⟨q, g, l, r, li, k⟩ = y at *
  generalize encB ⟨q, g, l, r, li, k⟩ = z at *
  have Hg := Lib.hid hgood
  have Hs := Lib.hid hsec
  have a9 := run_bs (P := Tryd.prog) y (zs 192) (by rw [hz, zs_length]; omega)
  clear hgood hsec hz
  have HB1 := Lib.hid (bel_alloc (Below.refl w.heap.size w) (.cells #[.int .i64 q, .int .i64 g, .int .i64 l, .int .i64 r, .int .i64 li, .int .i64 k] 23))
  cases b
  · have HE' : Hid (z = []) := by rw [HE.out]; rfl
    clear HE a9
    go_enter Tryd.func4, Tryd.ntmps4
    go_wp2_with (first
      | (go_at_call 5; (with_reducible refine (Hg.out _).mono ?_); rintro e w1 ⟨rfl, hb1⟩))
    go_ret2
    exact ⟨by rw [HE'.out]; rfl, bel_then HB1.out hb1⟩
  · have HE' : Hid (z = y ++ zs 192) := by rw [HE.out]; rfl
    clear HE
    rw [← HE'.out] at a9
    clear HE'
    go_enter Tryd.func4, Tryd.ntmps4
    have hb0 := Blk.new w 23 [.int .i64 q, .int .i64 g, .int .i64 l, .int .i64 r, .int .i64 li, .int .i64 k]
    go_wp2_with (first
      | (go_at_call 5; (with_reducible refine (Hg.out _).mono ?_); rintro e w1 ⟨rfl, hb1⟩; have hq := hb0.below hb1 hb0.lt; have c0 := hq.cell 0; have c1 := hq.cell 1; have c2 := hq.cell 2; have c3 := hq.cell 3; have c4 := hq.cell 4; have c5 := hq.cell 5))
    ((with_reducible refine (Hs.out trivial _ (hG.below (bel_then HB1.out hb1))).mono ?_); rintro e w2 ⟨rfl, hb2⟩)
    go_wp2_with (first
      | (go_at_call 9; (with_reducible refine (repeat192 _).mono ?_); rintro e w3 ⟨rfl, hb3⟩))
    go_ret2
    exact ⟨rfl, bel_then (bel_then (bel_then HB1.out hb1) hb2) hb3⟩
end Go.Proofs.YtlipbpdigffajaaDoor.Sup
