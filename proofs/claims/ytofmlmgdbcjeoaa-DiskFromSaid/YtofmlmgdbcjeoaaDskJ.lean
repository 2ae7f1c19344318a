/- What this text proves: a page of one byte; what a torn page is. -/
import Derived.Test.YtofmlmgdbcjeoaaDskI
namespace Go.Proofs.Ytofmlmgdbcjeoaa.Dsk
open Go Go.RowKit Go.Proofs.Ytofmlmgdbcjeoaa.Base

/-! ### Fill: a page of one byte -/
def pageL (v : UInt8) : List UInt8 := List.replicate 256 v
theorem pageL_length (v : UInt8) : (pageL v).length = 256 := List.length_replicate
theorem map_const_range (n : Nat) (c : Int) (v : UInt8) (h : UInt8.ofNat c.toNat = v) : ((List.range n).map (fun _ => c)).map (fun n => UInt8.ofNat n.toNat) = List.replicate n v := by
  apply List.ext_getElem <;> simp [h]
theorem pageL_row (v : UInt8) : strOfNums ((List.range 256).map (fun _ => (v.toNat : Int))) = bs (pageL v) := by
  rw [strOfNums_bs, map_const_range 256 _ v (by simp)]
  rfl
theorem info5 : (Try.prog.info? 5).map (fun i => (i.zero, i.size, i.bytes)) = some (some (.int .u8 0), 1, 1) := by kernel_rfl
set_option maxHeartbeats 800000 in
set_option maxRecDepth 100000 in
theorem fill_calls (v : UInt8) (w : World) :
    Calls Try.prog 14 #[.int .u8 v.toNat] w fun e w' => e = .returned (.string (bs (pageL v))) ∧ Below w.heap.size w w' := by
  obtain ⟨i0, hi, hz0, hz1, hz2⟩ := info_parts info5
  have hmk := run_make (P := Try.prog) w 23 5 i0 _ Try.underlying23 hi hz0 .i64 .i64 256 256 (by omega) (by omega) (by rw [hz2]; omega) (by omega)
  rw [hz1, Nat.mul_one] at hmk
  have hv := pageL_row v
  obtain ⟨f, hf⟩ : ∃ f : Nat → Int, (fun _ => (v.toNat : Int)) = f := ⟨_, rfl⟩
  have HF := Lib.hid (fun k => show f k = (v.toNat : Int) by rw [← hf])
  rw [hf, ← row_full] at hv
  have HV := Lib.hid hv
  clear hf hv
  have HB := Lib.hid (bel_alloc (Below.refl w.heap.size w) (.cells (madeCells #[Value.int .u8 0] 256) 5))
  have hb := Blk.new w 5 (byt (row f 256 0))
  rw [row_zero, ← madeCells_u8, ← row_zero f] at hb
  have HK := Lib.hid hb
  clear hb
  go_enter Try.func14, Try.ntmps14
  go_wp2
  go_loopw [4] (fun i wr => ∃ k : Nat, k ≤ 256 ∧ i = .int .i64 k ∧ Blk wr w.heap.size 5 (byt (row f 256 k)) ∧ Below w.heap.size w wr) (fun i _ => 256 - (intOf i).toNat)
  case atStart => exact ⟨0, Nat.zero_le _, rfl, HK.out, HB.out⟩
  case round =>
    obtain ⟨k, hk, rfl, hb, hB⟩ := hrel
    clear HB HK
    by_cases hlt : k < 256
    · have hc := hb.cell k
      rw [byt_get _ _ (by rw [row_length]; exact hlt)] at hc
      have hf := hb.frozen k
      go_wp2
      rw [← HF.out k]
      exact ⟨⟨k + 1, by omega, by go_num, by rw [← byt_row_set]; exact hb.set_ k _, bel_set hB (Nat.le_refl _) _ _⟩, by simp [intOf]; omega⟩
    · obtain rfl : k = 256 := by omega
      have hs := hb.string (P := Try.prog) Try.underlying23 Try.underlying5 Try.underlying9 256 256 (row_length _ _ _)
      rw [HV.out] at hs
      go_wp2
      go_ret
      exact ⟨rfl, hB⟩
end Go.Proofs.Ytofmlmgdbcjeoaa.Dsk
