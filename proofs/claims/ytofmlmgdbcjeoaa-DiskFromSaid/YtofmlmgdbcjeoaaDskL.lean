/- What this text proves: what a torn page is. -/
import Derived.Test.YtofmlmgdbcjeoaaDskK
namespace Go.Proofs.Ytofmlmgdbcjeoaa.Dsk
open Go Go.RowKit Go.Proofs Go.Proofs.Ytofmlmgdbcjeoaa.Base

/-- Sector i of the page. -/
def sect (o d : ByteArray) (c i : Nat) : ByteArray := (if c / 2 ^ i % 2 = 1 then d else o).extract (64 * i) (64 * (i + 1))
def sects (o d : ByteArray) (c k : Nat) : List ByteArray := (List.range 4).map fun j => if j < k then sect o d c j else ⟨#[]⟩
theorem and1 : ∀ e : Fin 256, bits BinOp.and IntKind.u8 ((e.val : Nat) : Int) 1 = ((e.val % 2 : Nat) : Int) := by decide +kernel
theorem bit_test (c k : Nat) (hc : c < 256) : (bits BinOp.and IntKind.u8 ((c : Int) / 2 ^ k) 1 == 1) = decide (c / 2 ^ k % 2 = 1) := by
  have hl : c / 2 ^ k < 256 := Nat.lt_of_le_of_lt (Nat.div_le_self _ _) hc
  have h := and1 ⟨c / 2 ^ k, hl⟩
  rw [show ((c : Int) / 2 ^ k) = ((c / 2 ^ k : Nat) : Int) by simp, h]
  generalize c / 2 ^ k = y at *
  rw [Bool.eq_iff_iff, beq_iff_eq, decide_eq_true_iff]
  simp only
  omega
theorem run_sect {P : Program} (w : World) (t : TypeId) (s : ByteArray) (k : Nat) (h : P.underlying t = some .string) (hs : s.size = 256) (hk : k < 4) :
    (Instr.slice t (.string s) (some (.int .i64 ((k : Int) * 64))) (some (.int .i64 (((k : Int) + 1) * 64))) none).run P w = .ok (.string (s.extract (64 * k) (64 * (k + 1)))) w := by
  rw [run_slice_string w t s .i64 .i64 _ _ h (by omega) (by omega) (by omega)]
  rw [show ((k : Int) * 64).toNat = 64 * k by omega, show (((k : Int) + 1) * 64).toNat = 64 * (k + 1) by omega]
theorem sects_length (o d : ByteArray) (c k : Nat) : (sects o d c k).length = 4 := by simp [sects]
theorem sects_at (o d : ByteArray) (c k j : Nat) (h : j < 4) : (sects o d c k)[j]? = some (if j < k then sect o d c j else ⟨#[]⟩) := by simp [sects, h]
theorem sects_set (o d : ByteArray) (c k : Nat) : (sects o d c k).set k (sect o d c k) = sects o d c (k + 1) := by
  apply List.ext_getElem?
  intro i
  rw [List.getElem?_set]
  by_cases hi : i < 4
  · rw [sects_at _ _ _ _ _ hi, sects_at _ _ _ _ _ hi, sects_length]
    by_cases e : k = i
    · subst e; rw [if_pos rfl, if_pos hi, if_pos (by omega)]
    · rw [if_neg e]
      by_cases h1 : i < k
      · rw [if_pos h1, if_pos (by omega)]
      · rw [if_neg h1, if_neg (by omega)]
  · rw [List.getElem?_eq_none (l := sects o d c k) (by rw [sects_length]; omega), List.getElem?_eq_none (l := sects o d c (k + 1)) (by rw [sects_length]; omega), sects_length]
    by_cases e : k = i
    · rw [if_pos e, if_neg (by omega)]
    · rw [if_neg e]
/-- The torn page. -/
def tornB (o d : ByteArray) (c : Nat) : ByteArray := ⟨(Lib.join ((sects o d c 4).map (·.data.toList)) []).toArray⟩
theorem join_empty (xs : List (List UInt8)) : Lib.join xs [] = xs.flatten := by
  cases xs with
  | nil => rfl
  | cons x r => rw [Lib.join_cons, Lib.joinTail]; simp
theorem sect_list (o d : ByteArray) (c i : Nat) : (sect o d c i).data.toList = ((if c / 2 ^ i % 2 = 1 then d else o).data.toList.drop (64 * i)).take 64 := by
  unfold sect
  rw [Lib.extract_eq]
  rw [show 64 * (i + 1) - 64 * i = 64 by omega]
theorem torn_list (o d : ByteArray) (c : Nat) : (tornB o d c).data.toList = (sect o d c 0).data.toList ++ ((sect o d c 1).data.toList ++ ((sect o d c 2).data.toList ++ (sect o d c 3).data.toList)) := by
  unfold tornB
  rw [join_empty]
  simp [sects, List.range_succ]
theorem sect_length (o d : ByteArray) (c i : Nat) (ho : o.size = 256) (hd : d.size = 256) (hi : i < 4) : (sect o d c i).data.toList.length = 64 := by
  rw [sect_list, List.length_take, List.length_drop]
  rw [Lib.size_eq] at ho hd
  split
  · rw [hd]; omega
  · rw [ho]; omega
theorem torn_size (o d : ByteArray) (c : Nat) (ho : o.size = 256) (hd : d.size = 256) : (tornB o d c).size = 256 := by
  rw [Lib.size_eq, torn_list]
  simp only [List.length_append, sect_length o d c _ ho hd (show 0 < 4 by omega), sect_length o d c _ ho hd (show 1 < 4 by omega), sect_length o d c _ ho hd (show 2 < 4 by omega), sect_length o d c _ ho hd (show 3 < 4 by omega)]
set_option maxHeartbeats 1600000 in
set_option maxRecDepth 100000 in
theorem torn_calls (o d : ByteArray) (c : Nat) (hc : c < 256) (ho : o.size = 256) (hd : d.size = 256) (w : World) :
    Calls Try.prog 44 #[.string o, .string d, .int .u8 c] w fun e w' => e = .returned (.string (tornB o d c)) ∧ Below w.heap.size w w' := by
  have HO := Lib.hid ho; have HD := Lib.hid hd; have HC := Lib.hid hc
  clear ho hd hc
  go_enter Try.func44, Try.ntmps44
  go_wp2
  go_loopw [10] (fun i wr => ∃ k : Nat, k ≤ 4 ∧ i = .int .i64 k ∧ Blk wr w.heap.size 96 (strs (sects o d c k)) ∧ Below w.heap.size w wr) (fun i _ => 4 - (intOf i).toNat)
  case atStart => exact ⟨0, Nat.zero_le _, rfl, Blk.new w 96 _, bel_alloc (Below.refl _ _) _⟩
  case round =>
    obtain ⟨k, hk, rfl, hb, hB⟩ := hrel
    by_cases hlt : k < 4
    · have hbk : wr.cell? ⟨w.heap.size, k, none⟩ = some (.string ⟨#[]⟩) := by rw [hb.cell k, strs_at _ _ (by rw [sects_length]; exact hlt)]; congr 2; have := sects_at o d c k k hlt; rw [if_neg (by omega), List.getElem?_eq_getElem (by rw [sects_length]; exact hlt)] at this; exact Option.some.inj this
      have hbf := hb.frozen k
      have so := run_sect (P := Try.prog) wr 9 o k Try.underlying9 HO.out hlt
      have sd := run_sect (P := Try.prog) wr 9 d k Try.underlying9 HD.out hlt
      have hbt := bit_test c k HC.out
      have HB := Lib.hid hb
      clear hb
      by_cases hbit : c / 2 ^ k % 2 = 1
      · have hs : Hid (sect o d c k = d.extract (64 * k) (64 * (k + 1))) := by simp [Hid, sect, hbit]
        rw [decide_eq_true hbit] at hbt
        clear hbit
        go_wp2
        exact ⟨⟨k + 1, by omega, by go_num, by rw [← sects_set, ← strs_set, hs.out]; exact HB.out.set_ k _, bel_set hB (Nat.le_refl _) _ _⟩, by simp [intOf]; omega⟩
      · have hs : Hid (sect o d c k = o.extract (64 * k) (64 * (k + 1))) := by simp [Hid, sect, hbit]
        rw [decide_eq_false hbit] at hbt
        clear hbit
        go_wp2
        exact ⟨⟨k + 1, by omega, by go_num, by rw [← sects_set, ← strs_set, hs.out]; exact HB.out.set_ k _, bel_set hB (Nat.le_refl _) _ _⟩, by simp [intOf]; omega⟩
    · obtain rfl : k = 4 := by omega
      have hsz := hb.lt
      have HJ := Lib.hid (Try.strings_Join w.heap.size 0 4 (sects o d c 4) ⟨#[]⟩ wr (fun j x hx => by rw [Nat.zero_add, hb.cell j]; simp [strs, hx]) hsz (by rw [sects_length]; omega) (by rw [sects_length]; omega) (by have := torn_size o d c HO.out HD.out; rw [Lib.size_eq] at this; unfold tornB at this; simp only at this; exact Nat.le_trans (Nat.le_of_eq this) (by omega)))
      rw [sects_length] at HJ
      clear hb
      go_wp2_with fail
      ((with_reducible refine HJ.out.mono ?_); rintro e w1 ⟨rfl, hl⟩)
      go_wp2_with fail
      go_ret
      exact ⟨rfl, bel_then hB hl⟩
end Go.Proofs.Ytofmlmgdbcjeoaa.Dsk
