/- What this text proves: the contracts of sum.Add and strings.Repeat, for every argument within the bounds that stand in their functions. -/
import Derived.Test.YtlipbpdigffajaaDoorProg
import Derived.WalkKit
import Derived.Lib.Hide
import Derived.Below
import Derived.WalkLawsBesides
import Derived.Laws.BitsAllLaws
import Derived.Test.YtlipbpdigffajaaDoorShelf
namespace Go.Proofs.YtlipbpdigffajaaDoor.Ext
open Go Go.RowKit
def steps : List Int := [0, 274646895, 549293790, 820201905, 1098587580, 1361435347, 1640403810, 1905808397, 2197175160, 2460548119, 2722870694, 2987750089, 3280807620, 3553878443, 3811616794, 4084100981]
def Glob (w : World) : Prop := ∀ i, i < 16 → w.cell? ⟨0, i, none⟩ = some (.int .u32 (steps.getD i 0))
def step (i : Int) : Int := steps.getD i.toNat 0
theorem step_range (i : Int) : 0 ≤ step i ∧ step i ≤ 4294967295 := by
  unfold step
  have h : ∀ j : Nat, 0 ≤ steps.getD j 0 ∧ steps.getD j 0 ≤ 4294967295 := by
    intro j
    by_cases hj : j < 16
    · have : ∀ j : Fin 16, 0 ≤ steps.getD j.1 0 ∧ steps.getD j.1 0 ≤ 4294967295 := by decide
      exact this ⟨j, hj⟩
    · rw [List.getD_eq_getElem?_getD, List.getElem?_eq_none (by simp [steps]; omega)]; simp
  exact h _
theorem x32 (a b : Int) (h1 : 0 ≤ a) (h2 : a ≤ 4294967295) (h3 : 0 ≤ b) (h4 : b ≤ 4294967295) : 0 ≤ bits .xor .u32 a b ∧ bits .xor .u32 a b ≤ 4294967295 := by
  rw [u32_xor a b h1 (by omega) h3 (by omega)]
  have := Nat.xor_lt_two_pow (n := 32) (x := a.toNat) (y := b.toNat) (by omega) (by omega)
  omega
theorem and15 (a : Int) (h1 : 0 ≤ a) (h2 : a ≤ 4294967295) : 0 ≤ bits .and .u32 a 15 ∧ bits .and .u32 a 15 < 16 := by
  rw [u32_and a 15 h1 (by omega) (by omega) (by omega)]
  have : a.toNat &&& (15 : Int).toNat ≤ 15 := Nat.and_le_right
  omega
/-- Four bits of a sum. -/
def nib (x : Int) : Int := bits .xor .u32 (x / 16) (step (bits .and .u32 x 15))
theorem nib_range (x : Int) (h0 : 0 ≤ x) (h1 : x ≤ 4294967295) : 0 ≤ nib x ∧ nib x ≤ 4294967295 :=
  x32 _ _ (by omega) (by omega) (step_range _).1 (step_range _).2
def nibs (x : Int) : Nat → Int
  | 0 => x
  | k + 1 => nib (nibs x k)
theorem nibs_range (x : Int) (h0 : 0 ≤ x) (h1 : x ≤ 4294967295) : ∀ k, 0 ≤ nibs x k ∧ nibs x k ≤ 4294967295
  | 0 => ⟨h0, h1⟩
  | k + 1 => nib_range _ (nibs_range x h0 h1 k).1 (nibs_range x h0 h1 k).2
def addByte (x b : Int) : Int := nibs (bits .xor .u32 x b) 2
def addTo (x : Int) (l : List UInt8) : Int := l.foldl (fun x b => addByte x b.toNat) x
theorem byte_u32 (b : UInt8) : ((b.toNat : Int)) % 4294967296 = b.toNat := by have := b.toNat_lt; omega
theorem addByte_range (x : Int) (b : UInt8) (h0 : 0 ≤ x) (h1 : x ≤ 4294967295) : 0 ≤ addByte x b.toNat ∧ addByte x b.toNat ≤ 4294967295 := by
  have hb := b.toNat_lt
  have := x32 x b.toNat h0 h1 (by omega) (by omega)
  exact nibs_range _ this.1 this.2 2
theorem addTo_range (l : List UInt8) : ∀ x : Int, 0 ≤ x → x ≤ 4294967295 → 0 ≤ addTo x l ∧ addTo x l ≤ 4294967295 := by
  induction l with
  | nil => intro x h0 h1; exact ⟨h0, h1⟩
  | cons b l ih => intro x h0 h1; have := addByte_range x b h0 h1; exact ih _ this.1 this.2
theorem addTo_snoc (x : Int) (s : ByteArray) (k : Nat) (h : k < s.size) : addTo x (s.data.toList.take (k + 1)) = addByte (addTo x (s.data.toList.take k)) s[k].toNat := by
  rw [List.take_succ_eq_append_getElem (by simpa using h)]
  simp [addTo, List.foldl_append]
  rfl
def add (c : Int) (s : ByteArray) : Int := bits .xor .u32 IntKind.u32.max (addTo (bits .xor .u32 IntKind.u32.max c) s.data.toList)
theorem max_u32 : IntKind.u32.max = 4294967295 := rfl
theorem add_range (c : Int) (s : ByteArray) (h0 : 0 ≤ c) (h1 : c ≤ 4294967295) : 0 ≤ add c s ∧ add c s ≤ 4294967295 := by
  have h2 := x32 IntKind.u32.max c (by rw [max_u32]; omega) (by rw [max_u32]; omega) h0 h1
  have h3 := addTo_range s.data.toList _ h2.1 h2.2
  exact x32 _ _ (by rw [max_u32]; omega) (by rw [max_u32]; omega) h3.1 h3.2
theorem take_all (s : ByteArray) : s.data.toList.take s.size = s.data.toList := List.take_of_length_le (Nat.le_refl _)
set_option maxHeartbeats 400000 in
theorem add_calls (c : Int) (s : ByteArray) (w : World) (hc0 : 0 ≤ c) (hc1 : c ≤ 4294967295) (hs : s.size ≤ 9223372036854775807) (hG : Glob w) :
    Calls Tryd.prog 23 #[.int .u32 c, .string s] w fun e w' => e = .returned (.int .u32 (add c s)) ∧ w = w' := by
  have hM := x32 IntKind.u32.max c (by rw [max_u32]; omega) (by rw [max_u32]; omega) hc0 hc1
  obtain ⟨m, hm⟩ : ∃ m, bits .xor .u32 IntKind.u32.max c = m := ⟨_, rfl⟩
  have HA : Hid (add c s = bits .xor .u32 IntKind.u32.max (addTo m s.data.toList)) := by rw [← hm]; exact rfl
  rw [hm] at hM
  have HR : Hid (∀ k, 0 ≤ addTo m (s.data.toList.take k) ∧ addTo m (s.data.toList.take k) ≤ 4294967295) := fun k => addTo_range _ m hM.1 hM.2
  have HG : Hid (Glob w) := hG
  clear hG hM
  go_enter Tryd.func23, Tryd.ntmps23
  go_wp2
  clear hm
  go_loop [0, 5, 10] (fun c _ i => ∃ k : Nat, k ≤ s.size ∧ i = .int .i64 k ∧ c = .int .u32 (addTo m (s.data.toList.take k))) (fun _ _ i => s.size - (intOf i).toNat)
  case atStart => exact ⟨0, Nat.zero_le _, rfl, rfl⟩
  case round =>
    obtain ⟨k, hk, rfl, rfl⟩ := hrel
    by_cases hlt : k < s.size
    · have HS := Lib.hid (addTo_snoc m s k hlt)
      have hr := HR.out k
      generalize addTo m (s.data.toList.take k) = x at *
      have hx0 := hr.1
      have hx1 := hr.2
      clear hr
      go_wp2
      have hy := x32 x s[k].toNat hx0 hx1 (by omega) (by have := s[k].toNat_lt; omega)
      have hb := byte_u32 s[k]
      rw [hb]
      have HS' : Hid (addTo m (s.data.toList.take (k + 1)) = nibs (bits .xor .u32 x s[k].toNat) 2) := HS.out
      clear hb HS
      generalize bits .xor .u32 x s[k].toNat = y at *
      have hy0 := hy.1
      have hy1 := hy.2
      clear hy
      go_loop [0, 19] (fun c i => ∃ k : Nat, k ≤ 2 ∧ i = .int .i64 k ∧ c = .int .u32 (nibs y k)) (fun _ i => 2 - (intOf i).toNat)
      case atStart => exact ⟨0, by omega, rfl, rfl⟩
      case round =>
        obtain ⟨j, hj, rfl, rfl⟩ := hrel
        by_cases hlt' : j < 2
        · have hz := nibs_range y hy0 hy1 j
          have HZ : Hid (nibs y (j + 1) = bits .xor .u32 (nibs y j / 16) (step (bits .and .u32 (nibs y j) 15))) := rfl
          generalize nibs y j = z at *
          have hz0 := hz.1
          have hz1 := hz.2
          have ha := and15 z hz0 hz1
          have hcell := HG.out (bits .and .u32 z 15).toNat (by omega)
          have hcell' : w.cell? ⟨0, (bits .and .u32 z 15).toNat, none⟩ = some (.int .u32 (step (bits .and .u32 z 15))) := hcell
          clear hz hcell
          have ha0 := ha.1
          have ha1 := ha.2
          clear ha
          go_wp2
          go_round
          case rel => exact ⟨j + 1, by omega, by go_num, by rw [HZ.out]⟩
          case measure => simp [intOf]; omega
        · go_wp2
          obtain rfl : j = 2 := by omega
          go_round
          case rel => exact ⟨k + 1, by omega, by go_num, by rw [HS'.out]⟩
          case measure => simp [intOf]; omega
    · go_wp2
      obtain rfl : k = s.size := by omega
      go_ret
      exact ⟨by rw [HA.out, take_all]; rfl, rfl⟩

theorem Glob.below {w w' : World} (h : Glob w) (hb : Below w.heap.size w w') : Glob w' := fun i hi =>
  (hb.cell (World.block_lt_of_cell? w _ (h i hi))).trans (h i hi)
/-- CRC-32C of a text behind a sum. -/
def sum_Add.f (c : Int) (s : ByteArray) : Option Int := if 0 ≤ c ∧ c ≤ 4294967295 ∧ s.size ≤ 9223372036854775807 then some (add c s) else none
theorem sum_Add.calls (c : Int) (s : ByteArray) (r : Int) (w : World) (hG : Glob w) (h : sum_Add.f c s = some r) :
    Calls Tryd.prog 23 #[.int .u32 c, .string s] w fun e w' => e = .returned (.int .u32 r) ∧ Below w.heap.size w w' := by
  unfold sum_Add.f at h
  split at h
  · rename_i hc
    obtain rfl := Option.some.inj h
    exact (add_calls c s w hc.1 hc.2.1 hc.2.2 hG).mono fun e w' ⟨he, hw⟩ => ⟨he, hw ▸ Below.refl _ _⟩
  · cases h
def strings_Repeat.f (s : ByteArray) (n : Int) : Option ByteArray := if 0 ≤ n ∧ s.size * n.toNat ≤ 140737488355328 ∧ n ≤ 9223372036854775807 then some ⟨(Lib.repeatL s.data.toList n.toNat).toArray⟩ else none
theorem strings_Repeat.calls (s : ByteArray) (n : Int) (r : ByteArray) (w : World) (h : strings_Repeat.f s n = some r) :
    Calls Tryd.prog 9 #[.string s, .int .i64 n] w fun e w' => e = .returned (.string r) ∧ Below w.heap.size w w' := by
  unfold strings_Repeat.f at h
  split at h
  · rename_i hc
    obtain rfl := Option.some.inj h
    obtain ⟨m, rfl⟩ := Int.eq_ofNat_of_zero_le hc.1
    exact Tryd.strings_Repeat s m w (by omega) hc.2.1
  · cases h
end Go.Proofs.YtlipbpdigffajaaDoor.Ext
