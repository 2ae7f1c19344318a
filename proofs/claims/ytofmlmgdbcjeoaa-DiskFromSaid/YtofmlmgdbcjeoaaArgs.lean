/- What this text proves: arguments opened: a list of pairs of bytes, a list of bytes, a list of texts, as cells of memory. -/
import Derived.Test.YtofmlmgdbcjeoaaDskY
import Derived.Test.YtofmlmgdbcjeoaaDskX
import Derived.Test.YtofmlmgdbcjeoaaDskT
import Derived.OpenShut
import Derived.ChangeSlices
import Derived.SliceStrings
namespace Go.Proofs.Ytofmlmgdbcjeoaa.Dsk
open Go Go.RowKit Go.ChangeShapes Go.Proofs Go.Proofs.Ytofmlmgdbcjeoaa.Base

theorem exists_list {α : Type} (P : Nat → α → Prop) : ∀ n : Nat, (∀ i, i < n → ∃ x, P i x) → ∃ l : List α, l.length = n ∧ ∀ i (hi : i < l.length), P i l[i] := by
  intro n
  induction n with
  | zero => intro _; exact ⟨[], rfl, fun i hi => absurd hi (by simp)⟩
  | succ n ih =>
    intro h
    obtain ⟨l, hl, hp⟩ := ih (fun i hi => h i (by omega))
    obtain ⟨x, hx⟩ := h n (by omega)
    refine ⟨l ++ [x], by simp [hl], fun i hi => ?_⟩
    by_cases e : i < l.length
    · rw [List.getElem_append_left e]
      exact hp i e
    · obtain rfl : i = n := by simp at hi; omega
      rw [List.getElem_append_right (by omega)]
      simp [hl, hx]
theorem spot_none {w : World} {a : Addr} {v : Value} (h : w.cell? a = some v) : a.spot = none := by
  unfold World.cell? at h
  split at h
  · split at h
    · cases h
    · rename_i hs
      simpa using hs
  · cases h
theorem add_none (b o j : Nat) : (⟨b, o, none⟩ : Addr).add j = ⟨b, o + j, none⟩ := by
  unfold Addr.add
  split
  · rename_i h
    subst h
    rfl
  · rfl
theorem add_zero' (a : Addr) : a.add 0 = a := by simp [Addr.add]
/-- A list of pairs of bytes, lying anywhere. -/
def PairArg (w : World) (A : Option Addr) (l : List (UInt8 × UInt8)) : Prop :=
  ∀ j (h : j < l.length), ∃ b o, A = some ⟨b, o, none⟩ ∧ b < w.heap.size ∧ w.cell? ⟨b, o + j * 2, none⟩ = some (.int .u8 l[j].1.toNat) ∧ w.cell? ⟨b, o + j * 2 + 1, none⟩ = some (.int .u8 l[j].2.toNat)
theorem PairArg.below {w w1 : World} {A : Option Addr} {l : List (UInt8 × UInt8)} (h : PairArg w A l) (hb : Below w.heap.size w w1) : PairArg w1 A l := fun j hj =>
  let ⟨b, o, e, hl, h1, h2⟩ := h j hj
  ⟨b, o, e, Nat.lt_of_lt_of_le hl hb.size, (hb.cell (p := ⟨b, o + j * 2, none⟩) hl).trans h1, (hb.cell (p := ⟨b, o + j * 2 + 1, none⟩) hl).trans h2⟩
section
variable {H : Type} {enc : TypeId × Value → H} {P : Program} {w : World} {base : Nat} {spare : Nat → Bool} {held : Bool}
theorem open_pairs {t e u : TypeId} {fuel : Nat} {v : Value} {x : DataW H × List MemPlace} (ht : P.underlying t = some (.slice e)) (he : P.underlying e = some (.array 2 u)) (hu : P.underlying u = some (.int .u8)) (hc : P.cellsOf e = 2) (hc' : P.cellsOf u = 1)
    (h : DataW.trod enc P w base spare held fuel t v.cells.toList = some x) (hv : v.cells = #[v]) : ∃ (A : Option Addr) (c : Nat) (l : List (UInt8 × UInt8)), v = .slice A l.length c ∧ PairArg w A l := by
  rw [hv] at h
  rcases DataW.trod_slice ht h with ⟨h0, _⟩ | ⟨a, len, cap, elems, rest, n, _, h1, _, hb, hl, hm, hlen, hel, _, _⟩
  · refine ⟨none, 0, [], by simpa using h0, fun j hj => absurd hj (by simp)⟩
  · have e1 : v = .slice (some a) len cap := by simpa using h1
    by_cases h00 : len = 0
    · subst h00
      exact ⟨some a, cap, [], e1, fun j hj => absurd hj (by simp)⟩
    have hsp : a.spot = none := by
      have h2 := hel 0 (by omega)
      rw [List.getElem?_eq_getElem (by omega), hc, Option.bind_eq_some_iff] at h2
      obtain ⟨cs, hcs, _⟩ := h2
      obtain ⟨_, hcl', hcell⟩ := World.cells?_some hcs
      have := hcell 0 (by omega)
      rw [Nat.zero_mul, add_zero', add_zero', List.getElem?_eq_getElem (by omega)] at this
      exact spot_none this
    obtain ⟨b, o, s⟩ := a
    obtain rfl : s = none := hsp
    have each : ∀ i, i < len → ∃ p : UInt8 × UInt8, w.cell? ⟨b, o + i * 2, none⟩ = some (.int .u8 p.1.toNat) ∧ w.cell? ⟨b, o + i * 2 + 1, none⟩ = some (.int .u8 p.2.toNat) := by
      intro i hi
      have h2 := hel i hi
      rw [List.getElem?_eq_getElem (by omega), hc, Option.bind_eq_some_iff, add_none] at h2
      obtain ⟨cs, hcs, hy⟩ := h2
      obtain ⟨xs, m, _, _, hcl, hxl, hg⟩ := DataW.trod_array he hy
      rw [hc] at hcl
      rw [hc'] at hg
      obtain ⟨_, hcl', hcell⟩ := World.cells?_some hcs
      match cs, hcl with
      | [c0, c1], _ =>
        have g0 := hg 0 (by omega)
        have g1 := hg 1 (by omega)
        rw [List.getElem?_eq_getElem (by omega)] at g0 g1
        simp only [Nat.zero_mul, List.drop_zero, List.take_succ_cons, List.take_zero, Nat.one_mul, List.drop_succ_cons] at g0 g1
        obtain ⟨n0, e0, _, w0⟩ := DataW.trod_int hu g0
        obtain ⟨n1, e1, _, w1⟩ := DataW.trod_int hu g1
        obtain ⟨u0, rfl⟩ := byte_of w0
        obtain ⟨u1, rfl⟩ := byte_of w1
        simp only [List.cons.injEq, and_true] at e0 e1
        subst e0 e1
        refine ⟨(u0, u1), ?_, ?_⟩
        · have := hcell 0 (by omega)
          rwa [add_none] at this
        · have := hcell 1 (by omega)
          rwa [add_none] at this
    obtain ⟨l, hll, hp⟩ := exists_list _ len each
    refine ⟨some ⟨b, o, none⟩, cap, l, by rw [e1, hll], fun j hj => ?_⟩
    have h2 := hp j (by omega)
    exact ⟨b, o, rfl, World.block_lt_of_cell? (a := ⟨b, o + j * 2, none⟩) w h2.1, h2.1, h2.2⟩
theorem open_bytes {t e : TypeId} {fuel : Nat} {v : Value} {x : DataW H × List MemPlace} {B : Nat} (ht : P.underlying t = some (.slice e)) (he : P.underlying e = some (.int .u8)) (hc : P.cellsOf e = 1)
    (h : DataW.trod enc P w base spare held fuel t v.cells.toList = some x) (hv : v.cells = #[v]) (hB : w.heap.size ≤ B) : ∃ (A : Option Addr) (c : Nat) (l : List Nat), v = .slice A l.length c ∧ ByteArg B w A l := by
  rw [hv] at h
  rcases open_ints ht he hc h with ⟨h0, _⟩ | ⟨a, len, cap, zs, h1, _, hl, _, hz, _, hcell, hwf⟩
  · exact ⟨none, 0, [], by simpa using h0, by simp, .inl rfl⟩
  · have e1 : v = .slice (some a) len cap := by simpa using h1
    have hz' : len ≤ zs.length := by rw [hz]; split <;> omega
    have hb : ∀ z ∈ zs, 0 ≤ z ∧ z ≤ 255 := by
      intro z hz
      obtain ⟨u, rfl⟩ := byte_of (hwf z hz)
      have := u.toNat_lt
      omega
    refine ⟨some a, cap, (zs.take len).map Int.toNat, by simp [e1]; omega, ?_, ?_⟩
    · intro c hc
      obtain ⟨z, hz, rfl⟩ := List.mem_map.1 hc
      have := hb z (List.mem_of_mem_take hz)
      omega
    · by_cases h0 : len = 0
      · exact .inl (by simp [h0])
      · have c0 := hcell 0 (by omega)
        rw [add_zero'] at c0
        have hs := spot_none c0
        obtain ⟨b, o, s⟩ := a
        obtain rfl : s = none := hs
        have hlt := World.block_lt_of_cell? (a := ⟨b, o, none⟩) w c0
        refine .inr ⟨b, o, rfl, .inl (by simp only at hlt; omega), hlt, fun j hj => ?_⟩
        have hj' : j < len := by simp at hj; omega
        have := hcell j (by omega)
        have hm := hb zs[j] (List.getElem_mem (by omega))
        simp only [List.getElem_map, List.getElem_take]
        rw [show ((zs[j].toNat : Nat) : Int) = zs[j] by omega]
        rw [add_none] at this
        simpa [List.getD_eq_getElem?_getD, List.getElem?_eq_getElem (show j < zs.length by omega)] using this
theorem open_texts {t e : TypeId} {fuel : Nat} {v : Value} {x : DataW H × List MemPlace} (ht : P.underlying t = some (.slice e)) (he : P.underlying e = some .string) (hc : P.cellsOf e = 1)
    (h : DataW.trod enc P w base spare held fuel t v.cells.toList = some x) (hv : v.cells = #[v]) : ∃ (A : Option Addr) (c : Nat) (l : List ByteArray), v = .slice A l.length c ∧ StrArg w A l ∧ (A = none → l = []) ∧ (∀ s ∈ l, s.size ≤ maxLen) ∧ l.length ≤ maxLen := by
  rw [hv] at h
  rcases open_strings ht he hc h with ⟨h0, _⟩ | ⟨a, len, cap, ss, h1, _, hl, hm, hz, _, hcell, hsz⟩
  · exact ⟨none, 0, [], by simpa using h0, fun j hj => absurd hj (by simp), fun _ => rfl, by simp, by simp [maxLen]⟩
  · have e1 : v = .slice (some a) len cap := by simpa using h1
    have hz' : len ≤ ss.length := by rw [hz]; split <;> omega
    refine ⟨some a, cap, ss.take len, by simp [e1]; omega, fun j hj => ?_, by simp, fun s hs => hsz s (List.mem_of_mem_take hs), by simp; omega⟩
    have hj' : j < len := by simp at hj; omega
    have this := hcell j (by omega)
    have c0 := hcell 0 (by omega)
    rw [add_zero'] at c0
    have hs := spot_none c0
    obtain ⟨b, o, s⟩ := a
    obtain rfl : s = none := hs
    rw [add_none] at this
    refine ⟨b, o, rfl, World.block_lt_of_cell? (a := ⟨b, o + j, none⟩) w this, ?_⟩
    simpa [List.getD_eq_getElem?_getD, List.getElem?_eq_getElem (show j < ss.length by omega)] using this
end
end Go.Proofs.Ytofmlmgdbcjeoaa.Dsk
