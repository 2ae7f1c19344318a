/- What this text proves: sets of whole numbers as a map holds them; what left comes to. -/
import Derived.Test.YtgpnceaplakemaaAlC
import Derived.Maps.OwnSet
import Derived.Maps.OwnOps
import Derived.Maps.Views
namespace Go.Proofs.Ytgpnceaplakemaa.Hp
open Go Go.RowKit Go.ChangeShapes Go.Maps Go.Proofs.Ytgpnceaplakemaa.Base Go.Proofs.Ytgpnceaplakemaa.Own
set_option linter.unusedSimpArgs false

theorem law3 : Keyed Try.prog 3 := int_keyed Try.underlying3
theorem zero3 (w : World) : (zeroValue 3).run Try.prog w = .ok (.int .i64 0) w := by kernel_rfl
theorem key3 {x : Int} (h : -9223372036854775808 ≤ x ∧ x ≤ 9223372036854775807) : keyOf Try.prog 3 (.int .i64 x) = some (.int .i64 x) := keyOf_int_mk Try.underlying3 (by simp [Lit.wf, IntKind.min, IntKind.max, IntKind.signed, IntKind.bits]; omega)
/-- Block b is a map of at most n entries whose keys are the numbers of T. -/
def IsT (w : World) (b n : Nat) (T : List Int) : Prop :=
  ∃ D : DataW Unit, w.ownsMap Try.prog 3 (plainElem Try.prog 3) b n D ∧ ∀ x : Int, Maps.has D (.int .i64 x) = decide (x ∈ T)
theorem IsT.lt {w : World} {b n : Nat} {T : List Int} (h : IsT w b n T) : b < w.heap.size := h.elim fun _ h => h.1.lt
theorem IsT.keep {w w1 : World} {b n : Nat} {T : List Int} (h : IsT w b n T) (hk : w1.heap[b]? = w.heap[b]?) : IsT w1 b n T := by
  obtain ⟨D, ⟨es, clock, hb, r⟩, h2⟩ := h
  exact ⟨D, ⟨es, clock, hk.trans hb, r⟩, h2⟩
theorem IsT.below {w w1 : World} {b n : Nat} {T : List Int} (h : IsT w b n T) (hb : Below w.heap.size w w1) : IsT w1 b n T := h.keep (hb.block b h.lt)
theorem IsT.alloc {w : World} {b n : Nat} {T : List Int} (h : IsT w b n T) (o : Obj) : IsT (w.alloc o) b n T := h.below (bel_alloc (Below.refl _ _) o)
theorem isT_put {w1 : World} {b n : Nat} {T : List Int} {D : DataW Unit} {x : Int} {d : DataW Unit} (hI : Maps.IsMap D) (hD : ∀ x : Int, Maps.has D (.int .i64 x) = decide (x ∈ T)) (h1 : w1.ownsMap Try.prog 3 (plainElem Try.prog 3) b (n + 1) (D.put (.int .i64 x) d)) : IsT w1 b (n + 1) (T ++ [x]) := by
  refine ⟨_, h1, fun y => ?_⟩
  by_cases e : y = x
  · subst e
    rw [Maps.has_put_same hI (k := .int .i64 y) trivial]
    simp
  · rw [Maps.has_put_other (fun h => e (by injection h)) d, hD y]
    simp [e]
/-- The pages from the second on, as many as k, that are not taken. -/
def leftN (T : List Int) (k : Nat) : List Int := ((List.range k).map fun j => (2 : Int) + ((j : Nat) : Int)).filter fun v => !decide (v ∈ T)
def leftL (T : List Int) (len : Int) : List Int := leftN T (len - 2).toNat
theorem leftN_old {T : List Int} {k : Nat} (h : decide ((2 : Int) + k ∈ T) = true) : leftN T (k + 1) = leftN T k := by
  simp [leftN, List.range_succ, List.filter_append, of_decide_eq_true h]
theorem leftN_new {T : List Int} {k : Nat} (h : decide ((2 : Int) + k ∈ T) = false) : leftN T (k + 1) = leftN T k ++ [(2 : Int) + k] := by
  simp [leftN, List.range_succ, List.filter_append, of_decide_eq_false h]
theorem leftN_length (T : List Int) (k : Nat) : (leftN T k).length ≤ k := by
  unfold leftN
  exact Nat.le_trans (List.length_filter_le _ _) (by simp)
set_option maxHeartbeats 3200000 in
set_option maxRecDepth 100000 in
theorem left_calls (b n : Nat) (T : List Int) (len : Int) (w : World) (h : IsT w b n T) (h2 : 2 ≤ len) (h3 : len ≤ 200) :
    Calls Try.prog 36 #[.int .i64 len, .map (some b)] w fun e w' => ∃ v, e = .returned v ∧ w'.ownsRow w.heap.size 3 1 v (leftL T len).length (ints (leftL T len)) ∧ Below w.heap.size w w' := by
  obtain ⟨i0, hi, hz0, hz1, hz2⟩ := info_parts info3
  have HT := Lib.hid h
  have HL : Hid (leftL T len = leftN T (len - 2).toNat) := rfl
  obtain ⟨m, hm⟩ : ∃ m : Nat, (len - 2).toNat = m := ⟨_, rfl⟩
  have hlen : len = 2 + (m : Int) := by omega
  rw [hm] at HL
  subst hlen
  clear h hm h2
  go_enter Try.func36, Try.ntmps36
  go_wp2_with fail
  go_loopw [5, 6] (fun v i wr => ∃ k : Nat, k ≤ m ∧ i = .int .i64 (2 + (k : Int)) ∧ wr.ownsRow w.heap.size 3 1 v (leftN T k).length (ints (leftN T k)) ∧ Below w.heap.size w wr) (fun _ i _ => m + 2 - (intOf i).toNat)
  case atStart => exact ⟨0, Nat.zero_le _, rfl, ⟨rfl, .inl ⟨rfl, rfl⟩⟩, Below.refl _ _⟩
  case round =>
    obtain ⟨k, hk, rfl, ho, hl⟩ := hrel
    obtain ⟨A, c, rfl⟩ := own_form ho
    have O := Lib.hid ho; have L := Lib.hid hl
    have hkl := leftN_length T k
    clear ho hl
    by_cases hlt : k < m
    · have hkm : (2 : Int) + k < 2 + m := by omega
      obtain ⟨D, hown, hhas⟩ := HT.out.below L.out
      have hx := hhas (2 + (k : Int))
      have hkey := key3 (x := 2 + (k : Int)) (by omega)
      by_cases hin : (2 : Int) + k ∈ T
      · rw [decide_eq_true hin] at hx
        have X := Lib.hid (leftN_old (T := T) (k := k) (decide_eq_true hin))
        clear hin hhas
        go_wp2_with (first | (at_lookup; refine wpList_lookup_own_ok_int _ rfl _ _ 70 rfl 3 3 .i64 law3 Try.underlying70 Try.underlying3 (zero3 _) b n D rfl hown _ _ rfl hkey ?_; intro cc hat hwc; rw [hx]; clear hat hwc) | fail)
        exact ⟨⟨k + 1, by omega, by go_num, by rw [X.out]; exact O.out, L.out⟩, by simp [intOf]; omega⟩
      · rw [decide_eq_false hin] at hx
        have X := Lib.hid (leftN_new (T := T) (k := k) (decide_eq_false hin))
        have XL := Lib.hid (congrArg List.length X.out)
        have XI := Lib.hid (ints_snoc (leftN T k) (2 + (k : Int)))
        clear hin hhas
        generalize hq : (leftN T k).length = q at *
        have HQ := Lib.hid hq
        clear hq
        go_wp2_with (first | (at_lookup; refine wpList_lookup_own_ok_int _ rfl _ _ 70 rfl 3 3 .i64 law3 Try.underlying70 Try.underlying3 (zero3 _) b n D rfl hown _ _ rfl hkey ?_; intro cc hat hwc; rw [hx]; clear hat hwc) | (at_builtin; refine wpList_append_own_at _ rfl _ _ 22 rfl w.heap.size 3 i0 (.int .i64 0) 1 8 Try.underlying22 hi hz0 hz1 hz2 rfl (by decide) (.slice A q c) q (ints (leftN T k)) rfl (O.out.alloc _) ⟨wr.heap.size, 0, none⟩ 1 1 [.int .i64 (2 + (k : Int))] rfl rfl (World.news_of_block (cs := #[.int .i64 (2 + (k : Int))]) (t := 3) (fr := (0, 0)) (by simpa using heap_alloc_new _ _)) (by simp [Value.oneCell']) (by unfold maxLen; omega) (by omega) (by have := L.out.size; simp; omega) ?_; intro u' w4 hown4 hgr _ _; have L4 := Lib.hid (Below.grown (bel_alloc L.out _) hgr (by have := L.out.size; simp; omega) (fun j hj => (own_lt O.out j hj).1)); have O4 := Lib.hid hown4; obtain ⟨A', c', rfl⟩ := own_form hown4; clear hown4 hgr) | fail)
        exact ⟨⟨k + 1, by omega, by go_num, by rw [XL.out, X.out, XI.out]; simp only [List.length_append, List.length_singleton, HQ.out]; exact O4.out, L4.out⟩, by simp [intOf]; omega⟩
    · obtain rfl : k = m := by omega
      go_wp2_with fail
      go_ret
      exact ⟨_, rfl, by rw [HL.out]; exact O.out, L.out⟩
end Go.Proofs.Ytgpnceaplakemaa.Hp
