/- What this text proves: when a Space may be. -/
import Derived.Test.YtgpnceaplakemaaQkA
import Derived.Test.YtgpnceaplakemaaOwn2
namespace Go.Proofs.Ytgpnceaplakemaa.Hp
open Go Go.RowKit Go.Proofs.Ytgpnceaplakemaa.Base Go.Proofs.Ytgpnceaplakemaa.Own
set_option linter.unusedSimpArgs false

/-- Pages that rise behind the last one, all below the length. -/
def goodL (len : Int) : Int → List Int → Bool
  | _, [] => true
  | last, v :: r => decide (last < v) && decide (v < len) && goodL len v r
def aGood (free : List Int) (len cap : Int) : Bool := decide (2 ≤ len) && decide (len ≤ cap) && decide (cap ≤ 200) && goodL len 1 free
/-- A list of whole numbers in memory, as a slice has it. -/
structure RowOf (w : World) (A : Option Addr) (c : Nat) (l : List Int) : Prop where
  arg : IntArg w A l
  nil : A = none → l = [] ∧ c = 0
  off : ∀ a, A = some a → ∃ b o, a = ⟨b, o, none⟩
theorem RowOf.below {w w1 : World} {A : Option Addr} {c : Nat} {l : List Int} (h : RowOf w A c l) (hb : Below w.heap.size w w1) : RowOf w1 A c l := ⟨h.arg.below hb, h.nil, h.off⟩
theorem rowOf_in {w : World} {A : Option Addr} {c : Nat} {l : List Int} (h : IntsIn w A c l) : RowOf w A c l := ⟨h.arg, h.nil, h.off⟩
theorem rowOf_own {w : World} {B n c : Nat} {A : Option Addr} {l : List Int} (h : w.ownsRow B 3 1 (.slice A n c) n (ints l)) : RowOf w A c l := by
  refine ⟨own_intArg h, fun hA => ?_, own_off h⟩
  rcases h.2 with ⟨h1, h0⟩ | ⟨g', cap, cur, hv, _⟩
  · injection h1 with _ _ h3
    have := h.1
    rw [ints_length] at this
    exact ⟨List.eq_nil_of_length_eq_zero (by omega), h3⟩
  · rw [hA] at hv
    cases hv
set_option maxHeartbeats 3200000 in
set_option maxRecDepth 100000 in
theorem good_calls (A : Option Addr) (c : Nat) (free : List Int) (len cap : Int) (w : World) (h : RowOf w A c free) (hn : free.length ≤ 9223372036854775807) :
    Calls Try.prog 28 #[.agg #[.slice A free.length c, .int .i64 len, .int .i64 cap]] w fun e w' => e = .returned (.bool (aGood free len cap)) ∧ Below w.heap.size w w' := by
  obtain ⟨n, hnn⟩ : ∃ n, free.length = n := ⟨_, rfl⟩
  have HN := Lib.hid hnn; have HR := Lib.hid h
  rw [hnn] at hn ⊢
  clear hnn h
  have KB := Lib.hid (Blk.new w 41 [.slice A n c, .int .i64 len, .int .i64 cap])
  have LB := Lib.hid (bel_alloc (Below.refl w.heap.size w) (.cells #[.slice A n c, .int .i64 len, .int .i64 cap] 41))
  by_cases h1 : len < 2
  · have HG : Hid (aGood free len cap = false) := by simp [Hid, aGood]; intros; omega
    clear KB
    go_enter Try.func28, Try.ntmps28
    go_wp2_with fail
    go_ret
    exact ⟨by rw [HG.out]; rfl, LB.out⟩
  have h1' : decide (len < 2) = false := decide_eq_false h1
  by_cases h2 : cap < len
  · have HG : Hid (aGood free len cap = false) := by simp [Hid, aGood]; intros; omega
    have h2' : decide (cap < len) = true := decide_eq_true h2
    clear KB h1
    go_enter Try.func28, Try.ntmps28
    go_wp2_with fail
    go_ret
    exact ⟨by rw [HG.out]; rfl, LB.out⟩
  have h2' : decide (cap < len) = false := decide_eq_false h2
  by_cases h3 : 200 < cap
  · have HG : Hid (aGood free len cap = false) := by simp [Hid, aGood]; intros; omega
    have h3' : decide (200 < cap) = true := decide_eq_true h3
    clear KB h1 h2
    go_enter Try.func28, Try.ntmps28
    go_wp2_with fail
    go_ret
    exact ⟨by rw [HG.out]; rfl, LB.out⟩
  have h3' : decide (200 < cap) = false := decide_eq_false h3
  have HG : Hid (aGood free len cap = goodL len 1 free) := by
    unfold Hid aGood
    rw [decide_eq_true (show 2 ≤ len by omega), decide_eq_true (show len ≤ cap by omega), decide_eq_true (show cap ≤ 200 by omega)]
    rfl
  clear h1 h2 h3
  obtain ⟨W, hW⟩ : ∃ W, w.alloc (.cells #[.slice A n c, .int .i64 len, .int .i64 cap] 41) = W := ⟨_, rfl⟩
  have c0 := KB.out.cell 0; have c1 := KB.out.cell 1; have c2 := KB.out.cell 2
  rw [show w.alloc (.cells [Value.slice A n c, .int .i64 len, .int .i64 cap].toArray 41) = W from hW] at c0 c1 c2 KB
  rw [hW] at LB
  have HB := Lib.hid ((HR.out.below (w1 := W) LB.out).arg)
  go_enter Try.func28, Try.ntmps28
  go_upto_region 1 with fail
  clear hW
  go_wp2_with fail
  go_loopw [3, 24] (fun v i wr => ∃ (k : Nat) (last : Int), k ≤ n ∧ i = .int .i64 k ∧ v = .int .i64 last ∧ goodL len 1 free = goodL len last (free.drop k) ∧ W = wr) (fun _ i _ => n - (intOf i).toNat)
  case atStart => exact ⟨0, 1, Nat.zero_le _, rfl, rfl, rfl, rfl⟩
  case round =>
    obtain ⟨k, last, hk, rfl, rfl, hG, rfl⟩ := hrel
    have HGL := Lib.hid hG
    clear hG
    by_cases hlt : k < n
    · have hkl : k < free.length := by rw [HN.out]; exact hlt
      have hkn : (k : Int) < n := by omega
      obtain ⟨b, o, rfl, hb, hc⟩ := HB.out k hkl
      have hd := List.drop_eq_getElem_cons hkl
      generalize free[k] = v at *
      by_cases h4 : v ≤ last
      · have HF : Hid (aGood free len cap = false) := by
          unfold Hid
          rw [HG.out, HGL.out, hd]
          simp only [goodL, decide_eq_false (show ¬ last < v by omega), Bool.false_and]
        clear hd
        go_wp2_with fail
        go_ret
        exact ⟨by rw [HF.out]; rfl, LB.out⟩
      · by_cases h5 : len ≤ v
        · have HF : Hid (aGood free len cap = false) := by
            unfold Hid
            rw [HG.out, HGL.out, hd]
            simp only [goodL, decide_eq_false (show ¬ v < len by omega), Bool.false_and, Bool.and_false]
          have h4' : decide (v ≤ last) = false := decide_eq_false h4
          have h5' : decide (v ≥ len) = true := decide_eq_true h5
          clear hd h4
          go_wp2_with fail
          go_ret
          exact ⟨by rw [HF.out]; rfl, LB.out⟩
        · have HF : Hid (goodL len 1 free = goodL len v (free.drop (k + 1))) := by
            unfold Hid
            rw [HGL.out, hd]
            simp only [goodL, decide_eq_true (show last < v by omega), decide_eq_true (show v < len by omega), Bool.true_and]
          have h4' : decide (v ≤ last) = false := decide_eq_false h4
          have h5' : decide (v ≥ len) = false := decide_eq_false h5
          clear hd h4 h5
          go_wp2_with fail
          exact ⟨⟨k + 1, v, by omega, by go_num, rfl, HF.out, trivial⟩, by simp [intOf]; omega⟩
    · obtain rfl : n = k := by omega
      have HF : Hid (aGood free len cap = true) := by
        unfold Hid
        rw [HG.out, HGL.out, List.drop_of_length_le (by have := HN.out; omega)]
        rfl
      go_wp2_with fail
      go_ret
      exact ⟨by rw [HF.out]; rfl, LB.out⟩
end Go.Proofs.Ytgpnceaplakemaa.Hp
