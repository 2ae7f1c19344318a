/- What this text proves: plain laws for the law AllocOnce. -/
import Derived.Test.YtgpnceaplakemaaLawLeast
import Derived.Laws.OwnMore
import Derived.Deep.RegionLaw
namespace Go.Proofs.Ytgpnceaplakemaa.Hp
open Go Go.RowKit Go.ChangeShapes Go.Maps Go.Proofs.Ytgpnceaplakemaa.Base Go.Proofs.Ytgpnceaplakemaa.Own
set_option linter.unusedSimpArgs false

theorem run_append_ints {P : Program} (w : World) (base : Nat) (t ty : TypeId) (i : TypeInfo) (ht : P.underlying t = some (.slice 3)) (hi : P.info? 3 = some i) (hz : i.zero = some (.int .i64 0)) (hsize : i.size = 1) (hby : i.bytes = 8)
    (v : Value) (n : Nat) (xs : List Int) (hown : w.ownsRow base 3 1 v n (ints xs)) (A : Option Addr) (m c : Nat) (l : List Int) (hl : l.length = m) (h : RowOf w A c l) (hsz : n + m ≤ 1000000000) (hbase : base ≤ w.heap.size) :
    ∃ v' w', (Builtin.append_ #[t, t] ty #[v, .slice A m c]).run P w = .ok v' w' ∧ w'.ownsRow base 3 1 v' (n + m) (ints (xs ++ l)) ∧ w.grownBy w' v.ownBlock ∧ (v'.ownBlock = v.ownBlock ∨ v'.ownBlock = some w.heap.size) := by
  cases A with
  | none =>
    obtain ⟨hl0, rfl⟩ := h.nil rfl
    subst hl0
    obtain rfl : m = 0 := hl.symm
    exact ⟨v, w, run_append_owned_none (P := P) (w := w) base t ty 3 i 1 ht hi v n (ints xs) hown, by rw [List.append_nil]; exact hown, grown_refl w _, .inl rfl⟩
  | some ad =>
    obtain ⟨b, o', rfl⟩ := h.off ad rfl
    obtain ⟨v', w', h1, h2, h3, _, h5⟩ := run_append_own_at (P := P) w base t ty 3 i (.int .i64 0) 1 8 ht hi hz hsize hby rfl (by decide) v n (ints xs) hown ⟨b, o', none⟩ m c (ints l) (by rw [ints_length, hl]; omega) h.arg.news (ints_one l) (by unfold maxLen; omega) (by omega) hbase
    refine ⟨v', w', h1, ?_, h3, h5⟩
    rw [show ints (xs ++ l) = ints xs ++ ints l by simp [ints]]
    exact h2
/-- append as one step of a region that draws its order, by what its run comes to. -/
theorem step_append_run {P : Program} {ops : Array Oper} {o : Oper} {a : Act} {w : World} {K : Act → World → Prop} {Q : Exit → Act → World → Prop} {E : Prop}
    (hg : o.guard = none) (s x : Operand) (t : TypeId) (hop : o.op = Op.call { callee := Callee.builtin Builtin.append, args := #[s, x], argTypes := #[t, t] })
    (v y v' : Value) (w' : World) (hs : a.eval s = v) (hx : a.eval x = y) (hrun : (Builtin.append_ #[t, t] o.type #[v, y]).run P w = .ok v' w') (hK : K (a.put o.dst v') w') :
    if Region.wanted o (yielded ops a.tmps) = true then Oper.wp P o a w K Q else E := by
  have hw : Region.wanted o (yielded ops a.tmps) = true := by simp [Region.wanted, hg]
  rw [if_pos hw]
  unfold Oper.wp
  simp [execOp, hop, resolve, invoke, builtin, hs, hx, hrun, Result.andThen]
  exact hK
def extL (len : Int) (m : Nat) : List Int := (List.range m).map fun j => len + ((j : Nat) : Int)
theorem extL_add (len : Int) (p q : Nat) : extL len p ++ extL (len + (p : Int)) q = extL len (p + q) := by
  unfold extL
  rw [List.range_add, List.map_append, List.map_map]
  congr 1
  apply List.map_congr_left
  intro j _
  simp
  omega
theorem all_one (free : List Int) (len : Int) (a : Nat) : tkL free len a ++ free.drop a = free ++ extL len (a - free.length) := by
  rcases Nat.lt_or_ge free.length a with h | h
  · simp [tkL, List.take_of_length_le (Nat.le_of_lt h), List.drop_of_length_le (Nat.le_of_lt h), extL]
  · simp [tkL, show a - free.length = 0 by omega, extL]
theorem all_two (free : List Int) (len : Int) (a b : Nat) : tkL free len a ++ (tkL (free.drop a) (len + ((a - free.length : Nat) : Int)) b ++ (free.drop a).drop b) = free ++ extL len (a + b - free.length) := by
  rw [all_one (free.drop a)]
  rcases Nat.lt_or_ge free.length a with h | h
  · rw [List.drop_of_length_le (Nat.le_of_lt h)]
    simp only [tkL, List.take_of_length_le (Nat.le_of_lt h), List.length_nil, Nat.sub_zero, List.nil_append]
    rw [show ((List.range (a - free.length)).map fun j => len + ((j : Nat) : Int)) = extL len (a - free.length) from rfl, List.append_assoc, extL_add, show a - free.length + b = a + b - free.length by omega]
  · rw [show a - free.length = 0 by omega]
    simp only [tkL, show a - free.length = 0 by omega, List.range_zero, List.map_nil, List.append_nil, List.length_drop, show (((0 : Nat) : Int)) = 0 from rfl, Int.add_zero]
    rw [← List.append_assoc, List.take_append_drop, show b - (free.length - a) = a + b - free.length by omega]
theorem good_drop {free : List Int} {len cap : Int} {a : Nat} (hg : aGood free len cap = true) (hc : len + ((a - free.length : Nat) : Int) ≤ cap) : aGood (free.drop a) (len + ((a - free.length : Nat) : Int)) cap = true := by
  obtain ⟨h1, h2, h3, h4⟩ := aGood_iff.1 hg
  rcases Nat.lt_or_ge free.length a with h | h
  · rw [List.drop_of_length_le (Nat.le_of_lt h)]
    exact aGood_iff.2 ⟨by omega, hc, h3, rfl⟩
  · rw [show a - free.length = 0 by omega]
    simp only [show (((0 : Nat) : Int)) = 0 from rfl, Int.add_zero]
    refine aGood_iff.2 ⟨h1, h2, h3, ?_⟩
    clear hc h hg h1 h2 h3
    induction a generalizing free with
    | zero => exact h4
    | succ a ih =>
      cases free with
      | nil => rfl
      | cons v r =>
        simp only [goodL, Bool.and_eq_true, decide_eq_true_eq] at h4
        exact ih (goodL_low (by omega) h4.2)
/-- What the inner loop knows: the page is none of those that were looked at. -/
def WasI (free : List Int) (len vj : Int) (q : Nat) (bb : Bool) : Prop := bb = false → vj < len ∧ ∀ r, r < q → free[r]? ≠ some vj
theorem wasI_step {free : List Int} {len vj fq : Int} {q : Nat} (h : WasI free len vj q false) (hq : free[q]? = some fq) : WasI free len vj (q + 1) (fq == vj) := by
  intro e
  obtain ⟨h1, h2⟩ := h rfl
  refine ⟨h1, fun r hr => ?_⟩
  by_cases hrq : r = q
  · subst hrq
    rw [hq]
    intro h
    injection h with h
    exact (beq_eq_false_iff_ne.1 e) h
  · exact h2 r (by omega)
/-- What is known of all pages together. -/
structure AllOk (free : List Int) (len x : Int) (all : List Int) (m : Nat) : Prop where
  cnt : all.length = free.length + m
  top : x = len + (m : Int)
  inn : ∀ v ∈ all, 2 ≤ v ∧ v < x
  was : ∀ v ∈ all, len ≤ v ∨ v ∈ free
  rise : all.Pairwise (· < ·)
theorem all_ok {free : List Int} {len cap : Int} (hg : aGood free len cap = true) (m : Nat) : AllOk free len (len + (m : Int)) (free ++ extL len m) m := by
  obtain ⟨h1, h2, h3, h4⟩ := aGood_iff.1 hg
  obtain ⟨h5, h6⟩ := goodL_all h4
  refine ⟨by simp [extL], rfl, fun v hv => ?_, fun v hv => ?_, ?_⟩
  · rcases List.mem_append.1 hv with h | h
    · have := h5 v h
      omega
    · obtain ⟨j, hj, rfl⟩ := List.mem_map.1 h
      have := List.mem_range.1 hj
      omega
  · rcases List.mem_append.1 hv with h | h
    · exact .inr h
    · obtain ⟨j, hj, rfl⟩ := List.mem_map.1 h
      exact .inl (by omega)
  · rw [List.pairwise_append]
    refine ⟨h6, ?_, fun u hu v hv => ?_⟩
    · unfold extL
      rw [List.pairwise_map]
      refine List.pairwise_lt_range.imp ?_
      intro a b hab
      omega
    · obtain ⟨j, _, rfl⟩ := List.mem_map.1 hv
      have := (h5 u hu).2
      omega
end Go.Proofs.Ytgpnceaplakemaa.Hp
