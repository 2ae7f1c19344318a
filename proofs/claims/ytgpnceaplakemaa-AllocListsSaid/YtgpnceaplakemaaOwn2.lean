/- What this text proves: append of a list of whole numbers that lies anywhere; a list of whole numbers among the arguments, opened. -/
import Derived.Test.YtgpnceaplakemaaOwn
import Derived.Laws.AppendOwnNone
import Derived.Deep.AppendLies
import Derived.WideShapes
import Derived.ChangeSlices
namespace Go.Proofs.Ytgpnceaplakemaa.Own
open Go Go.RowKit Go.ChangeShapes Go.WideShapes Go.Proofs.Ytgpnceaplakemaa.Base

theorem grown_refl (w : World) (row : Option Nat) : w.grownBy w row := ⟨rfl, rfl, rfl, Nat.le_refl _, fun _ _ _ => rfl⟩
theorem wpList_append_ints {P : Program} {w : World} {ops : Array Oper} {rest : List Oper} {o : Oper} {a : Act} {Q : Exit → Act → World → Prop} (hgd : o.guard = none) (s x : Operand) (t : TypeId)
    (ho : o.op = .call { callee := .builtin .append, args := #[s, x], argTypes := #[t, t] }) (base : Nat) (i : TypeInfo) (ht : P.underlying t = some (.slice 3)) (hi : P.info? 3 = some i) (hz : i.zero = some (.int .i64 0)) (hsize : i.size = 1) (hby : i.bytes = 8)
    (v : Value) (n : Nat) (xs : List Int) (hs : a.eval s = v) (hown : w.ownsRow base 3 1 v n (ints xs)) (A : Option Addr) (m c : Nat) (l : List Int) (hx : a.eval x = .slice A m c) (hl : l.length = m) (hsrc : IntArg w A l) (hA : A = none → l = [] ∧ c = 0) (hoff : ∀ a, A = some a → ∃ b o, a = ⟨b, o, none⟩)
    (hsz : n + m ≤ 1000000000) (hbase : base ≤ w.heap.size)
    (h : ∀ v' w', w'.ownsRow base 3 1 v' (n + m) (ints (xs ++ l)) → w.grownBy w' v.ownBlock → (v'.ownBlock = v.ownBlock ∨ v'.ownBlock = some w.heap.size) → wpList P ops Q rest (a.put o.dst v') w') :
    wpList P ops Q (o :: rest) a w := by
  cases A with
  | none =>
    obtain ⟨hl0, rfl⟩ := hA rfl
    subst hl0
    obtain rfl : m = 0 := hl.symm
    refine wpList_append_own_none hgd s x t ho base 3 i 1 ht hi v n (ints xs) hs hown hx ?_
    exact h v w (by rw [List.append_nil]; exact hown) (grown_refl w _) (.inl rfl)
  | some ad =>
    obtain ⟨b, o', rfl⟩ := hoff ad rfl
    refine wpList_append_own_at _ hgd s x t ho base 3 i (.int .i64 0) 1 8 ht hi hz hsize hby rfl (by decide) v n (ints xs) hs hown ⟨b, o', none⟩ m c (ints l) hx (by rw [ints_length, hl]; omega) hsrc.news (ints_one l) (by unfold maxLen; omega) (by omega) hbase ?_
    intro v' w' h1 h2 _ h4
    refine h v' w' ?_ h2 h4
    rw [show ints (xs ++ l) = ints xs ++ ints l by simp [ints]]
    exact h1
theorem made3 (w : World) : (w.alloc (.cells #[] 3)).ownsRow w.heap.size 3 1 (.slice (some ⟨w.heap.size, 0, none⟩) 0 0) 0 (ints []) :=
  World.ownsRow_made w #[] 0 (Nat.le_refl _) (Nat.zero_le _) rfl
section
variable {H : Type} {enc : TypeId × Value → H} {P : Program} {w : World} {base : Nat} {spare : Nat → Bool} {held : Bool} {r : Reach} {b0 : Nat}
theorem slice_spot {t e : TypeId} {a : Addr} {len cap : Nat} (ht : P.underlying t = some (.slice e)) (h : Value.okWide P w r b0 t (.slice (some a) len cap)) : a.spot = none := by
  simp only [Value.okWide, ht, Cell.okWide, Cell.ok] at h
  exact h.2.2.2.1
theorem slice_nil {t e : TypeId} {len cap : Nat} (ht : P.underlying t = some (.slice e)) (h : Value.okWide P w r b0 t (.slice none len cap)) : len = 0 ∧ cap = 0 := by
  simp only [Value.okWide, ht, Cell.okWide] at h
  unfold Cell.ok at h
  rw [ht] at h
  split at h <;> simp_all
/-- A list of whole numbers, as the statements' rows read it. -/
structure IntsIn (w : World) (A : Option Addr) (c : Nat) (l : List Int) : Prop where
  arg : IntArg w A l
  nil : A = none → l = [] ∧ c = 0
  off : ∀ a, A = some a → ∃ b o, a = ⟨b, o, none⟩
  wf : ∀ n ∈ l, -9223372036854775808 ≤ n ∧ n ≤ 9223372036854775807
  len : l.length ≤ maxLen
theorem IntsIn.below {w w1 : World} {A : Option Addr} {c : Nat} {l : List Int} (h : IntsIn w A c l) (hb : Below w.heap.size w w1) : IntsIn w1 A c l := ⟨h.arg.below hb, h.nil, h.off, h.wf, h.len⟩
theorem open_ints2 {t e : TypeId} {fuel : Nat} {v : Value} {x : DataW H × List MemPlace} (hval : ∀ A len cap, v = .slice A len cap → Value.okWide P w r b0 t v) (ht : P.underlying t = some (.slice e)) (he : P.underlying e = some (.int .i64)) (hc : P.cellsOf e = 1)
    (h : DataW.trod enc P w base spare held fuel t v.cells.toList = some x) (hv : v.cells = #[v]) : ∃ (A : Option Addr) (c : Nat) (l : List Int), v = .slice A l.length c ∧ IntsIn w A c l := by
  rw [hv] at h
  rcases open_ints ht he hc h with ⟨h0, _⟩ | ⟨a, len, cap, zs, h1, _, hl, hm, hz, _, hcell, hwf⟩
  · refine ⟨none, 0, [], by simpa using h0, fun j hj => absurd hj (by simp), fun _ => ⟨rfl, rfl⟩, (fun a ha => by cases ha), by simp, by simp [maxLen]⟩
  · have e1 : v = .slice (some a) len cap := by simpa using h1
    have hok := hval _ _ _ e1
    rw [e1] at hok
    have hsp := slice_spot ht hok
    have hz' : len ≤ zs.length := by rw [hz]; split <;> omega
    obtain ⟨b, o, s⟩ := a
    obtain rfl : s = none := hsp
    refine ⟨some ⟨b, o, none⟩, cap, zs.take len, by rw [e1, List.length_take]; simp; omega, fun j hj => ?_, (fun h => by cases h), fun a ha => ⟨b, o, by injection ha with ha; exact ha.symm⟩, fun n hn => ?_, by rw [List.length_take]; omega⟩
    · have hj' : j < len := by simp at hj; omega
      have := hcell j (by omega)
      rw [add_none] at this
      refine ⟨b, o, rfl, World.block_lt_of_cell? (a := ⟨b, o + j, none⟩) w this, ?_⟩
      simpa [List.getD_eq_getElem?_getD, List.getElem?_eq_getElem (show j < zs.length by omega)] using this
    · have h2 := hwf n (List.mem_of_mem_take hn)
      simp only [Lit.wf, Bool.and_eq_true, decide_eq_true_eq] at h2
      exact h2
end
end Go.Proofs.Ytgpnceaplakemaa.Own
