/- What this text proves: slices.Backward at a list of writes: the contract of a range over it. -/
import Derived.RangeFuncNested
import Derived.RangeFuncBound
import Derived.RangeFuncCalls
import Derived.RangeFuncLeaves
import Derived.Shelf.Abstract
import Derived.Shelf.RegionOpen
import Derived.WalkKit
import Derived.OwnWalkIn
import Derived.TacticsInMore
import Derived.LoopNIn
import Derived.LoopIn
import Derived.Test.YtofmlmgdbcjeoaaDskD
namespace Go.Proofs.Ytofmlmgdbcjeoaa.Dsk
open Go Go.RowKit Go.Shelf Go.Proofs Go.Proofs.Ytofmlmgdbcjeoaa.Base

attribute [local go_sem] Oper.semAt_some

abbrev WX := Nat × ByteArray
def wat (l : List WX) (j : Nat) : WX := l[j]?.getD (0, ByteArray.empty)
/-- What comes at the j-th round. -/
def bwd (l : List WX) (j : Nat) : Nat × WX := (l.length - 1 - j, wat l (l.length - 1 - j))
def upto {α : Type} (f : Nat → α) (k : Nat) : List α := (List.range k).map f
theorem upto_succ {α : Type} (f : Nat → α) (k : Nat) : upto f (k + 1) = upto f k ++ [f k] := by simp [upto, List.range_succ]
theorem upto_length {α : Type} (f : Nat → α) (k : Nat) : (upto f k).length = k := by simp [upto]
def encW (x : Nat × WX) : Array Value := #[.int .i64 (x.1 : Int), .agg #[.int .i64 (x.2.1 : Int), .string x.2.2]]
/-- The slice value holds the writes, in a block below n₀ (or there are none). -/
def Lies (n₀ : Nat) (W : World) (A : Option Addr) (l : List WX) : Prop :=
  ∀ j, j < l.length → ∃ b, A = some ⟨b, 0, none⟩ ∧ b < n₀ ∧ W.cell? ⟨b, j * 2, none⟩ = some (.int .i64 ((wat l j).1 : Int)) ∧ W.cell? ⟨b, j * 2 + 1, none⟩ = some (.string (wat l j).2)
theorem Lies.below {n₀ : Nat} {X Y : World} (h : Below n₀ X Y) {A : Option Addr} {l : List WX} (hl : Lies n₀ X A l) : Lies n₀ Y A l := fun j hj =>
  let ⟨b, e, hb, h1, h2⟩ := hl j hj
  ⟨b, e, hb, (h.cell (p := ⟨b, j * 2, none⟩) hb).trans h1, (h.cell (p := ⟨b, j * 2 + 1, none⟩) hb).trans h2⟩

set_option maxRecDepth 100000 in
set_option maxHeartbeats 2000000 in
theorem backward1_in (F : Fence) (n : Nat) (hf : F.fn 70) (hro : F.round = none) (hn : 1 ≤ n) (l Bs n₀ : Nat) (A : Option Addr) (cap : Nat) (zs : List WX) (hlen : zs.length ≤ 1000000) (J Jx : List (Nat × WX) → World → Prop)
    (hY : ∀ pre x W, J pre W → pre.length < zs.length → YieldAt F (n - 1) Try.prog l (encW x) W fun e W' =>
      (e = .returned (.bool true) ∧ J (pre ++ [x]) W' ∧ Below n₀ W W') ∨ (e = .returned (.bool false) ∧ Jx (pre ++ [x]) W'))
    (W : World) (hBs : W.cell? ⟨Bs, 0, none⟩ = some (.slice A zs.length cap)) (hBn : Bs < n₀) (hc : Lies n₀ W A zs) (h0 : J [] W) :
    CallsIn F n Try.prog 70 #[.func (.yield l) #[] #[], .pointer (some ⟨Bs, 0, none⟩)] W fun e W' => (∃ v, e = .returned v) ∧
      ((∃ ys, ys = upto (bwd zs) zs.length ∧ J ys W') ∨ (∃ pre, (∃ k, k ≤ zs.length ∧ pre = upto (bwd zs) k) ∧ Jx pre W')) := by
  refine callsIn_of_wp Try.func70 rfl hf ?_ hro
  simp only [Try.ntmps70, List.size_toArray, List.length_cons, List.length_nil, Nat.reduceAdd, Nat.reduceSub, Array.replicate_succ, Array.replicate_zero, List.push_toArray, List.append_toArray, List.nil_append, List.cons_append]
  obtain ⟨m0, hm0⟩ : ∃ m : Nat, zs.length = m := ⟨_, rfl⟩
  rw [hm0] at hBs hlen
  have HB := Lib.hid hm0
  have hBs0 := hBs
  clear hm0
  gi_wp2
  gi_loopw [3] (fun i wr => ∃ (m : Nat) (z : Int), m ≤ m0 ∧ i = .int .i64 z ∧ z = (m : Int) - 1 ∧ J (upto (bwd zs) (zs.length - m)) wr ∧ Below n₀ W wr)
    (fun i _ => (intOf i + 1).toNat)
  case atStart => exact ⟨m0, (m0 : Int) - 1, Nat.le_refl _, by go_num, rfl, by rw [HB.out, Nat.sub_self]; exact h0, Below.refl _ _⟩
  case round =>
    obtain ⟨m, z, hm, rfl, hz, hJs, hnx⟩ := hrel
    have hBw := (hnx.cell (p := ⟨Bs, 0, none⟩) hBn).trans hBs0
    cases m with
    | zero =>
      have hz' : decide (0 ≤ z) = false := by simp; omega
      have hz2 : ¬ (0 ≤ z) := by omega
      clear hz
      gi_wp2
      go_end0
      exact ⟨⟨_, rfl⟩, .inl (by simpa using hJs)⟩
    | succ q =>
      obtain rfl : z = q := by omega
      have hq : q < zs.length := by rw [HB.out]; omega
      obtain ⟨b, hA, hb, e0, e1⟩ := hc.below hnx q hq
      subst hA
      have hx : bwd zs (zs.length - (q + 1)) = (q, wat zs q) := by unfold bwd; rw [show zs.length - 1 - (zs.length - (q + 1)) = q by omega]
      obtain ⟨fn, tmps, assign, body, hy, hR⟩ := hY _ (q, wat zs q) wr hJs (by rw [upto_length]; omega)
      simp only [encW] at hy
      have HX := Lib.hid hx
      have HQ := Lib.hid hq
      have HR := Lib.hid hR
      have HZ := Lib.hid hnx
      obtain ⟨y, hwy⟩ : ∃ y, wat zs q = y := ⟨_, rfl⟩
      rw [hwy] at hy e0 e1
      have HW := Lib.hid hwy
      clear hx hR hnx hJs hwy hz hc h0 hY
      have hqm : (q : Int) < m0 := by omega
      gi_wp2
      have hx := HX.out; have hq := HQ.out; have hR := HR.out; have hnx := HZ.out
      refine hR.mono ?_
      rw [← hx]
      rintro e W3 (⟨rfl, hJ3, hk3⟩ | ⟨rfl, hJx3⟩)
      · gi_wp2
        go_roundw
        case rel => exact ⟨q, (q : Int) - 1, by omega, by go_num, rfl, by rw [show zs.length - q = zs.length - (q + 1) + 1 by omega, upto_succ]; exact hJ3, hnx.trans hk3⟩
        case measure => simp [intOf]
      · gi_wp2
        refine bodyPost_ret (results_none rfl _ _ _) rfl ?_
        exact ⟨⟨_, rfl⟩, .inr ⟨_, ⟨zs.length - (q + 1) + 1, by omega, (upto_succ _ _).symm⟩, hJx3⟩⟩

set_option maxHeartbeats 1000000 in
theorem backward_in (F : Fence) (n : Nat) (hf : F.fn 62) (hro : F.round = none) (a : Option Addr) (len cap : Nat) (w : World) :
    CallsIn F n Try.prog 62 #[.slice a len cap] w fun e w' => e = .returned (.func (.func 70) #[] #[.pointer (some ⟨w.heap.size, 0, none⟩)]) ∧ w' = w.alloc (.cells #[.slice a len cap] 41) := by
  refine callsIn_of_wp Try.func62 rfl hf ?_ hro
  simp only [Try.ntmps62, List.size_toArray, List.length_cons, List.length_nil, Nat.reduceAdd, Nat.reduceSub, Array.replicate_succ, Array.replicate_zero, List.push_toArray, List.append_toArray, List.nil_append, List.cons_append]
  gi_wp2
  go_ret
  exact ⟨rfl, rfl⟩
theorem backward_stops (F : Fence) (n : Nat) (hf : F.fn 70) (hro : F.round = none) (hn : 1 ≤ n) (Bs n₀ : Nat) (A : Option Addr) (cap : Nat) (zs : List WX) (hlen : zs.length ≤ 1000000) (w : World) (hn₀ : n₀ ≤ w.heap.size) (hBn : Bs < n₀)
    (hc : w.cell? ⟨Bs, 0, none⟩ = some (.slice A zs.length cap)) (hI : Lies n₀ w A zs) :
    SeqStopsK F n Try.prog 70 #[.pointer (some ⟨Bs, 0, none⟩)] encW (Below n₀) (fun ys => ys = upto (bwd zs) zs.length)
      (fun pre => ∃ k, k ≤ zs.length ∧ pre = upto (bwd zs) k) zs.length w := fun l J Jx W hW _ _ hY h0 =>
  backward1_in F n hf hro hn l Bs n₀ A cap zs hlen J Jx hY W ((hW.cell (p := ⟨Bs, 0, none⟩) (Nat.lt_of_lt_of_le hBn hn₀)).trans hc) hBn (hI.below (hW.mono hn₀)) h0

/-! ### What is read of a page: what was written last -/
theorem putW_skip (x : Nat) (l : List WX) : ∀ st : List ByteArray, (∀ y ∈ l, y.1 ≠ x) → (putW st l)[x]? = st[x]? := by
  induction l with
  | nil => intro st _; rfl
  | cons y l ih =>
    intro st h
    rw [show putW st (y :: l) = putW (st.set y.1 y.2) l from rfl, ih _ (fun z hz => h z (by simp [hz])), List.getElem?_set_ne (h y (by simp))]
theorem putW_append (l m : List WX) (st : List ByteArray) : putW st (l ++ m) = putW (putW st l) m := by simp [putW, List.foldl_append]
theorem wat_get (l : List WX) (j : Nat) (h : j < l.length) : wat l j = l[j] := by simp [wat, h]
theorem putW_none (st : List ByteArray) (l : List WX) (x : Nat) (h : ∀ p ∈ upto (bwd l) l.length, p.2.1 ≠ x) : (putW st l)[x]? = st[x]? := by
  refine putW_skip x l st fun y hy => ?_
  obtain ⟨j, hj, rfl⟩ := List.getElem_of_mem hy
  have := h (bwd l (l.length - 1 - j)) (by simp only [upto, List.mem_map, List.mem_range]; exact ⟨_, by omega, rfl⟩)
  unfold bwd at this
  rw [show l.length - 1 - (l.length - 1 - j) = j by omega, wat_get l j hj] at this
  exact this
theorem putW_hit (st : List ByteArray) (l : List WX) (x k : Nat) (hx : x < st.length) (hk : k < l.length) (h : ∀ p ∈ upto (bwd l) k, p.2.1 ≠ x) (he : (bwd l k).2.1 = x) : (putW st l)[x]? = some (bwd l k).2.2 := by
  have hq : l.length - 1 - k < l.length := by omega
  have e : l = l.take (l.length - 1 - k) ++ (l[l.length - 1 - k] :: l.drop (l.length - 1 - k + 1)) := by rw [← List.drop_eq_getElem_cons hq, List.take_append_drop]
  have hw : (bwd l k).2 = l[l.length - 1 - k] := by unfold bwd; rw [wat_get l _ hq]
  rw [hw] at he ⊢
  generalize l[l.length - 1 - k] = y at *
  rw [e, putW_append, show putW (putW st (l.take (l.length - 1 - k))) (y :: l.drop (l.length - 1 - k + 1)) = putW ((putW st (l.take (l.length - 1 - k))).set y.1 y.2) (l.drop (l.length - 1 - k + 1)) from rfl]
  rw [putW_skip x]
  · rw [he, List.getElem?_set_self (by rw [putW_length]; exact hx)]
  · intro z hz
    obtain ⟨j, hj, rfl⟩ := List.getElem_of_mem hz
    rw [List.getElem_drop]
    have hj' : j < k := by rw [List.length_drop] at hj; omega
    have := h (bwd l (k - 1 - j)) (by simp only [upto, List.mem_map, List.mem_range]; exact ⟨_, by omega, rfl⟩)
    unfold bwd at this
    simp only at this
    rw [show l.length - 1 - (k - 1 - j) = l.length - 1 - k + 1 + j by omega, wat_get l _ (by omega)] at this
    exact this
end Go.Proofs.Ytofmlmgdbcjeoaa.Dsk
