/- What this text proves: rows of memory that a call owns; worlds that differ in a set of blocks alone; small laws for arguments. -/
import Derived.Test.YtgpnceaplakemaaBase
import Derived.Deep.DeepCutAuto
import Derived.Laws.OwnMore
import Derived.OwnWalk
import Derived.Maps.AppendAt
import Derived.ChangeSlices
namespace Go.Proofs.Ytgpnceaplakemaa.Own
open Go Go.RowKit Go.ChangeShapes Go.Proofs.Ytgpnceaplakemaa.Base

theorem own_form {w : World} {B : Nat} {e : TypeId} {size n : Nat} {v : Value} {xs : List Value} (h : w.ownsRow B e size v n xs) : ∃ A c, v = .slice A n c := by
  rcases h.2 with ⟨rfl, e⟩ | ⟨g', cap, cur, rfl, _⟩
  · exact ⟨none, 0, by rw [e]⟩
  · exact ⟨_, cap, rfl⟩
theorem own_cell {w : World} {B : Nat} {e : TypeId} {size n : Nat} {A : Option Addr} {c : Nat} {xs : List Value} (h : w.ownsRow B e size (.slice A n c) n xs) (hn : 0 < n) : ∃ b, A = some ⟨b, 0, none⟩ ∧ B ≤ b ∧ ∀ j, j < n * size → w.cell? ⟨b, j, none⟩ = xs[j]? := by
  rcases h.2 with ⟨_, e⟩ | ⟨g', cap, cur, hv, hb, _⟩
  · omega
  · injection hv with hA _ hc
    subst hA hc
    exact ⟨g', rfl, hb, fun j hj => h.cellAt j hj⟩
theorem own_lt {w : World} {B : Nat} {e : TypeId} {size n : Nat} {v : Value} {xs : List Value} (h : w.ownsRow B e size v n xs) (k : Nat) (hk : v.ownBlock = some k) : B ≤ k ∧ k < w.heap.size := by
  rcases h.2 with ⟨rfl, _⟩ | ⟨g, cap, cur, rfl, hb, hh, _⟩
  · simp [Value.ownBlock] at hk
  · have : g = k := by simpa [Value.ownBlock] using hk
    subst this
    exact ⟨hb, (Array.getElem?_eq_some_iff.1 hh).1⟩
theorem own_below {w w1 : World} {B : Nat} {e : TypeId} {size n : Nat} {v : Value} {xs : List Value} (h : w.ownsRow B e size v n xs) (hb : Below w.heap.size w w1) : w1.ownsRow B e size v n xs :=
  h.kept (row := none) ⟨hb.os, hb.tape, hb.output, hb.size, fun i hi _ => hb.block i hi⟩ (by cases v.ownBlock <;> simp)
theorem own_blk_ne {w : World} {B g : Nat} {e t : TypeId} {size n : Nat} {v : Value} {xs cs : List Value} (h : w.ownsRow B e size v n xs) (hg : Blk w g t cs) (hne : e ≠ t) : v.ownBlock ≠ some g := by
  rcases h.2 with ⟨rfl, _⟩ | ⟨g', cap, cur, rfl, _, hh, _⟩
  · simp [Value.ownBlock]
  · intro he
    have : g' = g := by simpa [Value.ownBlock] using he
    subst this
    unfold Blk at hg
    rw [hh] at hg
    injection hg with hg
    injection hg with _ ht
    exact hne ht
theorem own_own_ne {w : World} {B B' : Nat} {e e' : TypeId} {size n size' n' : Nat} {v v' : Value} {xs xs' : List Value} (h : w.ownsRow B e size v n xs) (h' : w.ownsRow B' e' size' v' n' xs') (hne : e ≠ e') : v.ownBlock = none ∨ v.ownBlock ≠ v'.ownBlock := by
  rcases h.2 with ⟨rfl, _⟩ | ⟨g, cap, cur, rfl, _, hh, _⟩
  · exact .inl rfl
  · refine .inr fun hk => ?_
    rcases h'.2 with ⟨rfl, _⟩ | ⟨g', cap', cur', rfl, _, hh', _⟩
    · simp [Value.ownBlock] at hk
    · have : g = g' := by simpa [Value.ownBlock] using hk
      subst this
      rw [hh] at hh'
      injection hh' with hh'
      injection hh' with _ ht
      exact hne ht
theorem own_set_far {w : World} {B g : Nat} {e : TypeId} {size n : Nat} {v : Value} {xs : List Value} (h : w.ownsRow B e size v n xs) (hne : v.ownBlock ≠ some g) (i : Nat) (u : Value) : (w.setCell ⟨g, i, none⟩ u).ownsRow B e size v n xs :=
  h.kept (row := some g) ⟨rfl, rfl, rfl, by simp [World.setCell], fun k _ hk => Below.heap_setCell w ⟨g, i, none⟩ u k (fun e => hk (congrArg some e))⟩ (.inr hne)
theorem low_set {B g : Nat} {w W : World} (h : Below B w W) (hg : B ≤ g) (i : Nat) (u : Value) : Below B w (W.setCell ⟨g, i, none⟩ u) := h.setCell (p := ⟨g, i, none⟩) hg u
theorem low_then {B : Nat} {w w1 w2 : World} (h : Below B w w1) (hB : B ≤ w1.heap.size) (k : Below w1.heap.size w1 w2) : Below B w w2 := h.trans (k.mono hB)

/-- Outside the set F no block that was there has changed. -/
structure Within (F : Nat → Prop) (w w' : World) : Prop where
  os : w'.os = w.os
  tape : w'.tape = w.tape
  output : w'.output = w.output
  size : w.heap.size ≤ w'.heap.size
  block : ∀ k, k < w.heap.size → ¬ F k → w'.heap[k]? = w.heap[k]?
theorem Within.refl (F : Nat → Prop) (w : World) : Within F w w := ⟨rfl, rfl, rfl, Nat.le_refl _, fun _ _ _ => rfl⟩
theorem Within.trans {F : Nat → Prop} {a b c : World} (h : Within F a b) (k : Within F b c) : Within F a c :=
  ⟨k.os.trans h.os, k.tape.trans h.tape, k.output.trans h.output, Nat.le_trans h.size k.size, fun i hi hF => (k.block i (Nat.lt_of_lt_of_le hi h.size) hF).trans (h.block i hi hF)⟩
theorem Within.bel {F : Nat → Prop} {a b : World} (h : Below a.heap.size a b) : Within F a b := ⟨h.os, h.tape, h.output, h.size, fun k hk _ => h.block k hk⟩
theorem Within.then {F : Nat → Prop} {a b c : World} (h : Within F a b) (k : Below b.heap.size b c) : Within F a c := h.trans (Within.bel k)
theorem Within.set {F : Nat → Prop} {a b : World} (h : Within F a b) {g : Nat} (hg : F g) (i : Nat) (u : Value) : Within F a (b.setCell ⟨g, i, none⟩ u) :=
  h.trans ⟨rfl, rfl, rfl, by simp [World.setCell], fun k _ hk => Below.heap_setCell _ ⟨g, i, none⟩ _ _ (fun e => hk (by rw [show k = g from e]; exact hg))⟩
theorem Within.alloc {F : Nat → Prop} {a b : World} (h : Within F a b) (o : Obj) : Within F a (b.alloc o) := h.then (bel_alloc (Below.refl _ _) o)
theorem Within.drew {F : Nat → Prop} {a b : World} (h : Within F a b) : Within F a b.drew := h.then (bel_drew (Below.refl _ _))
theorem Within.drewN {F : Nat → Prop} {a b : World} (h : Within F a b) (n : Nat) : Within F a (b.drewN n) := h.then (bel_drewN (Below.refl _ _) n)
theorem Within.grown {F : Nat → Prop} {a b c : World} {row : Option Nat} (h : Within F a b) (hg : b.grownBy c row) (hr : ∀ k, row = some k → F k) : Within F a c :=
  h.trans ⟨hg.os, hg.tape, hg.output, hg.size, fun k hk hF => hg.block k hk (fun e => hF (hr k e.symm))⟩
theorem Within.mono {F F' : Nat → Prop} {a b : World} (h : Within F a b) (hF : ∀ k, k < a.heap.size → F k → F' k) : Within F' a b :=
  ⟨h.os, h.tape, h.output, h.size, fun k hk hn => h.block k hk (fun e => hn (hF k hk e))⟩
theorem Within.below {F : Nat → Prop} {B : Nat} {a b : World} (h : Within F a b) (hB : B ≤ a.heap.size) (hF : ∀ k, F k → B ≤ k) : Below B a b :=
  ⟨h.os, h.tape, h.output, h.size, fun k hk => h.block k (by omega) (fun e => by have := hF k e; omega)⟩
theorem Within.blk {F : Nat → Prop} {a b : World} {g : Nat} {t : TypeId} {cs : List Value} (h : Within F a b) (hb : Blk a g t cs) (hg : ¬ F g) : Blk b g t cs := (h.block g hb.lt hg).trans hb

theorem own_base {w : World} {B B' : Nat} {e : TypeId} {size n : Nat} {v : Value} {xs : List Value} (h : w.ownsRow B e size v n xs) (hB : ∀ k, v.ownBlock = some k → B' ≤ k) : w.ownsRow B' e size v n xs :=
  ⟨h.1, h.2.imp id fun ⟨g, cap, cur, e, _, r⟩ => ⟨g, cap, cur, e, hB g (by rw [e]; rfl), r⟩⟩
theorem own_kept {w w1 : World} {B : Nat} {e : TypeId} {size n : Nat} {v : Value} {xs : List Value} (h : w.ownsRow B e size v n xs) (hk : ∀ k, v.ownBlock = some k → w1.heap[k]? = w.heap[k]?) : w1.ownsRow B e size v n xs :=
  ⟨h.1, h.2.imp id fun ⟨g, cap, cur, e, hb, hh, r⟩ => ⟨g, cap, cur, e, hb, (hk g (by rw [e]; rfl)).trans hh, r⟩⟩
theorem exists_list {α : Type} (P : Nat → α → Prop) : ∀ n : Nat, (∀ i, i < n → ∃ x, P i x) → ∃ l : List α, l.length = n ∧ ∀ i (hi : i < l.length), P i l[i] := by
  intro n
  induction n with
  | zero => intro _; exact ⟨[], rfl, fun i hi => absurd hi (by simp)⟩
  | succ n ih =>
    intro h
    obtain ⟨l, hl, hp⟩ := ih (fun i hi => h i (by omega))
    obtain ⟨x, hx⟩ := h n (by omega)
    refine ⟨l ++ [x], by simp [hl], fun i hi => ?_⟩
    by_cases e : i < l.length
    · rw [List.getElem_append_left e]
      exact hp i e
    · obtain rfl : i = n := by simp at hi; omega
      rw [List.getElem_append_right (by omega)]
      simp [hl, hx]
theorem spot_none {w : World} {a : Addr} {v : Value} (h : w.cell? a = some v) : a.spot = none := by
  unfold World.cell? at h
  split at h
  · split at h
    · cases h
    · rename_i hs
      simpa using hs
  · cases h
theorem add_none (b o j : Nat) : (⟨b, o, none⟩ : Addr).add j = ⟨b, o + j, none⟩ := by
  unfold Addr.add
  split
  · rename_i h
    subst h
    rfl
  · rfl
theorem add_zero' (a : Addr) : a.add 0 = a := by simp [Addr.add]
theorem byte_of {n : Int} (h : (Lit.int .u8 n).wf = true) : ∃ u : UInt8, n = (u.toNat : Int) := by
  have h' : 0 ≤ n ∧ n ≤ 255 := by
    simp [Lit.wf, IntKind.min, IntKind.max, IntKind.signed, IntKind.bits] at h
    omega
  refine ⟨UInt8.ofNat n.toNat, ?_⟩
  rw [UInt8.toNat_ofNat']
  omega
theorem own_off {w : World} {B n c : Nat} {e : TypeId} {size : Nat} {A : Option Addr} {xs : List Value} (h : w.ownsRow B e size (.slice A n c) n xs) : ∀ a, A = some a → ∃ b o, a = ⟨b, o, none⟩ := by
  rcases h.2 with ⟨h, _⟩ | ⟨g', cap, cur, hv, _⟩
  · injection h with h1 _ _
    intro a ha
    rw [h1] at ha
    cases ha
  · injection hv with h1 _ _
    intro a ha
    rw [h1] at ha
    injection ha with ha
    exact ⟨g', 0, ha.symm⟩
/-! ### Whole numbers in a row -/
def ints (l : List Int) : List Value := l.map (Value.int .i64)
theorem ints_length (l : List Int) : (ints l).length = l.length := by simp [ints]
theorem ints_get (l : List Int) (i : Nat) (h : i < l.length) : (ints l)[i]? = some (.int .i64 l[i]) := by simp [ints, h]
theorem ints_set (l : List Int) (i : Nat) (v : Int) : (ints l).set i (.int .i64 v) = ints (l.set i v) := by simp [ints, List.map_set]
theorem ints_snoc (l : List Int) (v : Int) : ints (l ++ [v]) = ints l ++ [.int .i64 v] := by simp [ints]
theorem ints_one (l : List Int) : ∀ u ∈ ints l, u.oneCell' = true := by
  intro u hu
  simp only [ints, List.mem_map] at hu
  obtain ⟨x, _, rfl⟩ := hu
  rfl
/-- A list of whole numbers, lying anywhere. -/
def IntArg (w : World) (A : Option Addr) (l : List Int) : Prop :=
  ∀ j (h : j < l.length), ∃ b o, A = some ⟨b, o, none⟩ ∧ b < w.heap.size ∧ w.cell? ⟨b, o + j, none⟩ = some (.int .i64 l[j])
theorem IntArg.below {w w1 : World} {A : Option Addr} {l : List Int} (h : IntArg w A l) (hb : Below w.heap.size w w1) : IntArg w1 A l := fun j hj =>
  let ⟨b, o, e, hl, hc⟩ := h j hj
  ⟨b, o, e, Nat.lt_of_lt_of_le hl hb.size, (hb.cell (p := ⟨b, o + j, none⟩) hl).trans hc⟩
theorem own_intArg {w : World} {B : Nat} {A : Option Addr} {n c : Nat} {l : List Int} (h : w.ownsRow B 3 1 (.slice A n c) n (ints l)) : IntArg w A l := by
  intro j hj
  have hn : n = l.length := by have := h.1; rw [ints_length] at this; omega
  obtain ⟨b, rfl, _, hc⟩ := own_cell h (by omega)
  refine ⟨b, 0, rfl, (own_lt h b rfl).2, ?_⟩
  rw [Nat.zero_add, hc j (by omega), ints_get _ _ hj]
theorem IntArg.news {w : World} {b o : Nat} {l : List Int} (h : IntArg w (some ⟨b, o, none⟩) l) : ∀ j u, (ints l)[j]? = some u → w.cell? ((⟨b, o, none⟩ : Addr).add j) = some u := by
  intro j u hj
  have hlt : j < l.length := by have := (List.getElem?_eq_some_iff.1 hj).1; simpa [ints] using this
  obtain ⟨b', o', e, _, hc⟩ := h j hlt
  obtain ⟨rfl, rfl⟩ : b = b' ∧ o = o' := by simpa using e
  rw [ints_get _ _ hlt] at hj
  rw [add_none, hc]
  exact hj
end Go.Proofs.Ytgpnceaplakemaa.Own
