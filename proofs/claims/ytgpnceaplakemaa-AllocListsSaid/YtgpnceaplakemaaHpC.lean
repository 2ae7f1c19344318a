/- What this text proves: what Push and Pop of a pile of numbers come to. -/
import Derived.Test.YtgpnceaplakemaaHpB
import Derived.Deep.AppendLies
namespace Go.Proofs.Ytgpnceaplakemaa.Hp
open Go Go.RowKit Go.Proofs.Ytgpnceaplakemaa.Base Go.Proofs.Ytgpnceaplakemaa.Own
set_option linter.unusedSimpArgs false

/-- The pile lies in block p, its row in a block of its own, both in F. -/
def IsP (F : Nat → Prop) (w : World) (p : Nat) (xs : List Int) : Prop :=
  F p ∧ ∃ v, Blk w p 60 [v] ∧ w.ownsRow 0 3 1 v xs.length (ints xs) ∧ (∀ k, v.ownBlock = some k → F k)
section
variable {F : Nat → Prop} {w w1 : World} {p : Nat} {xs : List Int}
theorem IsP.lt (h : IsP F w p xs) : p < w.heap.size := h.2.elim fun _ h => h.1.lt
theorem IsP.mono {F' : Nat → Prop} (h : IsP F w p xs) (hF : ∀ k, k < w.heap.size → F k → F' k) : IsP F' w p xs := by
  obtain ⟨hB, v, hb, h1, hF1⟩ := h
  exact ⟨hF p hb.lt hB, v, hb, h1, fun k hk => hF k (own_lt h1 k hk).2 (hF1 k hk)⟩
theorem IsP.keep (h : IsP F w p xs) (hk : ∀ k, k < w.heap.size → F k → w1.heap[k]? = w.heap[k]?) : IsP F w1 p xs := by
  obtain ⟨hB, v, hb, h1, hF1⟩ := h
  exact ⟨hB, v, (hk p hb.lt hB).trans hb, own_kept h1 (fun k e => hk k (own_lt h1 k e).2 (hF1 k e)), hF1⟩
theorem IsP.below (h : IsP F w p xs) (hb : Below w.heap.size w w1) : IsP F w1 p xs := h.keep fun k hk _ => hb.block k hk
theorem IsP.within {F' : Nat → Prop} (h : IsP F w p xs) (hb : Within F' w w1) (hd : ∀ k, k < w.heap.size → F k → ¬ F' k) : IsP F w1 p xs := h.keep fun k hk hF => hb.block k hk (hd k hk hF)
theorem IsP.alloc (h : IsP F w p xs) (o : Obj) : IsP F (w.alloc o) p xs := h.below (bel_alloc (Below.refl _ _) o)
end
theorem own_take {w : World} {B n c m : Nat} {A : Option Addr} {xs : List Int} (h : w.ownsRow B 3 1 (.slice A n c) n (ints xs)) (hm : m ≤ n) (hA : A ≠ none) : w.ownsRow B 3 1 (.slice A m c) m (ints (xs.take m)) := by
  have hl := row_len h
  refine ⟨by rw [ints_length, List.length_take]; omega, ?_⟩
  rcases h.2 with ⟨h1, _⟩ | ⟨g, cap, cur, hv, hb, hh, hc, hm2, hcs, ht⟩
  · injection h1 with h1
    exact absurd h1 hA
  · injection hv with e1 e2 e3
    subst e1 e3
    refine .inr ⟨g, c, cur, rfl, hb, hh, by omega, hm2, hcs, ?_⟩
    rw [Nat.mul_one] at ht ⊢
    rw [ints, List.map_take, show List.map (Value.int .i64) xs = ints xs from rfl, ← ht, List.take_take, Nat.min_eq_left hm]
theorem ta_int (v : Int) (w : World) : (Instr.typeAssert (.iface 3 (.int .i64 v)) 20 3 true).run Try.prog w = .ok (.tuple #[.int .i64 v, .bool true]) w := by kernel_rfl
theorem info3 : (Try.prog.info? 3).map (fun i => (i.zero, i.size, i.bytes)) = some (some (.int .i64 0), 1, 8) := by kernel_rfl
set_option maxHeartbeats 1600000 in
set_option maxRecDepth 100000 in
theorem push_calls (F : Nat → Prop) (p : Nat) (v : Int) (xs : List Int) (w : World) (h : IsP F w p xs) (hF : ∀ k, w.heap.size ≤ k → F k) (hn : xs.length ≤ 1000000) :
    Calls Try.prog 83 #[.pointer (some ⟨p, 0, none⟩), .iface 3 (.int .i64 v)] w fun e w' => e = .returned (.tuple #[]) ∧ IsP F w' p (xs ++ [v]) ∧ Within F w w' := by
  obtain ⟨i0, hi, hz0, hz1, hz2⟩ := info_parts info3
  obtain ⟨hB, u, hb, h1, hF1⟩ := h
  have cp := hb.cell 0; have fp := hb.frozen 0
  have HB := Lib.hid hb; have HO := Lib.hid h1; have HF1 := Lib.hid hF1; have HF := Lib.hid hF
  have hne := Lib.hid (own_blk_ne h1 hb (by decide))
  have HX := Lib.hid (ints_snoc xs v)
  have HL := Lib.hid (show (xs ++ [v]).length = xs.length + 1 by simp)
  clear hb h1 hF1 hF
  generalize xs.length = n at *
  generalize ints xs = ys at *
  go_enter Try.func83, Try.ntmps83
  have hta := ta_int v
  go_wp2_with (at_builtin; refine wpList_append_own_at _ rfl _ _ 60 rfl 0 3 i0 (.int .i64 0) 1 8 Try.underlying60 hi hz0 hz1 hz2 rfl (by decide) u n ys rfl (HO.out.alloc _) ⟨w.heap.size, 0, none⟩ 1 1 [.int .i64 v] rfl rfl (World.news_of_block (cs := #[.int .i64 v]) (t := 3) (fr := (0, 0)) (heap_alloc_new w _)) (by simp [Value.oneCell']) (by unfold maxLen; omega) (by omega) (Nat.zero_le _) ?_; intro u' w1 hown hgr _ hat; have K1 := Lib.hid ((HB.out.alloc (.cells #[.int .i64 v] 3)).grown hgr (Ne.symm hne.out)); have W1 := Lib.hid (((Within.refl F w).alloc (.cells #[.int .i64 v] 3)).grown hgr HF1.out); have O1 := Lib.hid hown; have AT := Lib.hid hat; obtain ⟨A', c', rfl⟩ := own_form hown; have z1 := K1.out.cell 0; have z2 := K1.out.frozen 0; clear hown hgr hat)
  go_end0
  refine ⟨rfl, ⟨hB, _, K1.out.set_ 0 _, ?_, fun k hk => ?_⟩, W1.out.set hB 0 _⟩
  · rw [HX.out, HL.out]
    exact own_set_far O1.out (own_blk_ne O1.out K1.out (by decide)) _ _
  · rcases AT.out with e | e
    · exact HF1.out k (by rw [← e]; exact hk)
    · rw [show Value.ownBlock _ = some k from hk] at e
      injection e with e
      rw [e]
      exact HF.out _ (by simp)
end Go.Proofs.Ytgpnceaplakemaa.Hp
