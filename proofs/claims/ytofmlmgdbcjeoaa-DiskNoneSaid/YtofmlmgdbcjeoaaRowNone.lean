/- What this text proves: the law DiskNone: at every step the call answers true and leaves its argument as it was. -/
import Derived.Test.YtofmlmgdbcjeoaaDskU
import Derived.Test.YtofmlmgdbcjeoaaDskX
import Derived.Test.YtofmlmgdbcjeoaaRows
import Derived.ProofKit
import Derived.OpenShut
import Derived.ChangeOld
import Derived.Carry
import Derived.SliceStrings
import Derived.ChangeSlices
import Derived.Deep.DeepHandedRow
namespace Go.Proofs.Ytofmlmgdbcjeoaa.fnDiskNone
open Go.ChangeShapes Go.WideShapes Go.ChangeAt Go.RowKit
open Go.Proofs.Ytofmlmgdbcjeoaa.Base Go.Proofs.Ytofmlmgdbcjeoaa.Dsk

theorem own : ownKnob Try.prog.godebug = none := by kernel_rfl
theorem laidOut : laidOutB Try.prog = true := by kernel_rfl
set_option maxRecDepth 100000 in
set_option maxHeartbeats 1000000 in
theorem contract (H : Type) (enc : TypeId × Value → H) (W : World) (base : Nat) (args : Array Value) (ds gs : List (DataW H)) (before : List MemPlace)
    (hval : ∀ (j : Nat) t v, Try.f9.params[j]? = some t → args[j]? = some v → Value.okWide Try.prog W .any base t v)
    (hW : DataW.Whole enc Try.prog Try.f9.params.toList Rows.diskNoneSpec.vars false W args.toList ds gs before) :
    Calls Try.prog 9 args W fun e W' => ∃ v, e = .returned v ∧ Rows.diskNoneSpec.post enc Try.prog Try.f9 false true false false W args v W' := by
  have hW' := hW
  obtain ⟨p, q, hA0, hV, rfl, hfz, hnd⟩ := hW
  have hA : DataW.TrodAll enc Try.prog W 0 (fun _ => true) true Try.f9.params.toList args.toList ds p := hA0
  rw [Try.params9] at hA hval
  obtain ⟨v0, vs0, d0, ds0, p0, q0, hargs, rfl, rfl, h0, r0⟩ := trodAll_cons hA
  obtain ⟨rfl, rfl, rfl⟩ := trodAll_nil r0
  obtain rfl : args = #[v0] := by cases args; simp_all
  obtain ⟨rfl, rfl⟩ := trodVars_none hV
  have lt0 : ∀ x ∈ p0, x.block < W.heap.size := by obtain ⟨m, hm⟩ := h0; exact DataW.trod_lt m _ _ _ hm
  have walk : Calls Try.prog 9 #[v0] W fun e w' => e = .returned (.bool true) ∧ Below W.heap.size W w' := by
    obtain ⟨cs, rfl, hsz⟩ := okWide_struct Try.underlying60 (hval 0 60 v0 rfl rfl)
    obtain ⟨l⟩ := cs
    match l, hsz.trans (show Try.prog.cellsOf 60 = 4 by kernel_rfl) with
    | [c0, c1, c2, c3], _ =>
      obtain ⟨fuel, hf⟩ := h0
      obtain ⟨xs, n, _, hx, _, hlen, hg⟩ := DataW.trod_struct Try.underlying60 hf
      match xs, hlen with
      | [y0, y1, y2, y3], _ =>
        obtain ⟨a0, e0, _, _⟩ := DataW.trod_int Try.underlying3 (hg 0 _ rfl)
        obtain ⟨a1, e1, _, _⟩ := DataW.trod_int Try.underlying3 (hg 1 _ rfl)
        obtain ⟨a2, e2, _, w2⟩ := DataW.trod_int Try.underlying5 (hg 2 _ rfl)
        have o3 := open_ints Try.underlying23 Try.underlying5 (show Try.prog.cellsOf 5 = 1 by kernel_rfl) (hg 3 _ rfl)
        simp [Value.cells, show Try.prog.cellsOf 3 = 1 by kernel_rfl, show Try.prog.cellsOf 5 = 1 by kernel_rfl, show Try.prog.cellsOf 23 = 1 by kernel_rfl] at e0 e1 e2 o3
        obtain ⟨u, rfl⟩ := byte_of w2
        subst e0 e1 e2
        rcases o3 with ⟨rfl, _⟩ | ⟨a, len, cap, rfl, _⟩
        · exact none_law a0 a1 u none 0 0 W
        · exact none_law a0 a1 u (some a) len cap W
  refine walk.mono fun e W' ⟨he, bel⟩ => ?_
  subst he
  exact ⟨_, rfl, _, _, _, [], _, [], hW', trodAll_mk1 (shut_bool Try.underlying4 _), trodAll_cons_mk (Below.trod laidOut (by kernel_rfl) (of_decide_eq_true (by kernel_rfl)) h0 bel lt0) trodAll_mk0, rfl, bel.frame _, fun h => by cases h⟩

noncomputable def w0 (os : Os) : World := World.holding Try.prog os ⟨#[], #[], []⟩
theorem reads (os : Os) {H : Type} (enc : TypeId × Value → H) : ∃ places, DataW.whole enc Try.prog ((w0 os).forCall (fun _ _ => 0) ⟨#[], #[.agg #[.int .i64 0, .int .i64 0, .int .u8 0, .slice none 0 0]], []⟩).memory Try.f9.params.toList Rows.diskNoneSpec.vars false #[.agg #[.int .i64 0, .int .i64 0, .int .u8 0, .slice none 0 0]].toList 8 = some ([.agg [.lit (.int .i64 0), .lit (.int .i64 0), .lit (.int .u8 0), .nil]], [], places) :=
  ⟨[], by kernel_rfl⟩

set_option maxRecDepth 100000 in
theorem lifted (os : Os) (started : os.Started) (H : Type) (enc : TypeId × Value → H) (F : Stop.Interp) :
    ReturnsInHanded {} Try.checked os 9 .any ((OpenSpec.ofChange Rows.diskNoneSpec).preRow enc Try.prog Try.f9 Rows.diskNoneRow.domain false Rows.diskNoneRow.laid) (((OpenSpec.ofChange Rows.diskNoneSpec).at F).post enc Try.prog Try.f9 false true false false) := by
  obtain ⟨places, hx⟩ := reads os enc
  refine returnsInHanded_of_row (C := Try.checked) (s := OpenSpec.ofChange Rows.diskNoneSpec) own started (by kernel_rfl) Try.func9
    (witness_row_at (enc := enc) (C := Try.checked) false (w0 os) #[.agg #[.int .i64 0, .int .i64 0, .int .u8 0, .slice none 0 0]] rfl (by kernel_rfl) (by kernel_rfl) (by kernel_rfl)
      (OpenSpec.preRow_of_cond 8 hx (by kernel_rfl) (fun k hk => by cases hk) (by kernel_rfl) (laidMet_nil _ _))) ?_
  intro W base args ds gs before hval hW _ _ _ _ _ _
  exact contract H enc W base args ds gs before hval hW

theorem said : Rows.DiskNoneSaid :=
  OpenClaim.holds_of_cond 9 Try.f9 rfl rfl rfl rfl rfl rfl rfl ⟨rfl, rfl, rfl, rfl, rfl⟩ rfl rfl rfl rfl rfl (by kernel_rfl) Try.func9 (by kernel_rfl)
    (of_decide_eq_true (by kernel_rfl)) (by unfold Func.isWrapper; first | (rw [if_pos (by decide +kernel)]; kernel_rfl) | (rw [if_neg (by decide +kernel)]; exact ⟨rfl, rfl⟩))
    (fun os started H enc _ F => by rw [OpenClaim.pre_eq_preRow]; exact lifted os started H enc F)
end Go.Proofs.Ytofmlmgdbcjeoaa.fnDiskNone
namespace Go.Proofs.Ytofmlmgdbcjeoaa
/-- The statement, under a short name, for the claim. -/
theorem diskNone_holds : Rows.DiskNoneSaid := fnDiskNone.said
#print axioms diskNone_holds
end Go.Proofs.Ytofmlmgdbcjeoaa
