/- What this text proves: a Space among the arguments, opened. -/
import Derived.Test.YtgpnceaplakemaaOwn2
import Derived.Lib.SmallJoins
namespace Go.Proofs.Ytgpnceaplakemaa.Own
open Go Go.RowKit Go.ChangeShapes Go.WideShapes Go.Joins Go.Proofs.Ytgpnceaplakemaa.Base

section
variable {H : Type} {enc : TypeId × Value → H} {w : World} {base : Nat} {spare : Nat → Bool} {held : Bool} {r : Reach} {b0 : Nat}
theorem types41 : Try.prog.cellTypes Try.prog.depth 41 = some [22, 3, 3] := by kernel_rfl
set_option maxRecDepth 100000 in
theorem cell0_wide {c0 c1 c2 : Value} (h : Value.okWide Try.prog w r b0 41 (.agg #[c0, c1, c2])) : Value.okWide Try.prog w r b0 22 c0 := by
  simp only [Value.okWide, Try.underlying41] at h
  obtain ⟨cs, hcs, _, ts, hts, _, hcell⟩ := h
  injection hcs with hcs
  subst hcs
  rw [types41] at hts
  injection hts with hts
  subst hts
  obtain ⟨u, hu, hw⟩ := hcell 0 c0 rfl
  have : u = 22 := by simpa using hu.symm
  subst this
  simpa only [Value.okWide, Try.underlying22] using hw
set_option maxRecDepth 100000 in
theorem open_space {v : Value} {d : DataW H} {p : List MemPlace} (hval : Value.okWide Try.prog w r b0 41 v) (h : DataW.Trod enc Try.prog w base spare held 41 v d p) :
    ∃ (A : Option Addr) (c : Nat) (l : List Int) (len cap : Int), v = .agg #[.slice A l.length c, .int .i64 len, .int .i64 cap] ∧ IntsIn w A c l ∧ (Lit.int .i64 len).wf = true ∧ (Lit.int .i64 cap).wf = true := by
  obtain ⟨c0, c1, c2, y0, y1, y2, m, rfl, rfl, rfl, hy0, hy1, hy2⟩ := open_agg3 Try.underlying41 (by kernel_rfl) (by kernel_rfl) hval h
  obtain ⟨a1, e1, _, w1⟩ := DataW.trod_int Try.underlying3 hy1
  obtain ⟨a2, e2, _, w2⟩ := DataW.trod_int Try.underlying3 hy2
  obtain rfl : c1 = .int .i64 a1 := by simpa using e1
  obtain rfl : c2 = .int .i64 a2 := by simpa using e2
  have h0 := cell0_wide hval
  obtain ⟨_, _, _, e0⟩ := okWide_slice Try.underlying22 h0
  have hc : c0.cells = #[c0] := by rw [e0]; rfl
  obtain ⟨A, c, l, rfl, q⟩ := open_ints2 (v := c0) (fun _ _ _ _ => h0) Try.underlying22 Try.underlying3 (by kernel_rfl) (by rw [hc]; exact hy0) hc
  exact ⟨A, c, l, a1, a2, rfl, q, w1, w2⟩
end
end Go.Proofs.Ytgpnceaplakemaa.Own
