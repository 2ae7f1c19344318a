/- What this text proves: what a disk's data and Read come to. -/
import Derived.Test.YtofmlmgdbcjeoaaDskG
import Derived.BigRegion
namespace Go.Proofs.Ytofmlmgdbcjeoaa.Dsk
open Go Go.RowKit Go.Shelf Go.Proofs Go.Proofs.Ytofmlmgdbcjeoaa.Base

attribute [local go_sem] Oper.semAt_some

theorem blk_own {β : Type} (B : Nat) (t : TypeId) (cs : List Value) : Own (fun (_ : β) W => Blk W B t cs) := fun s X Y row hs hg hrow => by
  refine (hg.block B hs.lt (fun e' => ?_)).trans hs
  obtain ⟨o, ho, hc⟩ := hrow B e'.symm
  have hs' := hs
  unfold Blk at hs'
  rw [hs'] at ho; cases ho; cases hc
theorem own_lies {n₀ B : Nat} {w : World} {D : List WX} {A : Option Addr} {c : Nat} (h : w.ownsRow B 76 2 (.slice A D.length c) D.length (wcells D)) (hn : w.heap.size ≤ n₀) : Lies n₀ w A D := by
  intro j hj
  obtain ⟨b, rfl, hb, hc⟩ := own_cell h (by omega)
  have hat := wcells_at D j hj
  have hlt := (own_lt h b rfl).2
  refine ⟨b, rfl, by omega, ?_, ?_⟩
  · rw [wat_get D j hj]; exact (hc (j * 2) (by omega)).trans hat.1
  · rw [wat_get D j hj]; exact (hc (j * 2 + 1) (by omega)).trans hat.2

/-- What is read of page x. -/
def viewAt (D : DM) (x : Nat) : ByteArray := ((putW D.st D.wt)[x]?).getD ByteArray.empty

set_option maxRecDepth 100000 in
set_option maxHeartbeats 4000000 in
theorem data_in (F : Fence) (n : Nat) (h45 : F.fn 45) (h62 : F.fn 62) (h70 : F.fn 70) (hro : F.round = none) (hn : 3 ≤ n)
    (B g : Nat) (D : DM) (x : Nat) (w : World) (h : IsD B w g D) (hx : x < D.st.length) (hl : D.wt.length ≤ 1000000) :
    CallsIn F n Try.prog 45 #[.pointer (some ⟨g, 0, none⟩), .int .i64 x] w fun e W' => e = .returned (.string (viewAt D x)) ∧ Below w.heap.size w W' := by
  have h1 : 1 ≤ n := by omega
  obtain ⟨hB, v1, v2, hb, o1, o2⟩ := h
  obtain ⟨A1, c1, rfl⟩ := own_form o1
  obtain ⟨A2, c2, rfl⟩ := own_form o2
  have cg0 := hb.cell 0
  have cg1 := hb.cell 1
  have HB := Lib.hid hb
  have HO1 := Lib.hid o1
  have HO2 := Lib.hid o2
  have lg := hb.lt
  clear hb o1 o2
  obtain ⟨m1, hm1⟩ : ∃ m, D.st.length = m := ⟨_, rfl⟩
  obtain ⟨m2, hm2⟩ : ∃ m, D.wt.length = m := ⟨_, rfl⟩
  have HM1 := Lib.hid hm1; have HM2 := Lib.hid hm2
  have HX := Lib.hid hx
  have HL := Lib.hid hl
  rw [hm1] at HB HO1 cg0 cg1
  rw [hm2] at HB HO2 cg1 cg0
  clear hm1 hm2 hx hl
  have HR := Lib.hid (show ∀ (v : ByteArray), (putW D.st D.wt)[x]? = some v → v = viewAt D x from fun v hv => by unfold viewAt; rw [hv]; rfl)
  generalize viewAt D x = res at *
  refine callsIn_of_wp_marks Try.func45 rfl h45 ?_ hro
  simp only [Try.ntmps45, List.size_toArray, List.length_cons, List.length_nil, Nat.reduceAdd, Nat.reduceSub, Array.replicate_succ, Array.replicate_zero, List.push_toArray, List.append_toArray, List.nil_append, List.cons_append]
  gi_wp2_with (gi_at_call 62; refine (backward_in F (n - 1) h62 hro _ _ _ _).mono ?_; rintro e w' ⟨rfl, rfl⟩)
  obtain ⟨W0, hW0, hb0, k3, k4, kS, hz⟩ := box3 w 3 9 41 (.int .i64 x) (.string ⟨#[]⟩) (.slice A2 m2 c2)
  rw [hW0]
  clear hW0
  have hlies : Lies W0.heap.size W0 A2 D.wt := by
    have := HO2.out; rw [← HM2.out] at this
    exact own_lies (own_below this hb0) (Nat.le_refl _)
  have hcS : W0.cell? ⟨w.heap.size + 1 + 1, 0, none⟩ = some (.slice A2 D.wt.length c2) := by rw [HM2.out]; exact kS.cell 0
  refine wpIn_rangeFunc_ownH (w := W0) hro h1 (gf := 70) (lb := #[.pointer (some ⟨w.heap.size + 1 + 1, 0, none⟩)]) rfl h70 (enters_of Try.func70 (by kernel_rfl) rfl)
    (backward_stops F (n - 1) h70 hro (by omega) (w.heap.size + 1 + 1) W0.heap.size A2 c2 D.wt HL.out W0 (Nat.le_refl _) (by omega) hcS hlies) belowK_t (belowK_b (Nat.le_refl _)) (Below.refl _ _) (fun _ => rfl)
    (fun pre W => (∀ p ∈ pre, p.2.1 ≠ x) ∧ Below W0.heap.size W0 W)
    (fun c pre W => (c = .ret ∧ ∃ ini last, pre = ini ++ [last] ∧ (∀ p ∈ ini, p.2.1 ≠ x) ∧ last.2.1 = x ∧ Blk W (w.heap.size + 1) 9 [.string last.2.2]) ∧ Below w.heap.size w W)
    (OwnFrom.and (ownFrom_pure _ _) (ownFrom_below (Nat.le_refl _) (Nat.le_refl _)))
    (fun c => OwnFrom.and (Own.from (fun s X Y row hs hg hr => by obtain ⟨hc, ini, last, e1, e2, e3, e4⟩ := hs; exact ⟨hc, ini, last, e1, e2, e3, blk_own (β := Unit) _ _ _ () X Y row e4 hg hr⟩) _) (ownFrom_below (Nat.le_refl _) (by omega)))
    ⟨by simp, Below.refl _ _⟩
    (fun y a' W => ∃ Bx, W0.heap.size ≤ Bx ∧ Blk W Bx 76 [.int .i64 (y.2.1 : Int), .string y.2.2] ∧ a' = { tmps := #[.pointer (some ⟨g, 0, none⟩), .int .i64 x, undef, .pointer (some ⟨w.heap.size, 0, none⟩), .pointer (some ⟨w.heap.size + 1, 0, none⟩), undef, .pointer (some ⟨Bx, 0, none⟩), .pointer (some ⟨g, 0, none⟩), .pointer (some ⟨g, 0, none⟩), .pointer (some ⟨g, 1, none⟩), .slice A2 m2 c2, .func (.func 70) #[] #[.pointer (some ⟨w.heap.size + 1 + 1, 0, none⟩)], .int .i64 (y.1 : Int), .agg #[.int .i64 (y.2.1 : Int), .string y.2.2], undef, undef, undef, undef, undef, undef, undef, undef, undef, undef, undef, undef, undef], defers := [] })
    (fun y a' _ X Y row hs hg hr => by obtain ⟨Bx, q1, q2, q3⟩ := hs; exact ⟨Bx, q1, blk_own (β := Unit) _ _ _ () X Y row q2 hg (fun r e => (hr r e).2), q3⟩)
    ?assign ?body ?done ?stop
  case assign =>
    rintro l pre y W K ⟨hp, hlow⟩ hK
    simp only [encW]
    gi_wp2
    exact hK _ _ ((KeepsOthers.alloc _ _).from _) ((Below.refl _ W).alloc hlow.size _) ⟨hp, bel_alloc hlow _⟩ ⟨W.heap.size, hlow.size, Blk.new W 76 _, rfl⟩
  case body =>
    rintro l pre y a' W hl ⟨r, hr⟩ ⟨hp, hlow⟩ ⟨Bx, hBx, bX, rfl⟩ hlt
    have q3 := k3.step hlow; have q4 := k4.step hlow
    have d3 := q3.cell 0; have d4 := q4.cell 0; have f4 := q4.frozen 0; have x0 := bX.cell 0; have x1 := bX.cell 1
    have Q4 := Lib.hid q4; have HLW := Lib.hid hlow; have HP := Lib.hid hp
    clear q3 q4 bX hlow hp
    by_cases hy : y.2.1 = x
    · have hy' : ((y.2.1 : Int) == x) = true := by simp [hy]
      have HY := Lib.hid hy
      clear hy
      gi_wp2
      exact ⟨(KeepsOthers.setCell _ _ _).from _, ⟨rfl, pre, y, rfl, HP.out, HY.out, Q4.out.set_ 0 _⟩, bel_set (bel_then hb0 HLW.out) (by simp) _ _⟩
    · have hy' : ((y.2.1 : Int) == x) = false := by simp; omega
      have HY := Lib.hid hy
      clear hy
      gi_wp2
      exact ⟨KeepsFrom.refl _ _, Below.refl _ _, fun p hp' => (List.mem_append.1 hp').elim (HP.out p) (fun e => by simp at e; subst e; exact HY.out), HLW.out⟩
  case done =>
    rintro Dd ys W hD rfl ⟨hne, hlow⟩ hK
    have q3 := k3.step hlow; have q4 := k4.step hlow; have qg := (HB.out.step hb0).step hlow; have qo := own_below (own_below HO1.out hb0) hlow
    have hx := HX.out
    rw [HM1.out] at hx
    obtain ⟨b1, rfl, hb1, hcl⟩ := own_cell qo (by omega)
    have hst := (hcl x (by omega)).trans (strs_at D.st x HX.out)
    have hv := HR.out _ ((putW_none D.st D.wt x hne).trans (List.getElem?_eq_getElem HX.out))
    have d3 := q3.cell 0; have d4 := q4.cell 0; have f4 := q4.frozen 0; have dg := qg.cell 0
    have hx0 : (0 : Int) ≤ x := by omega
    have hx1 : (x : Int) < m1 := by omega
    have Q4 := Lib.hid q4; have HLW := Lib.hid hlow
    clear q3 q4 qg qo hlow hne hcl
    rw [hv] at hst
    gi_wp2
    gi_region
    all_goals gi_wp2
    all_goals (
      have hK' : (W.setCell ⟨w.heap.size + 1, 0, none⟩ (.string res)).drew.heap[Dd]? = some (.deferred (some [])) := (KeepsOthers.setCell W ⟨w.heap.size + 1, 0, none⟩ (.string res)).same Dd _ hK rfl
      refine ⟨by simp, .inl ⟨_, _, rfl, run_takeDeferred hK', ?_⟩⟩
      have hq5 : (W.setCell ⟨w.heap.size + 1, 0, none⟩ (.string res)).drew.cell? ⟨w.heap.size + 1, 0, none⟩ = some (.string res) := ((Q4.out.set_ 0 (.string res)).drew).cell 0
      have hc5 := cell_kept hq5 (grownBy_putObj' _ Dd (.deferred none)) (fun r e => by cases e; exact ⟨_, hK', rfl⟩)
      refine ⟨.string res, ?_, rfl, (bel_drew (bel_set (bel_then hb0 HLW.out) (by simp) 0 (.string res))).trans (belowK_b (w := W0) (by omega) _ Dd _ _ hD hK' rfl rfl)⟩
      simp [results, Try.f45, go_sem, hc5])
  case stop =>
    rintro Dd c pre W hD ⟨k, hk, rfl⟩ ⟨⟨rfl, ini, last, e1, e2, e3, q4⟩, hlow⟩ hK
    obtain ⟨k', rfl⟩ : ∃ k', k = k' + 1 := by
      cases k with
      | zero => simp [upto] at e1
      | succ k' => exact ⟨k', rfl⟩
    rw [upto_succ] at e1
    obtain ⟨rfl, e5⟩ := List.append_inj' e1 rfl
    obtain rfl : bwd D.wt k' = last := by simpa using e5
    have hv := HR.out _ (putW_hit D.st D.wt x k' HX.out (by omega) e2 e3)
    rw [hv] at q4
    have d4 := q4.cell 0
    clear e1 e2 e3 e5 hv
    have Q4 := Lib.hid q4; have HLW := Lib.hid hlow
    clear q4 hlow
    gi_wp2
    refine ⟨by simp, .inl ⟨_, _, rfl, run_takeDeferred hK, ?_⟩⟩
    have hc5 := cell_kept (Q4.out.cell 0) (grownBy_putObj' _ Dd (.deferred none)) (fun r e => by cases e; exact ⟨_, hK, rfl⟩)
    refine ⟨.string res, ?_, rfl, HLW.out.trans (belowK_b (w := W0) (by omega) _ Dd _ _ hD hK rfl rfl)⟩
    simp [results, Try.f45, go_sem, hc5]
theorem data_calls (B g : Nat) (D : DM) (x : Nat) (w : World) (h : IsD B w g D) (hx : x < D.st.length) (hl : D.wt.length ≤ 1000000) :
    Calls Try.prog 45 #[.pointer (some ⟨g, 0, none⟩), .int .i64 x] w fun e W' => e = .returned (.string (viewAt D x)) ∧ Below w.heap.size w W' :=
  callsIn_wide.1 (data_in Fence.wide 3 trivial trivial trivial rfl (by omega) B g D x w h hx hl)
end Go.Proofs.Ytofmlmgdbcjeoaa.Dsk
