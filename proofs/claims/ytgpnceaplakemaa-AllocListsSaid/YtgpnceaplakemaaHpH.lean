/- What this text proves: what a queue's functions come to. -/
import Derived.Test.YtgpnceaplakemaaHpG
namespace Go.Proofs.Ytgpnceaplakemaa.Hp
open Go Go.RowKit Go.Proofs.Ytgpnceaplakemaa.Base Go.Proofs.Ytgpnceaplakemaa.Own
set_option linter.unusedSimpArgs false

/-- The queue lies in block q, its pile in blocks of its own, all in F; L: its numbers, rising. -/
def IsQ (F : Nat → Prop) (w : World) (q : Nat) (L : List Int) : Prop :=
  F q ∧ ∃ p xs, Blk w q 67 [.iface 63 (.pointer (some ⟨p, 0, none⟩))] ∧ IsP F w p xs ∧ Heap xs xs.length 0 ∧ xs.Perm L ∧ Srt L
section
variable {F : Nat → Prop} {w w1 : World} {q : Nat} {L : List Int}
theorem IsQ.lt (h : IsQ F w q L) : q < w.heap.size := h.2.elim fun _ h => h.elim fun _ h => h.1.lt
theorem IsQ.mono {F' : Nat → Prop} (h : IsQ F w q L) (hF : ∀ k, k < w.heap.size → F k → F' k) : IsQ F' w q L := by
  obtain ⟨hB, p, xs, hb, h1, r⟩ := h
  exact ⟨hF q hb.lt hB, p, xs, hb, h1.mono hF, r⟩
theorem IsQ.keep (h : IsQ F w q L) (hk : ∀ k, k < w.heap.size → F k → w1.heap[k]? = w.heap[k]?) : IsQ F w1 q L := by
  obtain ⟨hB, p, xs, hb, h1, r⟩ := h
  exact ⟨hB, p, xs, (hk q hb.lt hB).trans hb, h1.keep hk, r⟩
theorem IsQ.below (h : IsQ F w q L) (hb : Below w.heap.size w w1) : IsQ F w1 q L := h.keep fun k hk _ => hb.block k hk
theorem IsQ.within {F' : Nat → Prop} (h : IsQ F w q L) (hb : Within F' w w1) (hd : ∀ k, k < w.heap.size → F k → ¬ F' k) : IsQ F w1 q L := h.keep fun k hk hF => hb.block k hk (hd k hk hF)
theorem IsQ.alloc (h : IsQ F w q L) (o : Obj) : IsQ F (w.alloc o) q L := h.below (bel_alloc (Below.refl _ _) o)
theorem IsQ.drew (h : IsQ F w q L) : IsQ F w.drew q L := h.below (bel_drew (Below.refl _ _))
theorem IsQ.srt (h : IsQ F w q L) : Srt L := h.2.elim fun _ h => h.elim fun _ h => h.2.2.2.2
end
theorem srt_of {xs L : List Int} (h : xs.Perm L) (hL : Srt L) : srt xs = L := srt_eq ((srt_perm xs).trans h) (srt_srt xs) hL
theorem qlen_calls (F : Nat → Prop) (q : Nat) (L : List Int) (w : World) (h : IsQ F w q L) :
    Calls Try.prog 19 #[.pointer (some ⟨q, 0, none⟩)] w fun e w' => e = .returned (.int .i64 L.length) ∧ w = w' := by
  obtain ⟨_, p, xs, hb, hP, _, hp, _⟩ := h
  have c0 := hb.cell 0
  obtain ⟨A, n, c, hm, hc⟩ := len_at hP
  rw [hp.length_eq] at hc
  have C := Lib.hid hc
  clear hb hP hp hc
  go_enter Try.func19, Try.ntmps19
  go_wp2_with fail
  ((with_reducible refine C.out.mono ?_); rintro e w1 ⟨rfl, rfl⟩)
  go_wp2_with fail
  go_ret
  exact ⟨rfl, rfl⟩
theorem qlen_nil (w : World) : Calls Try.prog 19 #[.pointer none] w fun e w' => e = .returned (.int .i64 0) ∧ w = w' := by
  go_enter Try.func19, Try.ntmps19
  go_wp2_with fail
  go_ret
  exact ⟨rfl, rfl⟩
theorem list_calls (F : Nat → Prop) (q : Nat) (L : List Int) (w : World) (h : IsQ F w q L) (hn : L.length ≤ 1000000) :
    Calls Try.prog 21 #[.pointer (some ⟨q, 0, none⟩)] w fun e w' => ∃ v, e = .returned v ∧ w'.ownsRow w.heap.size 3 1 v L.length (ints L) ∧ Below w.heap.size w w' := by
  obtain ⟨_, p, xs, hb, hP, _, hp, hS⟩ := h
  have c0 := hb.cell 0
  obtain ⟨A, c, hk, ho⟩ := hP.open
  have hm := met_all hk
  have hc := all_calls A xs.length c xs w ho (by rw [hp.length_eq]; exact hn)
  rw [srt_of hp hS, hp.length_eq] at hc
  rw [hp.length_eq] at hm
  have C := Lib.hid hc
  clear hb hP hp hc hk ho hS
  go_enter Try.func21, Try.ntmps21
  go_wp2_with fail
  ((with_reducible refine C.out.mono ?_); rintro e w1 ⟨v, rfl, hv, hl⟩)
  obtain ⟨A1, c1, rfl⟩ := own_form hv
  have V := Lib.hid hv
  clear hv C hm
  go_wp2_with fail
  go_ret
  exact ⟨_, rfl, V.out, hl⟩
theorem list_nil (w : World) : Calls Try.prog 21 #[.pointer none] w fun e w' => e = .returned (.slice none 0 0) ∧ w = w' := by
  go_enter Try.func21, Try.ntmps21
  go_wp2_with fail
  go_ret
  exact ⟨rfl, rfl⟩
set_option maxRecDepth 100000 in
theorem peek_calls (F : Nat → Prop) (q : Nat) (a : Int) (L : List Int) (w : World) (h : IsQ F w q (a :: L)) :
    Calls Try.prog 17 #[.pointer (some ⟨q, 0, none⟩)] w fun e w' => e = .returned (.tuple #[.int .i64 a, .bool true]) ∧ w = w' := by
  have CL := Lib.hid (qlen_calls F q (a :: L) w h)
  rw [show (((a :: L).length : Nat) : Int) = (L.length : Int) + 1 by simp] at CL
  have hne : ((L.length : Int) + 1 == 0) = false := by rw [beq_eq_false_iff_ne]; omega
  obtain ⟨_, p, xs, hb, hP, hH, hp, hS⟩ := h
  have c0 := hb.cell 0
  obtain ⟨A, c, hk, ho⟩ := hP.open
  have hm := met_least hk
  have hl0 : 0 < xs.length := by rw [hp.length_eq]; simp
  have hc := least_calls A xs.length c xs w ho hl0
  obtain ⟨r, hr⟩ := heap_head hH hp hS hl0
  have ha : at_ xs 0 = a := by injection hr with h1 _; exact h1.symm
  rw [ha] at hc
  have C := Lib.hid hc
  clear hb hP hp hc hk ho hS hH hr ha hl0
  generalize L.length = n at *
  go_enter Try.func17, Try.ntmps17
  go_wp2_with fail
  ((with_reducible refine CL.out.mono ?_); rintro e w1 ⟨rfl, rfl⟩)
  go_wp2_with fail
  ((with_reducible refine C.out.mono ?_); rintro e w1 ⟨rfl, rfl⟩)
  go_wp2_with fail
  go_ret2
  exact ⟨rfl, rfl⟩
theorem peek_none (F : Nat → Prop) (q : Nat) (w : World) (h : IsQ F w q []) :
    Calls Try.prog 17 #[.pointer (some ⟨q, 0, none⟩)] w fun e w' => e = .returned (.tuple #[.int .i64 0, .bool false]) ∧ w = w' := by
  have CL := Lib.hid (qlen_calls F q [] w h)
  rw [show ((([] : List Int).length : Nat) : Int) = 0 from rfl] at CL
  clear h
  go_enter Try.func17, Try.ntmps17
  go_wp2_with fail
  ((with_reducible refine CL.out.mono ?_); rintro e w1 ⟨rfl, rfl⟩)
  go_wp2_with fail
  go_ret2
  exact ⟨rfl, rfl⟩
theorem IsP.off {F : Nat → Prop} {w : World} {p q : Nat} {xs : List Int} {cs : List Value} (h : IsP F w p xs) (hq : Blk w q 67 cs) : IsP (fun k => F k ∧ k ≠ q) w p xs := by
  obtain ⟨hF, v, hb, h1, hF1⟩ := h
  refine ⟨⟨hF, fun e => ?_⟩, v, hb, h1, fun k hk => ⟨hF1 k hk, fun e => own_blk_ne h1 hq (by decide) (by rw [hk, e])⟩⟩
  subst e
  unfold Blk at hb hq
  rw [hb] at hq
  injection hq with hq
  injection hq with _ hq
  exact absurd hq (by decide)
set_option maxRecDepth 100000 in
theorem qpush_calls (F : Nat → Prop) (q : Nat) (v : Int) (L : List Int) (w : World) (h : IsQ F w q L) (hF : ∀ k, w.heap.size ≤ k → F k) (hx : L.length ≤ 999999) :
    Calls Try.prog 14 #[.pointer (some ⟨q, 0, none⟩), .int .i64 v] w fun e w' => e = .returned (.tuple #[]) ∧ IsQ F w' q (ins v L) ∧ Within F w w' := by
  obtain ⟨hq, p, xs, hb, hP, hH, hp, hS⟩ := h
  have c0 := hb.cell 0
  have C := Lib.hid (hpush_calls (fun k => F k ∧ k ≠ q) p v xs w (hP.off hb) (fun k hk => ⟨hF k hk, by have := hb.lt; omega⟩) (by rw [hp.length_eq]; exact hx) hH)
  have HB := Lib.hid hb; have HP := Lib.hid hp; have HS := Lib.hid hS
  clear hb hP hp hS hH
  go_enter Try.func14, Try.ntmps14
  go_wp2_with fail
  ((with_reducible refine C.out.mono ?_); rintro e w1 ⟨ys, rfl, hp2, hh2, hI, hl⟩)
  have P2 := Lib.hid hp2; have H2 := Lib.hid hh2; have I2 := Lib.hid hI; have W2 := Lib.hid hl
  clear hp2 hh2 hI hl C
  go_wp2_with fail
  go_end0
  exact ⟨rfl, ⟨hq, p, ys, W2.out.blk HB.out (fun h => h.2 rfl), I2.out.mono (fun k _ hk => hk.1), H2.out, (P2.out.trans (HP.out.append_right [v])).trans ((List.perm_append_comm (l₁ := L) (l₂ := [v])).trans (ins_perm v L).symm), ins_srt v L HS.out⟩, W2.out.mono (fun k _ hk => hk.1)⟩
theorem qpush_nil (v : Int) (w : World) : Calls Try.prog 14 #[.pointer none, .int .i64 v] w fun e w' => e = .returned (.tuple #[]) ∧ w = w' := by
  go_enter Try.func14, Try.ntmps14
  go_wp2_with fail
  go_end0
  exact ⟨rfl, rfl⟩
theorem qpop_none (F : Nat → Prop) (q : Nat) (w : World) (h : IsQ F w q []) :
    Calls Try.prog 15 #[.pointer (some ⟨q, 0, none⟩)] w fun e w' => e = .returned (.tuple #[.int .i64 0, .bool false]) ∧ w = w' := by
  have CL := Lib.hid (qlen_calls F q [] w h)
  rw [show ((([] : List Int).length : Nat) : Int) = 0 from rfl] at CL
  clear h
  go_enter Try.func15, Try.ntmps15
  go_wp2_with fail
  ((with_reducible refine CL.out.mono ?_); rintro e w1 ⟨rfl, rfl⟩)
  go_wp2_with fail
  go_ret2
  exact ⟨rfl, rfl⟩
theorem qpop_nil (w : World) : Calls Try.prog 15 #[.pointer none] w fun e w' => e = .returned (.tuple #[.int .i64 0, .bool false]) ∧ w = w' := by
  have CL := Lib.hid (qlen_nil w)
  go_enter Try.func15, Try.ntmps15
  go_wp2_with fail
  ((with_reducible refine CL.out.mono ?_); rintro e w1 ⟨rfl, rfl⟩)
  go_wp2_with fail
  go_ret2
  exact ⟨rfl, rfl⟩
set_option maxRecDepth 100000 in
theorem qpop_calls (F : Nat → Prop) (q : Nat) (a : Int) (L : List Int) (w : World) (h : IsQ F w q (a :: L)) (hx : L.length ≤ 999999) :
    Calls Try.prog 15 #[.pointer (some ⟨q, 0, none⟩)] w fun e w' => e = .returned (.tuple #[.int .i64 a, .bool true]) ∧ IsQ F w' q L ∧ Within F w w' := by
  have CL := Lib.hid (qlen_calls F q (a :: L) w h)
  rw [show (((a :: L).length : Nat) : Int) = (L.length : Int) + 1 by simp] at CL
  have hne : ((L.length : Int) + 1 == 0) = false := by rw [beq_eq_false_iff_ne]; omega
  obtain ⟨hq, p, xs, hb, hP, hH, hp, hS⟩ := h
  have c0 := hb.cell 0
  have hl : xs.length = L.length + 1 := by rw [hp.length_eq]; simp
  obtain ⟨r, hr⟩ := heap_head hH hp hS (by omega)
  have ha : at_ xs 0 = a := by injection hr with h1 _; exact h1.symm
  have hc := hpop_calls (fun k => F k ∧ k ≠ q) p L.length xs w (hP.off hb) hl (by omega) hH
  unfold HPopPost at hc
  rw [ha] at hc
  have C := Lib.hid hc
  have hta := ta_int a
  have HB := Lib.hid hb; have HP := Lib.hid hp; have HS := Lib.hid (List.pairwise_cons.1 hS).2
  clear hb hP hp hc hS hH hr ha hl
  generalize L.length = n at *
  go_enter Try.func15, Try.ntmps15
  go_wp2_with fail
  ((with_reducible refine CL.out.mono ?_); rintro e w1 ⟨rfl, rfl⟩)
  go_wp2_with fail
  ((with_reducible refine C.out.mono ?_); rintro e w1 ⟨ys, rfl, hp2, hh2, hI, hl⟩)
  have P2 := Lib.hid hp2; have H2 := Lib.hid hh2; have I2 := Lib.hid hI; have W2 := Lib.hid hl
  clear hp2 hh2 hI hl C
  go_wp2_with fail
  go_ret2
  exact ⟨rfl, ⟨hq, p, ys, W2.out.blk HB.out (fun h => h.2 rfl), I2.out.mono (fun k _ hk => hk.1), H2.out, List.Perm.cons_inv (P2.out.trans HP.out), HS.out⟩, W2.out.mono (fun k _ hk => hk.1)⟩
set_option maxRecDepth 100000 in
theorem qnew_calls (A : Option Addr) (c : Nat) (xs : List Int) (w : World) (h : IntArg w A xs) (hA : A = none → xs = []) (hn : xs.length ≤ 1000000) :
    Calls Try.prog 12 #[.slice A xs.length c] w fun e w' => ∃ q, e = .returned (.pointer (some ⟨q, 0, none⟩)) ∧ IsQ (fun k => w.heap.size ≤ k) w' q (srt xs) ∧ Below w.heap.size w w' := by
  have C1 := Lib.hid (clone_calls A c xs w h hA (by omega))
  have HL := Lib.hid (rfl : xs.length = xs.length)
  obtain ⟨n, hnn⟩ : ∃ n, xs.length = n := ⟨_, rfl⟩
  have HN := Lib.hid hnn
  rw [hnn] at C1 hn ⊢
  clear hnn h HL
  go_enter Try.func12, Try.ntmps12
  go_wp2_with fail
  ((with_reducible refine C1.out.mono ?_); rintro e w1 ⟨v, rfl, hv, hl⟩)
  obtain ⟨A1, c1, rfl⟩ := own_form hv
  have V1 := Lib.hid hv; have L1 := Lib.hid hl
  clear hv hl C1
  go_wp2_with fail
  have IP : IsP (fun k => w.heap.size ≤ k) (w1.alloc (.cells #[.slice A1 n c1] 60)) w1.heap.size xs :=
    ⟨L1.out.size, .slice A1 n c1, Blk.new w1 60 [.slice A1 n c1], own_base (by rw [HN.out]; exact V1.out.alloc _) (fun _ _ => Nat.zero_le _), fun k hk => (own_lt V1.out k hk).1⟩
  have C2 := Lib.hid (init_calls (fun k => w.heap.size ≤ k) w1.heap.size xs _ IP (by rw [HN.out]; exact hn))
  have L2 := Lib.hid (low_then L1.out L1.out.size (bel_alloc (Below.refl w1.heap.size w1) (.cells #[.slice A1 n c1] 60)))
  clear IP L1 V1
  ((with_reducible refine C2.out.mono ?_); rintro e w2 ⟨ys, rfl, hp2, hh2, hI, hl⟩)
  have P2 := Lib.hid hp2; have H2 := Lib.hid hh2; have I2 := Lib.hid hI; have L3 := Lib.hid (L2.out.trans (hl.below L2.out.size (fun k hk => hk)))
  clear hp2 hh2 hI hl C2 L2
  go_wp2_with fail
  go_ret
  exact ⟨w2.heap.size, rfl, ⟨L3.out.size, w1.heap.size, ys, Blk.new w2 67 [.iface 63 (.pointer (some ⟨w1.heap.size, 0, none⟩))], I2.out.alloc _, H2.out, P2.out.trans (srt_perm xs).symm, srt_srt xs⟩, bel_alloc L3.out _⟩
end Go.Proofs.Ytgpnceaplakemaa.Hp
