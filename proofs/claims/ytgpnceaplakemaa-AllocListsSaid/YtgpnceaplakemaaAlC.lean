/- What this text proves: what Take comes to where there is room. -/
import Derived.Test.YtgpnceaplakemaaAlB
namespace Go.Proofs.Ytgpnceaplakemaa.Hp
open Go Go.RowKit Go.ChangeShapes Go.Proofs.Ytgpnceaplakemaa.Base Go.Proofs.Ytgpnceaplakemaa.Own
set_option linter.unusedSimpArgs false

/-- The pages that are taken: the least ones that are free, then those behind the length. -/
def tkL (free : List Int) (len : Int) (k : Nat) : List Int := free.take k ++ (List.range (k - free.length)).map fun j => len + ((j : Nat) : Int)
theorem tkL_length (free : List Int) (len : Int) (k : Nat) : (tkL free len k).length = k := by simp [tkL]; omega
theorem tkL_old {free : List Int} (len : Int) {k : Nat} (h : k < free.length) : tkL free len (k + 1) = tkL free len k ++ [free[k]] := by
  unfold tkL
  rw [show k + 1 - free.length = 0 by omega, show k - free.length = 0 by omega, List.take_add_one, List.getElem?_eq_getElem h]
  simp
theorem tkL_new {free : List Int} (len : Int) {k : Nat} (h : free.length ≤ k) : tkL free len (k + 1) = tkL free len k ++ [len + ((k - free.length : Nat) : Int)] := by
  unfold tkL
  rw [show k + 1 - free.length = (k - free.length) + 1 by omega, List.range_succ, List.map_append, List.take_of_length_le (show free.length ≤ k + 1 by omega), List.take_of_length_le h, List.append_assoc]
  rfl
/-- What Take comes to where there is room for k pages. -/
def TkPost (w : World) (free : List Int) (len cap : Int) (k : Nat) (e : Ending) (w' : World) : Prop :=
  ∃ v u, e = .returned (.tuple #[.agg #[v, .int .i64 (len + ((k - free.length : Nat) : Int)), .int .i64 cap], u, .bool true]) ∧ w'.ownsRow w.heap.size 3 1 v (free.drop k).length (ints (free.drop k)) ∧ w'.ownsRow w.heap.size 3 1 u k (ints (tkL free len k)) ∧ Below w.heap.size w w'
/-- How it stands in Take's loop. -/
structure TI (w wr : World) (S q : Nat) (c0 : Value) (x cap : Int) (L xs : List Int) (v : Value) (j : Nat) : Prop where
  own : wr.ownsRow S 3 1 v j (ints xs)
  blk : Blk wr w.heap.size 41 [c0, .int .i64 x, .int .i64 cap]
  zer : Blk wr (w.heap.size + 1) 41 [.slice none 0 0, .int .i64 0, .int .i64 0]
  isq : IsQ (fun k => w.heap.size + 2 ≤ k ∧ k < S) wr q L
  bel : Below w.heap.size w wr
  siz : S ≤ wr.heap.size
  low : w.heap.size + 2 ≤ S
section
variable {w wr w1 : World} {S q : Nat} {c0 : Value} {x cap : Int} {L L' xs : List Int} {v : Value} {j : Nat}
theorem TI.pop (h : TI w wr S q c0 x cap L xs v j) (hq : IsQ (fun k => w.heap.size + 2 ≤ k ∧ k < S) w1 q L') (hw : Within (fun k => w.heap.size + 2 ≤ k ∧ k < S) wr w1) : TI w w1 S q c0 x cap L' xs v j :=
  ⟨own_kept h.own fun k hk => hw.block k (own_lt h.own k hk).2 (fun e => by have := (own_lt h.own k hk).1; omega), hw.blk h.blk (fun e => by omega), hw.blk h.zer (fun e => by omega), hq, h.bel.trans (hw.below h.bel.size (fun k hk => by omega)), Nat.le_trans h.siz hw.size, h.low⟩
theorem TI.app (h : TI w wr S q c0 x cap L xs v j) {o : Obj} {v' : Value} {ys : List Value} {zs : List Int} (ho : w1.ownsRow S 3 1 v' (j + 1) ys) (hz : ys = ints zs) (hg : (wr.alloc o).grownBy w1 v.ownBlock) : TI w w1 S q c0 x cap L zs v' (j + 1) := by
  have hlow := h.low
  have hsiz := h.siz
  have hv : ∀ k, k < S → some k ≠ v.ownBlock := fun k hk e => by have := (own_lt h.own k e.symm).1; omega
  refine ⟨by rw [← hz]; exact ho, (h.blk.alloc o).grown hg (hv _ (by omega)), (h.zer.alloc o).grown hg (hv _ (by omega)), (h.isq.alloc o).keep fun k hk hF => hg.block k hk (hv k hF.2), ?_, ?_, hlow⟩
  · exact Below.grown (bel_alloc h.bel o) hg (by have := h.bel.size; simp; omega) (fun k hk => by have := (own_lt h.own k hk).1; omega)
  · have := hg.size
    simp at this
    omega
theorem TI.more (h : TI w wr S q c0 x cap L xs v j) (y : Int) : TI w (wr.setCell ⟨w.heap.size, 1, none⟩ (.int .i64 y)) S q c0 y cap L xs v j := by
  have hlow := h.low
  refine ⟨own_set_far h.own (fun e => by have := (own_lt h.own _ e).1; omega) _ _, h.blk.set_ 1 _, h.zer.far (by simp) _, h.isq.keep fun k hk hF => Below.heap_setCell _ _ _ _ (by simp; omega), h.bel.setCell (by simp) _, by have := h.siz; simp [World.setCell]; omega, hlow⟩
end
set_option maxHeartbeats 6400000 in
set_option maxRecDepth 100000 in
theorem take_yes (A : Option Addr) (c : Nat) (free : List Int) (len cap : Int) (k : Nat) (w : World) (h : RowOf w A c free) (ht : tOk free len cap k = true) :
    Calls Try.prog 24 #[.agg #[.slice A free.length c, .int .i64 len, .int .i64 cap], .int .i64 k] w (TkPost w free len cap k) := by
  obtain ⟨i0, hi, hz0, hz1, hz2⟩ := info_parts info3
  simp only [tOk, Bool.and_eq_true, decide_eq_true_eq] at ht
  obtain ⟨⟨hg, hk0⟩, hroom⟩ := ht
  obtain ⟨h2, h3, h4, h5⟩ := aGood_iff.1 hg
  have hnn := aGood_length hg
  have hsrt := good_srt hg
  have LB := Lib.hid (bel_alloc (bel_alloc (Below.refl w.heap.size w) (.cells #[.slice A free.length c, .int .i64 len, .int .i64 cap] 41)) (.cells #[.slice none 0 0, .int .i64 0, .int .i64 0] 41))
  have KB := Lib.hid ((Blk.new w 41 [.slice A free.length c, .int .i64 len, .int .i64 cap]).alloc (.cells #[.slice none 0 0, .int .i64 0, .int .i64 0] 41))
  have KZ := Lib.hid (Blk.new (w.alloc (.cells #[.slice A free.length c, .int .i64 len, .int .i64 cap] 41)) 41 [.slice none 0 0, .int .i64 0, .int .i64 0])
  have CG := Lib.hid (good_calls A c free len cap _ (h.below LB.out) (by omega))
  rw [hg] at CG
  have RA := Lib.hid (h.below LB.out)
  have CN := Lib.hid (fun (w1 : World) (hb : Below w.heap.size w w1) => qnew_calls A c free w1 (h.below hb).arg (fun e => (h.nil e).1) (by omega))
  rw [hsrt] at CN
  rw [show (w.alloc (.cells #[.slice A free.length c, .int .i64 len, .int .i64 cap] 41)).heap.size = w.heap.size + 1 by simp] at KZ
  obtain ⟨n, hn⟩ : ∃ n, free.length = n := ⟨_, rfl⟩
  have HN := Lib.hid hn
  rw [hn] at hroom hnn CG CN KB KZ LB ⊢
  clear h hg h5 hsrt hn RA
  have hk0' : decide ((k : Int) < 0) = false := decide_eq_false (by omega)
  have hroom' : decide ((k : Int) - n > cap - len) = false := decide_eq_false (by omega)
  have w1' : IntKind.i64.wrap ((k : Int) - n) = (k : Int) - n := by rw [IntKind.wrap_i64]; omega
  have w2' : IntKind.i64.wrap (cap - len) = cap - len := by rw [IntKind.wrap_i64]; omega
  go_enter Try.func24, Try.ntmps24
  go_wp2_with fail
  ((with_reducible refine CG.out.mono ?_); rintro e w1 ⟨rfl, hl⟩)
  have K1 := KB.out.step hl; have Z1 := Lib.hid (KZ.out.step hl); have L1 := Lib.hid (bel_then LB.out hl)
  have hs1 := hl.size
  have c0 := K1.cell 0; have c1 := K1.cell 1; have c2 := K1.cell 2
  have K1 := Lib.hid K1
  simp only [World.size_alloc] at hs1
  clear CG hl KB KZ LB
  go_wp2_with fail
  have CN1 := Lib.hid (CN.out w1 L1.out)
  clear CN
  ((with_reducible refine CN1.out.mono ?_); rintro e w2 ⟨q, rfl, hq, hl⟩)
  have T2 : Hid (TI w w2 w2.heap.size q (.slice A n c) len cap free [] (.slice none 0 0) 0) := by
    have hs2 := hl.size
    exact ⟨⟨rfl, .inl ⟨rfl, rfl⟩⟩, K1.out.step hl, Z1.out.step hl, hq.mono (fun k hk hF => ⟨by omega, hk⟩), bel_then L1.out hl, Nat.le_refl _, by omega⟩
  obtain ⟨S, hS⟩ : ∃ S, w2.heap.size = S := ⟨_, rfl⟩
  rw [hS] at T2
  clear CN1 hl hq K1 Z1 L1 c0 c1 c2 hs1 hS
  go_wp2_with fail
  go_loopw [8, 36] (fun v i wr => ∃ j : Nat, j ≤ k ∧ i = .int .i64 j ∧ TI w wr S q (.slice A n c) (len + ((j - n : Nat) : Int)) cap (free.drop j) (tkL free len j) v j) (fun _ i _ => k - (intOf i).toNat)
  case atStart =>
    refine ⟨0, Nat.zero_le _, rfl, ?_⟩
    have := T2.out
    rw [show len + ((0 - n : Nat) : Int) = len by simp, show tkL free len 0 = [] by simp [tkL]]
    exact this
  case round =>
    obtain ⟨j, hj, rfl, hT⟩ := hrel
    obtain ⟨Av, cv, rfl⟩ := own_form hT.own
    have T := Lib.hid hT
    clear hT T2
    by_cases hlt : j < k
    · have hkj : (j : Int) < k := by omega
      by_cases hjn : j < n
      · have hjl : j < free.length := by rw [HN.out]; exact hjn
        have hd := List.drop_eq_getElem_cons hjl
        have ZS : Hid (ints (tkL free len j) ++ [.int .i64 free[j]] = ints (tkL free len (j + 1))) := by unfold Hid; rw [tkL_old len hjl, ints_snoc]
        have X := Lib.hid (show len + ((j + 1 - n : Nat) : Int) = len by rw [show j + 1 - n = 0 by omega]; simp)
        have T0 := T
        rw [show len + ((j - n : Nat) : Int) = len by rw [show j - n = 0 by omega]; simp] at T0
        have CP := Lib.hid (qpop_calls _ q free[j] (free.drop (j + 1)) wr (hd ▸ T.out.isq) (by have := HN.out; simp; omega))
        clear hd T
        generalize free[j] = a at *
        go_wp2_with fail
        ((with_reducible refine CP.out.mono ?_); rintro e w2 ⟨rfl, hq, hw⟩)
        have T1 := Lib.hid (T0.out.pop hq hw)
        clear hq hw T0 CP
        go_wp2_with (at_builtin; refine wpList_append_own_at _ rfl _ _ 22 rfl S 3 i0 (.int .i64 0) 1 8 Try.underlying22 hi hz0 hz1 hz2 rfl (by decide) (.slice Av j cv) j (ints (tkL free len j)) rfl (T1.out.own.alloc _) ⟨w2.heap.size, 0, none⟩ 1 1 [.int .i64 a] rfl rfl (World.news_of_block (cs := #[.int .i64 a]) (t := 3) (fr := (0, 0)) (by simpa using heap_alloc_new _ _)) (by simp [Value.oneCell']) (by unfold maxLen; omega) (by omega) (by have := T1.out.siz; simp; omega) ?_; intro u' w4 hown hgr _ _; have T2 := Lib.hid (T1.out.app hown ZS.out hgr); obtain ⟨A', c', rfl⟩ := own_form hown; clear hown hgr)
        exact ⟨⟨j + 1, by omega, by go_num, by rw [X.out]; exact T2.out⟩, by simp [intOf]; omega⟩
      · have hjl : free.length ≤ j := by rw [HN.out]; omega
        have hx : len + ((j - n : Nat) : Int) + 1 = len + ((j + 1 - n : Nat) : Int) := by rw [show j + 1 - n = (j - n) + 1 by omega]; simp; omega
        have hxb : 2 ≤ len + ((j - n : Nat) : Int) ∧ len + ((j - n : Nat) : Int) ≤ 1000 := by omega
        have ZS : Hid (ints (tkL free len j) ++ [.int .i64 (len + ((j - n : Nat) : Int))] = ints (tkL free len (j + 1))) := by unfold Hid; rw [tkL_new len hjl, ints_snoc, HN.out]
        have hd0 : free.drop j = [] := List.drop_of_length_le hjl
        have hd1 : free.drop (j + 1) = [] := List.drop_of_length_le (by omega)
        rw [hd0] at T
        have X := Lib.hid hx; have D := Lib.hid hd1
        have CP := Lib.hid (qpop_none _ q wr T.out.isq)
        clear hd0 hd1 hx
        generalize len + ((j - n : Nat) : Int) = x at *
        obtain ⟨hx1, hx2⟩ := hxb
        have c1 := T.out.blk.cell 1; have f1 := T.out.blk.frozen 1
        go_wp2_with fail
        ((with_reducible refine CP.out.mono ?_); rintro e w2 ⟨rfl, rfl⟩)
        go_upto_region 11 with fail
        have T1 := Lib.hid (T.out.more (x + 1))
        clear T CP c1 f1
        generalize wr.setCell ⟨w.heap.size, 1, none⟩ (.int .i64 (x + 1)) = w2 at *
        go_wp2_with (at_builtin; refine wpList_append_own_at _ rfl _ _ 22 rfl S 3 i0 (.int .i64 0) 1 8 Try.underlying22 hi hz0 hz1 hz2 rfl (by decide) (.slice Av j cv) j (ints (tkL free len j)) rfl (T1.out.own.alloc _) ⟨w2.heap.size, 0, none⟩ 1 1 [.int .i64 x] rfl rfl (World.news_of_block (cs := #[.int .i64 x]) (t := 3) (fr := (0, 0)) (by simpa using heap_alloc_new _ _)) (by simp [Value.oneCell']) (by unfold maxLen; omega) (by omega) (by have := T1.out.siz; simp; omega) ?_; intro u' w4 hown hgr _ _; have T2 := Lib.hid (T1.out.app hown ZS.out hgr); obtain ⟨A', c', rfl⟩ := own_form hown; clear hown hgr)
        exact ⟨⟨j + 1, by omega, by go_num, by rw [← X.out, D.out]; exact T2.out⟩, by simp [intOf]; omega⟩
    · obtain rfl : k = j := by omega
      have hdl : (free.drop k).length ≤ 1000000 := by have := HN.out; simp; omega
      have CL := Lib.hid (list_calls _ q (free.drop k) wr T.out.isq hdl)
      have DL := Lib.hid (rfl : (free.drop k).length = (free.drop k).length)
      generalize hm : (free.drop k).length = m at CL
      have HM := Lib.hid hm
      clear hm hdl DL
      go_wp2_with fail
      ((with_reducible refine CL.out.mono ?_); rintro e w3 ⟨v, rfl, hv, hl⟩)
      obtain ⟨Af, cf, rfl⟩ := own_form hv
      have K3 := T.out.blk.step hl; have Z3 := Lib.hid (T.out.zer.step hl); have O3 := Lib.hid (own_below T.out.own hl); have V3 := Lib.hid hv
      have HT := Lib.hid (And.intro T.out.siz T.out.low)
      have L3 := Lib.hid (bel_then T.out.bel hl)
      have c0 := K3.cell 0; have c1 := K3.cell 1; have c2 := K3.cell 2; have f0 := K3.frozen 0
      have z0 := Z3.out.cell 0; have z1 := Z3.out.cell 1; have z2 := Z3.out.cell 2
      have y0 := Z3.out.frozen 0; have y1 := Z3.out.frozen 1; have y2 := Z3.out.frozen 2
      have K3 := Lib.hid K3
      clear T CL hv hl
      go_wp2_with fail
      have Z4 := blk_set3 (Z3.out.far (p := ⟨w.heap.size, 0, none⟩) (by simp) (.slice Af m cf)) (.slice Af m cf) (.int .i64 (len + ((k - n : Nat) : Int))) (.int .i64 cap)
      have q0 := Z4.cell 0; have q1 := Z4.cell 1; have q2 := Z4.cell 2
      unfold wset3 at q0 q1 q2
      obtain ⟨hs1, hs2⟩ := HT.out
      have hlo : ∀ (v : Value) (g : Nat), (∀ j, v.ownBlock = some j → S ≤ j) → g < S → v.ownBlock ≠ some g := fun v g h hg e => by have := h g e; omega
      have hb1 : ∀ j, (Value.slice Af m cf).ownBlock = some j → S ≤ j := fun j hj => Nat.le_trans hs1 (own_lt V3.out j hj).1
      have hb2 : ∀ j, (Value.slice Av k cv).ownBlock = some j → S ≤ j := fun j hj => (own_lt O3.out j hj).1
      refine bodyPost_ret (v := .tuple #[.agg #[.slice Af m cf, .int .i64 (len + ((k - n : Nat) : Int)), .int .i64 cap], .slice Av k cv, .bool true]) (by simp [results, Try.results24, go_sem, q0, q1, q2]) rfl ⟨.slice Af m cf, .slice Av k cv, by rw [HN.out], ?_, ?_, ?_⟩
      · rw [HM.out]
        exact own_far3 (own_set_far (own_base V3.out fun j hj => by have := hb1 j hj; omega) (hlo _ _ hb1 (by omega)) 0 _) (hlo _ _ hb1 (by omega)) _ _ _
      · exact own_far3 (own_set_far (own_base O3.out fun j hj => by have := hb2 j hj; omega) (hlo _ _ hb2 (by omega)) 0 _) (hlo _ _ hb2 (by omega)) _ _ _
      · exact bel_set3 (bel_set L3.out (Nat.le_refl _) 0 _) (Nat.le_succ _) _ _ _
end Go.Proofs.Ytgpnceaplakemaa.Hp
