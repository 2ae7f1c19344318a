/- What this text proves: the law DiskLast answers true at every list of pairs and every number. -/
import Derived.Test.YtofmlmgdbcjeoaaFskC
import Derived.Test.YtofmlmgdbcjeoaaArgs
import Derived.Test.YtofmlmgdbcjeoaaDskQ
namespace Go.Proofs.Ytofmlmgdbcjeoaa.Dsk
open Go Go.RowKit Go.Proofs Go.Proofs.Ytofmlmgdbcjeoaa.Base
set_option linter.unusedSimpArgs false

theorem gl0 : goodF [] 5 = true := by simp [goodF]
def GL : DM := ⟨[page0, page0, page0], [], 5, -1, false⟩
theorem gl1 : growM (newD [] 5) 3 = (GL, 0) := by simp [growM, newD, GL, growL, burn, List.replicate]
theorem fine_GL : Fine 0 GL := by
  have h := (fine_new [] 5 gl0).grow 3
  rw [gl1] at h
  exact h
/-- What the law keeps of its disk. -/
structure LastJ (c : Nat) (D : DM) (now : List UInt8) : Prop where
  fine : Fine c D
  calm : Calm D
  len : D.st.length = 3
  now3 : now.length = 3
  all : allV D = now.map pg
theorem lastJ_zero : LastJ 0 GL [0, 0, 0] := ⟨fine_GL, ⟨rfl, rfl⟩, rfl, rfl, rfl⟩
theorem LastJ.write {c : Nat} {D : DM} {now : List UInt8} (h : LastJ c D now) (x : Nat) (u : UInt8) (hx : x < 3) : writeM D x (pg u) = ({ D with wt := D.wt ++ [(x, pg u)] }, 0) ∧ LastJ (c + 1) { D with wt := D.wt ++ [(x, pg u)] } (now.set x u) := by
  have h1 := write_yes h.calm x (pg u) (by rw [h.len]; exact hx) (pg_size u)
  have h2 := h.fine.write x (pg u)
  rw [h1] at h2
  exact ⟨h1, h2, ⟨h.calm.down, h.calm.fuse⟩, h.len, by rw [List.length_set]; exact h.now3, by rw [allV_write, h.all, List.map_set]⟩
theorem LastJ.sync {c : Nat} {D : DM} {now : List UInt8} (h : LastJ c D now) : syncM D = ({ D with st := putW D.st D.wt, wt := [] }, 0) ∧ LastJ c { D with st := putW D.st D.wt, wt := [] } now := by
  have h1 := sync_yes h.calm
  have h2 := h.fine.sync
  rw [h1] at h2
  exact ⟨h1, h2, ⟨h.calm.down, h.calm.fuse⟩, by show (putW D.st D.wt).length = 3; rw [putW_length, h.len], h.now3, (allV_sync D).trans h.all⟩
theorem IsF.far {F : Nat → Prop} {w : World} {g : Nat} {D : DM} (h : IsF F w g D) {a i : Nat} {u : Value} (ha : ¬ F a) : IsF F (w.setCell ⟨a, i, none⟩ u) g D :=
  h.keep fun k _ hF => Below.heap_setCell w ⟨a, i, none⟩ u k (fun e => ha (by rw [show a = k from e.symm]; exact hF))
def nums (l : List UInt8) : List Int := l.map fun u => (u.toNat : Int)
theorem nums_at (l : List UInt8) (p : Nat) (hp : p < l.length) : (byt (nums l))[p]? = some (.int .u8 l[p].toNat) := by simp [byt, nums, hp]
theorem nums_set (l : List UInt8) (p : Nat) (u : UInt8) : (byt (nums l)).set p (.int .u8 u.toNat) = byt (nums (l.set p u)) := by simp [byt, nums, List.map_set]

set_option maxHeartbeats 6400000 in
set_option maxRecDepth 100000 in
theorem last_law (A : Option Addr) (c : Nat) (l : List (UInt8 × UInt8)) (y : Int) (w : World) (hl : PairArg w A l) (_hy : 0 ≤ y ∧ y < 4294967296) : Calls Try.prog 5 #[.slice A l.length c, .int .u32 y] w fun e w' => e = .returned (.bool true) ∧ Below w.heap.size w w' := by
  obtain ⟨n, hn⟩ : ∃ n, l.length = n := ⟨_, rfl⟩
  have HN := Lib.hid hn
  have HP := Lib.hid hl
  rw [hn]
  clear hn hl
  by_cases h32 : 32 < n
  · have h32' : (32 : Int) < n := by omega
    go_enter Try.func5, Try.ntmps5
    go_wp2_with fail
    ((with_reducible refine (wakes_calls _).mono ?_); rintro e w1 ⟨rfl, hl⟩)
    go_wp2_with fail
    go_ret
    exact ⟨rfl, hl⟩
  have h32' : ¬ (32 : Int) < n := by omega
  have HNW := Lib.hid (new_calls w.heap.size 5 w (Nat.le_refl _))
  rw [gl0] at HNW
  go_enter Try.func5, Try.ntmps5
  go_wp2_with fail
  ((with_reducible refine HNW.out.mono ?_); rintro e w0 ⟨hl, ⟨h, _⟩ | ⟨_, g, rfl, hI⟩⟩)
  · cases h
  have C0 := Lib.hid (grow_f hI hl.size (fine_new [] 5 gl0) 3)
  rw [gl1] at C0
  have L0 := Lib.hid hl
  clear hl hI HNW
  go_wp2_with fail
  ((with_reducible refine C0.out.mono ?_); rintro e w1 ⟨rfl, hI, hl⟩)
  have hI' : IsF (fun k => w.heap.size ≤ k ∧ k ≠ w1.heap.size) (w1.alloc (.cells (byt (nums [0, 0, 0])).toArray 45)) g GL := (hI.isF (fun k h1 h2 => ⟨h1, by omega⟩)).alloc _
  have I1 := Lib.hid hI'
  have L1 := Lib.hid (low_then (L0.out.trans hl) (L0.out.trans hl).size (bel_alloc (Below.refl w1.heap.size w1) (.cells (byt (nums [0, 0, 0])).toArray 45)))
  have K1 := Lib.hid (Blk.new w1 45 (byt (nums [0, 0, 0])))
  have hz := (L0.out.trans hl).size
  have hz2 : w1.heap.size < (w1.alloc (.cells (byt (nums [0, 0, 0])).toArray 45)).heap.size := by simp
  clear hI hl C0 L0 hI'
  go_wp2_with fail
  have hwa : w.heap.size ≤ w1.heap.size := hz
  generalize w1.heap.size = a at *
  have hFa : ∀ W : World, Below w.heap.size w W → a < W.heap.size → ∀ k, W.heap.size ≤ k → (w.heap.size ≤ k ∧ k ≠ a) := fun W h1 h2 k hk => ⟨Nat.le_trans h1.size hk, by omega⟩
  have HFA := Lib.hid hFa
  have hL : ∀ W W' : World, Within (fun k => w.heap.size ≤ k ∧ k ≠ a) W W' → Below w.heap.size w W → Below w.heap.size w W' := fun W W' h1 h2 => h2.trans (h1.below h2.size (fun k hk => hk.1))
  have HL := Lib.hid hL
  clear hFa hL
  go_loopw [8] (fun i wr => ∃ (j : Nat) (D : DM) (now : List UInt8), j ≤ n ∧ i = .int .i64 j ∧ IsF (fun k => w.heap.size ≤ k ∧ k ≠ a) wr g D ∧ Below w.heap.size w wr ∧ LastJ j D now ∧ Blk wr a 45 (byt (nums now))) (fun i _ => n - (intOf i).toNat)
  case atStart => exact ⟨0, GL, [0, 0, 0], Nat.zero_le _, rfl, I1.out, L1.out, lastJ_zero, K1.out⟩
  case round =>
    obtain ⟨j, D, now, hj, rfl, hI, hlow, hJ, hK⟩ := hrel
    have I3 := Lib.hid hI; have L3 := Lib.hid hlow; have J3 := Lib.hid hJ; have K3 := Lib.hid hK
    clear hI hlow hJ hK I1 L1 K1 hz hz2
    by_cases hlt : j < n
    · have hjn : (j : Int) < n := by omega
      have hjl : j < l.length := by rw [HN.out]; exact hlt
      obtain ⟨b, o, rfl, hb, hc0, hc1⟩ := (HP.out.below L3.out) j hjl
      have hc0' := (K3.out.lt)
      obtain ⟨z0, z1, hzz⟩ : ∃ z0 z1, l[j] = (z0, z1) := ⟨_, _, rfl⟩
      rw [hzz] at hc0 hc1
      have HZ := Lib.hid hzz
      simp only at hc0 hc1
      clear hzz
      have hz0 := z0.toNat_lt
      have hfl := fun W => fill_calls z1 W
      rw [show bs (pageL z1) = pg z1 from rfl] at hfl
      have HFL := Lib.hid hfl
      clear hfl
      generalize z0.toNat = q0 at *
      go_wp2_with fail
      have hx : 0 ≤ (q0 : Int) % 4 ∧ (q0 : Int) % 4 < 4 := by omega
      generalize (q0 : Int) % 4 = x at *
      obtain ⟨x, rfl⟩ := Int.eq_ofNat_of_zero_le hx.1
      ((with_reducible refine (HFL.out _).mono ?_); rintro e w3 ⟨rfl, hl⟩)
      have I4 := Lib.hid (I3.out.below hl); have L4 := Lib.hid (low_then L3.out L3.out.size hl); have K4 := Lib.hid (K3.out.step hl)
      clear hl I3 L3 K3 hc0'
      go_wp2_with fail
      have C4 := Lib.hid (writeF_f I4.out (HFA.out _ L4.out K4.out.lt) J3.out.fine (by omega) (x : Int) (pg z1))
      by_cases hx3 : x < 3
      · have hx3' : (x : Int) < 3 := by omega
        obtain ⟨e1, hJ⟩ := J3.out.write x z1 hx3
        rw [e1] at C4
        have J5 := Lib.hid hJ
        clear hJ e1
        generalize ({ D with wt := D.wt ++ [(x, pg z1)] } : DM) = D5 at *
        ((with_reducible refine C4.out.mono ?_); rintro e w5 ⟨rfl, hI, hl⟩)
        have I5 := Lib.hid hI; have L5 := Lib.hid (HL.out _ _ hl L4.out); have K5 := Lib.hid (hl.blk K4.out (fun h => h.2 rfl))
        clear hI hl C4 I4 L4 K4
        obtain ⟨b', o', ebo, _, hcz0, hcz1⟩ := (HP.out.below L5.out) j hjl
        obtain ⟨rfl, rfl⟩ : b = b' ∧ o = o' := by simpa using ebo
        rw [HZ.out] at hcz0 hcz1
        simp only at hcz0 hcz1
        clear ebo hcz0 hc0 hc1
        have kc := K5.out.cell x; have kf := K5.out.frozen x
        rw [nums_at now x (by rw [J3.out.now3]; exact hx3)] at kc
        obtain ⟨zz, hzz⟩ : ∃ zz, now[x]'(by rw [J3.out.now3]; exact hx3) = zz := ⟨_, rfl⟩
        rw [hzz] at kc
        clear hzz J3
        by_cases hsy : bits BinOp.and IntKind.u32 (y / 2 ^ j) 1 = 1
        · have hsy' : (bits BinOp.and IntKind.u32 (y / 2 ^ j) 1 == 1) = true := by rw [hsy]; rfl
          clear hsy
          go_wp2_with fail
          have I6 := Lib.hid (I5.out.far (i := x) (u := .int .u8 z1.toNat) (fun h => h.2 rfl)); have L6 := Lib.hid (L5.out.setCell (p := ⟨a, x, none⟩) hwa (.int .u8 z1.toNat)); have K6 := Lib.hid (K5.out.set_ x (.int .u8 z1.toNat))
          rw [nums_set] at K6
          have J6 := J5
          clear I5 L5 K5 J5 kc kf
          have C6 := Lib.hid (syncF_f I6.out J6.out.fine (by omega))
          obtain ⟨e1, hJ⟩ := J6.out.sync
          rw [e1] at C6
          have J7 := Lib.hid hJ
          clear hJ e1 J6
          generalize ({ D5 with st := putW D5.st D5.wt, wt := [] } : DM) = D7 at *
          ((with_reducible refine C6.out.mono ?_); rintro e w7 ⟨rfl, hI, hl⟩)
          have I7 := Lib.hid hI; have L7 := Lib.hid (HL.out _ _ hl L6.out); have K7 := Lib.hid (hl.blk K6.out (fun h => h.2 rfl))
          clear hI hl C6 I6 L6 K6
          obtain ⟨now7, hn7⟩ : ∃ z, now.set x z1 = z := ⟨_, rfl⟩
          rw [hn7] at J7 K7
          clear hn7
          go_wp2_with fail
          go_loopw [11] (fun i wr => ∃ q : Nat, q ≤ 3 ∧ i = .int .i64 q ∧ IsF (fun k => w.heap.size ≤ k ∧ k ≠ a) wr g D7 ∧ Below w.heap.size w wr ∧ Blk wr a 45 (byt (nums now7))) (fun i _ => 3 - (intOf i).toNat)
          case atStart => exact ⟨0, by omega, rfl, I7.out, L7.out, K7.out⟩
          case round =>
            obtain ⟨q, hq, rfl, hI, hlow, hK⟩ := hrel
            have I8 := Lib.hid hI; have L8 := Lib.hid hlow; have K8 := Lib.hid hK
            clear hI hlow hK I7 L7 K7
            by_cases hq3 : q < 3
            · have hq3' : (q : Int) < 3 := by omega
              have hqn : q < now7.length := by rw [J7.out.now3]; exact hq3
              have C8 := Lib.hid (readF_f I8.out J7.out.fine (by omega) (q : Int))
              rw [read_pg J7.out.calm now7 J7.out.all q hqn] at C8
              go_wp2_with fail
              ((with_reducible refine C8.out.mono ?_); rintro e w8 ⟨rfl, hl⟩)
              have I9 := Lib.hid (I8.out.below hl); have L9 := Lib.hid (low_then L8.out L8.out.size hl); have K9 := Lib.hid (K8.out.step hl)
              clear hl I8 L8 K8 C8
              have kc := K9.out.cell q
              rw [nums_at now7 q hqn] at kc
              have hfl := fun W => fill_calls now7[q] W
              rw [show bs (pageL now7[q]) = pg now7[q] from rfl] at hfl
              have HFL := Lib.hid hfl
              clear hfl
              generalize now7[q] = z at *
              go_wp2_with fail
              ((with_reducible refine (HFL.out _).mono ?_); rintro e w9 ⟨rfl, hl⟩)
              have I10 := Lib.hid (I9.out.below hl); have L10 := Lib.hid (low_then L9.out L9.out.size hl); have K10 := Lib.hid (K9.out.step hl)
              clear hl I9 L9 K9 kc
              go_wp2_with fail
              exact ⟨⟨q + 1, by omega, by go_num, I10.out, L10.out, K10.out⟩, by simp [intOf]; omega⟩
            · obtain rfl : q = 3 := by omega
              go_wp2_with fail
              exact ⟨⟨j + 1, D7, now7, by omega, by go_num, I8.out, L8.out, J7.out, K8.out⟩, by simp [intOf]; omega⟩
        · have hsy' : (bits BinOp.and IntKind.u32 (y / 2 ^ j) 1 == 1) = false := beq_eq_false_iff_ne.2 hsy
          clear hsy
          go_wp2_with fail
          have I6 := Lib.hid (I5.out.far (i := x) (u := .int .u8 z1.toNat) (fun h => h.2 rfl)); have L6 := Lib.hid (L5.out.setCell (p := ⟨a, x, none⟩) hwa (.int .u8 z1.toNat)); have K6 := Lib.hid (K5.out.set_ x (.int .u8 z1.toNat))
          rw [nums_set] at K6
          have J6 := J5
          clear I5 L5 K5 J5 kc kf
          obtain ⟨now7, hn7⟩ : ∃ z, now.set x z1 = z := ⟨_, rfl⟩
          have J7 := J6; have K7 := K6; have I7 := I6; have L7 := L6
          rw [hn7] at J7 K7
          clear hn7 I6 L6 K6 J6
          obtain ⟨D7, hD7⟩ : ∃ z, D5 = z := ⟨_, rfl⟩
          rw [hD7] at I7 J7
          clear hD7
          go_loopw [11] (fun i wr => ∃ q : Nat, q ≤ 3 ∧ i = .int .i64 q ∧ IsF (fun k => w.heap.size ≤ k ∧ k ≠ a) wr g D7 ∧ Below w.heap.size w wr ∧ Blk wr a 45 (byt (nums now7))) (fun i _ => 3 - (intOf i).toNat)
          case atStart => exact ⟨0, by omega, rfl, I7.out, L7.out, K7.out⟩
          case round =>
            obtain ⟨q, hq, rfl, hI, hlow, hK⟩ := hrel
            have I8 := Lib.hid hI; have L8 := Lib.hid hlow; have K8 := Lib.hid hK
            clear hI hlow hK I7 L7 K7
            by_cases hq3 : q < 3
            · have hq3' : (q : Int) < 3 := by omega
              have hqn : q < now7.length := by rw [J7.out.now3]; exact hq3
              have C8 := Lib.hid (readF_f I8.out J7.out.fine (by omega) (q : Int))
              rw [read_pg J7.out.calm now7 J7.out.all q hqn] at C8
              go_wp2_with fail
              ((with_reducible refine C8.out.mono ?_); rintro e w8 ⟨rfl, hl⟩)
              have I9 := Lib.hid (I8.out.below hl); have L9 := Lib.hid (low_then L8.out L8.out.size hl); have K9 := Lib.hid (K8.out.step hl)
              clear hl I8 L8 K8 C8
              have kc := K9.out.cell q
              rw [nums_at now7 q hqn] at kc
              have hfl := fun W => fill_calls now7[q] W
              rw [show bs (pageL now7[q]) = pg now7[q] from rfl] at hfl
              have HFL := Lib.hid hfl
              clear hfl
              generalize now7[q] = z at *
              go_wp2_with fail
              ((with_reducible refine (HFL.out _).mono ?_); rintro e w9 ⟨rfl, hl⟩)
              have I10 := Lib.hid (I9.out.below hl); have L10 := Lib.hid (low_then L9.out L9.out.size hl); have K10 := Lib.hid (K9.out.step hl)
              clear hl I9 L9 K9 kc
              go_wp2_with fail
              exact ⟨⟨q + 1, by omega, by go_num, I10.out, L10.out, K10.out⟩, by simp [intOf]; omega⟩
            · obtain rfl : q = 3 := by omega
              go_wp2_with fail
              exact ⟨⟨j + 1, D7, now7, by omega, by go_num, I8.out, L8.out, J7.out, K8.out⟩, by simp [intOf]; omega⟩
      · obtain rfl : x = 3 := by omega
        rw [write_no J3.out.calm 3 (pg z1) (by rw [J3.out.len]; omega) (pg_size z1)] at C4
        ((with_reducible refine C4.out.mono ?_); rintro e w5 ⟨rfl, hI, hl⟩)
        have I5 := Lib.hid hI; have L5 := Lib.hid (HL.out _ _ hl L4.out); have K5 := Lib.hid (hl.blk K4.out (fun h => h.2 rfl))
        have J5 := Lib.hid (show LastJ (j + 1) D now from ⟨J3.out.fine.mono (by omega), J3.out.calm, J3.out.len, J3.out.now3, J3.out.all⟩)
        clear hI hl C4 I4 L4 K4 J3 hc0 hc1
        by_cases hsy : bits BinOp.and IntKind.u32 (y / 2 ^ j) 1 = 1
        · have hsy' : (bits BinOp.and IntKind.u32 (y / 2 ^ j) 1 == 1) = true := by rw [hsy]; rfl
          clear hsy
          go_wp2_with fail
          have I6 := I5; have L6 := L5; have K6 := K5; have J6 := J5
          clear I5 L5 K5 J5
          have C6 := Lib.hid (syncF_f I6.out J6.out.fine (by omega))
          obtain ⟨e1, hJ⟩ := J6.out.sync
          rw [e1] at C6
          have J7 := Lib.hid hJ
          clear hJ e1 J6
          generalize ({ D with st := putW D.st D.wt, wt := [] } : DM) = D7 at *
          ((with_reducible refine C6.out.mono ?_); rintro e w7 ⟨rfl, hI, hl⟩)
          have I7 := Lib.hid hI; have L7 := Lib.hid (HL.out _ _ hl L6.out); have K7 := Lib.hid (hl.blk K6.out (fun h => h.2 rfl))
          clear hI hl C6 I6 L6 K6
          obtain ⟨now7, hn7⟩ : ∃ z, now = z := ⟨_, rfl⟩
          rw [hn7] at J7 K7
          clear hn7
          go_wp2_with fail
          go_loopw [11] (fun i wr => ∃ q : Nat, q ≤ 3 ∧ i = .int .i64 q ∧ IsF (fun k => w.heap.size ≤ k ∧ k ≠ a) wr g D7 ∧ Below w.heap.size w wr ∧ Blk wr a 45 (byt (nums now7))) (fun i _ => 3 - (intOf i).toNat)
          case atStart => exact ⟨0, by omega, rfl, I7.out, L7.out, K7.out⟩
          case round =>
            obtain ⟨q, hq, rfl, hI, hlow, hK⟩ := hrel
            have I8 := Lib.hid hI; have L8 := Lib.hid hlow; have K8 := Lib.hid hK
            clear hI hlow hK I7 L7 K7
            by_cases hq3 : q < 3
            · have hq3' : (q : Int) < 3 := by omega
              have hqn : q < now7.length := by rw [J7.out.now3]; exact hq3
              have C8 := Lib.hid (readF_f I8.out J7.out.fine (by omega) (q : Int))
              rw [read_pg J7.out.calm now7 J7.out.all q hqn] at C8
              go_wp2_with fail
              ((with_reducible refine C8.out.mono ?_); rintro e w8 ⟨rfl, hl⟩)
              have I9 := Lib.hid (I8.out.below hl); have L9 := Lib.hid (low_then L8.out L8.out.size hl); have K9 := Lib.hid (K8.out.step hl)
              clear hl I8 L8 K8 C8
              have kc := K9.out.cell q
              rw [nums_at now7 q hqn] at kc
              have hfl := fun W => fill_calls now7[q] W
              rw [show bs (pageL now7[q]) = pg now7[q] from rfl] at hfl
              have HFL := Lib.hid hfl
              clear hfl
              generalize now7[q] = z at *
              go_wp2_with fail
              ((with_reducible refine (HFL.out _).mono ?_); rintro e w9 ⟨rfl, hl⟩)
              have I10 := Lib.hid (I9.out.below hl); have L10 := Lib.hid (low_then L9.out L9.out.size hl); have K10 := Lib.hid (K9.out.step hl)
              clear hl I9 L9 K9 kc
              go_wp2_with fail
              exact ⟨⟨q + 1, by omega, by go_num, I10.out, L10.out, K10.out⟩, by simp [intOf]; omega⟩
            · obtain rfl : q = 3 := by omega
              go_wp2_with fail
              exact ⟨⟨j + 1, D7, now7, by omega, by go_num, I8.out, L8.out, J7.out, K8.out⟩, by simp [intOf]; omega⟩
        · have hsy' : (bits BinOp.and IntKind.u32 (y / 2 ^ j) 1 == 1) = false := beq_eq_false_iff_ne.2 hsy
          clear hsy
          go_wp2_with fail
          have I6 := I5; have L6 := L5; have K6 := K5; have J6 := J5
          clear I5 L5 K5 J5
          obtain ⟨now7, hn7⟩ : ∃ z, now = z := ⟨_, rfl⟩
          have J7 := J6; have K7 := K6; have I7 := I6; have L7 := L6
          rw [hn7] at J7 K7
          clear hn7 I6 L6 K6 J6
          obtain ⟨D7, hD7⟩ : ∃ z, D = z := ⟨_, rfl⟩
          rw [hD7] at I7 J7
          clear hD7
          go_loopw [11] (fun i wr => ∃ q : Nat, q ≤ 3 ∧ i = .int .i64 q ∧ IsF (fun k => w.heap.size ≤ k ∧ k ≠ a) wr g D7 ∧ Below w.heap.size w wr ∧ Blk wr a 45 (byt (nums now7))) (fun i _ => 3 - (intOf i).toNat)
          case atStart => exact ⟨0, by omega, rfl, I7.out, L7.out, K7.out⟩
          case round =>
            obtain ⟨q, hq, rfl, hI, hlow, hK⟩ := hrel
            have I8 := Lib.hid hI; have L8 := Lib.hid hlow; have K8 := Lib.hid hK
            clear hI hlow hK I7 L7 K7
            by_cases hq3 : q < 3
            · have hq3' : (q : Int) < 3 := by omega
              have hqn : q < now7.length := by rw [J7.out.now3]; exact hq3
              have C8 := Lib.hid (readF_f I8.out J7.out.fine (by omega) (q : Int))
              rw [read_pg J7.out.calm now7 J7.out.all q hqn] at C8
              go_wp2_with fail
              ((with_reducible refine C8.out.mono ?_); rintro e w8 ⟨rfl, hl⟩)
              have I9 := Lib.hid (I8.out.below hl); have L9 := Lib.hid (low_then L8.out L8.out.size hl); have K9 := Lib.hid (K8.out.step hl)
              clear hl I8 L8 K8 C8
              have kc := K9.out.cell q
              rw [nums_at now7 q hqn] at kc
              have hfl := fun W => fill_calls now7[q] W
              rw [show bs (pageL now7[q]) = pg now7[q] from rfl] at hfl
              have HFL := Lib.hid hfl
              clear hfl
              generalize now7[q] = z at *
              go_wp2_with fail
              ((with_reducible refine (HFL.out _).mono ?_); rintro e w9 ⟨rfl, hl⟩)
              have I10 := Lib.hid (I9.out.below hl); have L10 := Lib.hid (low_then L9.out L9.out.size hl); have K10 := Lib.hid (K9.out.step hl)
              clear hl I9 L9 K9 kc
              go_wp2_with fail
              exact ⟨⟨q + 1, by omega, by go_num, I10.out, L10.out, K10.out⟩, by simp [intOf]; omega⟩
            · obtain rfl : q = 3 := by omega
              go_wp2_with fail
              exact ⟨⟨j + 1, D7, now7, by omega, by go_num, I8.out, L8.out, J7.out, K8.out⟩, by simp [intOf]; omega⟩
    · obtain rfl : j = n := by omega
      go_wp2_with fail
      ((with_reducible refine (wakes_calls _).mono ?_); rintro e w4 ⟨rfl, hl⟩)
      have L4 := Lib.hid (low_then L3.out L3.out.size hl)
      clear hl
      go_wp2_with fail
      go_ret
      exact ⟨rfl, L4.out⟩
end Go.Proofs.Ytofmlmgdbcjeoaa.Dsk
