/- What this text proves: what Lists comes to. -/
import Derived.Test.YtgpnceaplakemaaAlE
namespace Go.Proofs.Ytgpnceaplakemaa.Hp
open Go Go.RowKit Go.ChangeShapes Go.Maps Go.Proofs.Ytgpnceaplakemaa.Base Go.Proofs.Ytgpnceaplakemaa.Own
set_option linter.unusedSimpArgs false

/-- What Lists tells where there are none. -/
def NoneL (w : World) (e : Ending) (w' : World) : Prop := e = .returned (.tuple #[.agg #[.slice none 0 0, .int .i64 0, .int .i64 0], .slice none 0 0, .slice none 0 0, .bool false]) ∧ Below w.heap.size w w'
def SomeL (w : World) (cap : Int) (free : List Int) (len : Int) (T ls : List Int) (e : Ending) (w' : World) : Prop :=
  ∃ v l t, e = .returned (.tuple #[.agg #[v, .int .i64 len, .int .i64 cap], l, t, .bool true]) ∧ w'.ownsRow w.heap.size 3 1 v free.length (ints free) ∧ w'.ownsRow w.heap.size 3 1 l ls.length (ints ls) ∧ w'.ownsRow w.heap.size 3 1 t (leftL T len).length (ints (leftL T len)) ∧ Below w.heap.size w w'
def LsPost (w : World) (cap : Int) (r : Option (List Int × Int × List Int × List Int)) (e : Ending) (w' : World) : Prop :=
  match r with
  | none => NoneL w e w'
  | some (free, len, T, ls) => SomeL w cap free len T ls e w'
set_option maxHeartbeats 3200000 in
set_option maxRecDepth 100000 in
theorem lists_bad (A A1 : Option Addr) (c c1 n1 : Nat) (free : List Int) (len cap : Int) (w : World) (h : RowOf w A c free) (hn : free.length ≤ 9223372036854775807) (ht : aGood free len cap = false) :
    Calls Try.prog 26 #[.agg #[.slice A free.length c, .int .i64 len, .int .i64 cap], .slice A1 n1 c1] w (NoneL w) := by
  have LB := Lib.hid (bel_alloc (bel_alloc (Below.refl w.heap.size w) (.cells #[.slice A free.length c, .int .i64 len, .int .i64 cap] 41)) (.cells #[.slice none 0 0, .int .i64 0, .int .i64 0] 41))
  have KZ := Lib.hid (Blk.new (w.alloc (.cells #[.slice A free.length c, .int .i64 len, .int .i64 cap] 41)) 41 [.slice none 0 0, .int .i64 0, .int .i64 0])
  have CG := Lib.hid (good_calls A c free len cap _ (h.below LB.out) hn)
  rw [ht] at CG
  rw [show (w.alloc (.cells #[.slice A free.length c, .int .i64 len, .int .i64 cap] 41)).heap.size = w.heap.size + 1 by simp] at KZ
  clear h ht
  generalize free.length = n at *
  unfold NoneL
  go_enter Try.func26, Try.ntmps26
  go_wp2_with fail
  ((with_reducible refine CG.out.mono ?_); rintro e w1 ⟨rfl, hl⟩)
  have Z1 := KZ.out.step hl
  have L1 := Lib.hid (bel_then LB.out hl)
  have z0 := Z1.cell 0; have z1 := Z1.cell 1; have z2 := Z1.cell 2
  have y0 := Z1.frozen 0; have y1 := Z1.frozen 1; have y2 := Z1.frozen 2
  clear CG hl
  go_wp2_with fail
  have Z2 := blk_set3 Z1 (.slice none 0 0) (.int .i64 0) (.int .i64 0)
  have q0 := Z2.cell 0; have q1 := Z2.cell 1; have q2 := Z2.cell 2
  unfold wset3 at q0 q1 q2
  refine bodyPost_ret (v := .tuple #[.agg #[.slice none 0 0, .int .i64 0, .int .i64 0], .slice none 0 0, .slice none 0 0, .bool false]) (by simp [results, Try.results26, go_sem, q0, q1, q2]) rfl ⟨rfl, bel_set3 L1.out (Nat.le_succ _) _ _ _⟩
theorem ls_step {free T ls : List Int} {len cap : Int} (hg : aGood free len cap = true) (h : free ≠ [] ∨ len < cap) (hm : 20 * ls.length < (leftL T len).length) :
    ∃ p, tkL free len 1 = [p] ∧ lsGo cap (fuelL free len cap) free len T ls = lsGo cap (fuelL (free.drop 1) (len + ((1 - free.length : Nat) : Int)) cap) (free.drop 1) (len + ((1 - free.length : Nat) : Int)) (T ++ [p]) (ls ++ [p]) ∧ aGood (free.drop 1) (len + ((1 - free.length : Nat) : Int)) cap = true ∧ fuelL free len cap = fuelL (free.drop 1) (len + ((1 - free.length : Nat) : Int)) cap + 1 ∧ 1 ≤ p ∧ p ≤ 200 := by
  obtain ⟨h1, h2, h3, h4⟩ := aGood_iff.1 hg
  cases free with
  | cons a r =>
    have e : len + ((1 - (a :: r).length : Nat) : Int) = len := by simp
    rw [e]
    refine ⟨a, by simp [tkL], lsGo_pop rfl hm, aGood_tail hg, by simp [fuelL]; omega, ?_⟩
    simp only [goodL, Bool.and_eq_true, decide_eq_true_eq] at h4
    omega
  | nil =>
    have hl : len < cap := by simpa using h
    have e : len + ((1 - ([] : List Int).length : Nat) : Int) = len + 1 := by simp
    rw [e]
    exact ⟨len, by simp [tkL], lsGo_more rfl hl hm, aGood_more hg hl, by simp [fuelL]; omega, by omega⟩
/-- A slice's length. -/
def slL : Value → Nat
  | .slice _ n _ => n
  | _ => 0
theorem tOk_one {free : List Int} {len cap : Int} (hg : aGood free len cap = true) (h : free ≠ [] ∨ len < cap) : tOk free len cap (1 : Nat) = true := by
  obtain ⟨h1, h2, h3, _⟩ := aGood_iff.1 hg
  unfold tOk
  rw [hg, decide_eq_true (show (0 : Int) ≤ (1 : Nat) by decide), Bool.true_and, Bool.true_and]
  refine decide_eq_true ?_
  rcases h with h | h
  · have := List.length_pos_iff.2 h
    omega
  · omega
theorem tOk_not {len cap : Int} (h : ¬ len < cap) (h2 : len ≤ cap) : tOk [] len cap 1 = false := by
  unfold tOk
  rw [decide_eq_false (show ¬ ((1 : Int) - (([] : List Int).length : Int) ≤ cap - len) by simp; omega), Bool.and_false]
set_option maxHeartbeats 12800000 in
set_option maxRecDepth 100000 in
theorem lists_good (A A1 : Option Addr) (c c1 : Nat) (free used : List Int) (len cap : Int) (w : World) (h : RowOf w A c free) (h1 : RowOf w A1 c1 used) (hu : used.length ≤ 1000) (hwf : ∀ v ∈ used, -9223372036854775808 ≤ v ∧ v ≤ 9223372036854775807) (ht : aGood free len cap = true) :
    Calls Try.prog 26 #[.agg #[.slice A free.length c, .int .i64 len, .int .i64 cap], .slice A1 used.length c1] w (LsPost w cap (lsGo cap (fuelL free len cap) free len used [])) := by
  obtain ⟨i0, hi, hz0, hz1, hz2⟩ := info_parts info3
  have hmm := @run_makeMap Try.prog
  have LB := Lib.hid (bel_alloc (bel_alloc (Below.refl w.heap.size w) (.cells #[.slice A free.length c, .int .i64 len, .int .i64 cap] 41)) (.cells #[.slice none 0 0, .int .i64 0, .int .i64 0] 41))
  have KB := Lib.hid ((Blk.new w 41 [.slice A free.length c, .int .i64 len, .int .i64 cap]).alloc (.cells #[.slice none 0 0, .int .i64 0, .int .i64 0] 41))
  have KZ := Lib.hid (Blk.new (w.alloc (.cells #[.slice A free.length c, .int .i64 len, .int .i64 cap] 41)) 41 [.slice none 0 0, .int .i64 0, .int .i64 0])
  have hnn := aGood_length ht
  have CG := Lib.hid (good_calls A c free len cap _ (h.below LB.out) (by omega))
  rw [ht] at CG
  rw [show (w.alloc (.cells #[.slice A free.length c, .int .i64 len, .int .i64 cap] 41)).heap.size = w.heap.size + 1 by simp] at KZ
  have CC := Lib.hid (fun (w1 : World) (hb : Below w.heap.size w w1) => clone_calls A c free w1 (h.below hb).arg (fun e => (h.nil e).1) (by omega))
  have HU := Lib.hid h1; have HG := Lib.hid ht; have HW := Lib.hid hwf
  obtain ⟨n, hn⟩ : ∃ n, free.length = n := ⟨_, rfl⟩
  obtain ⟨m, hm⟩ : ∃ m, used.length = m := ⟨_, rfl⟩
  have HN := Lib.hid hn; have HM := Lib.hid hm
  rw [hn] at hnn CG CC KB KZ LB ⊢
  rw [hm] at hu ⊢
  clear h h1 ht hn hm hwf
  go_enter Try.func26, Try.ntmps26
  go_wp2_with fail
  ((with_reducible refine CG.out.mono ?_); rintro e w1 ⟨rfl, hl⟩)
  have K1 := KB.out.step hl; have Z1 := Lib.hid (KZ.out.step hl); have L1 := Lib.hid (bel_then LB.out hl)
  have hs1 := hl.size
  have c0 := K1.cell 0; have c1' := K1.cell 1; have c2 := K1.cell 2
  have K1 := Lib.hid K1
  simp only [World.size_alloc] at hs1
  clear CG hl KB KZ LB
  go_wp2_with fail
  have CC1 := Lib.hid (CC.out w1 L1.out)
  clear CC
  ((with_reducible refine CC1.out.mono ?_); rintro e w2 ⟨vf, rfl, hv, hl⟩)
  obtain ⟨Af, cf, rfl⟩ := own_form hv
  have K2 := K1.out.step hl
  have f0 := K2.frozen 0; have d0 := K2.cell 0
  have hs2 := hl.size
  go_upto_region 4 with fail
  have L2 := Lib.hid (bel_set (bel_then L1.out hl) (Nat.le_refl _) 0 (.slice Af n cf))
  have KA := Lib.hid (K2.set_ 0 (.slice Af n cf))
  have ZA := Lib.hid ((Z1.out.step hl).far (p := ⟨w.heap.size, 0, none⟩) (by simp) (.slice Af n cf))
  have OA := Lib.hid (own_set_far (own_base hv fun k hk => by have := (own_lt hv k hk).1; exact Nat.le_trans hs1 this) (fun e => by have := (own_lt hv _ e).1; omega) 0 (.slice Af n cf) : (w2.setCell ⟨w.heap.size, 0, none⟩ (.slice Af n cf)).ownsRow (w.heap.size + 2) 3 1 (.slice Af n cf) n (ints free))
  have hs3 : w.heap.size + 2 ≤ (w2.setCell ⟨w.heap.size, 0, none⟩ (.slice Af n cf)).heap.size := by simp [World.setCell]; omega
  clear c0 c1' c2 f0 d0 K1 K2 Z1 L1 hl hv CC1 hs1 hs2
  generalize w2.setCell ⟨w.heap.size, 0, none⟩ (.slice Af n cf) = W2 at *
  obtain ⟨bm, hbm⟩ : ∃ bm, W2.heap.size = bm := ⟨_, rfl⟩
  have LI0 : Hid (LI w (W2.alloc (.map #[] 0)) bm 0 [] (.slice Af n cf) free len cap (.slice none 0 0) []) := by
    refine ⟨⟨.map [], by rw [← hbm]; exact World.ownsMap_made _ _ _ _, fun x => by simp [Maps.has]⟩, KA.out.alloc _, ZA.out.alloc _, by rw [HN.out]; exact OA.out.alloc _, ⟨rfl, .inl ⟨rfl, rfl⟩⟩, (by cases Af; exact .inl rfl; exact .inr (by simp [Value.ownBlock])), bel_alloc L2.out _, by simp; omega⟩
  have hbm2 : w.heap.size ≤ bm := by omega
  clear L2 KA ZA OA hs3
  go_wp2_with fail
  clear hbm
  go_loopw [27] (fun i wr => ∃ k : Nat, k ≤ m ∧ i = .int .i64 k ∧ LI w wr bm k (used.take k) (.slice Af n cf) free len cap (.slice none 0 0) []) (fun i _ => m - (intOf i).toNat)
  case atStart => exact ⟨0, Nat.zero_le _, rfl, LI0.out⟩
  case round =>
    obtain ⟨k, hk, rfl, hI⟩ := hrel
    have I := Lib.hid hI
    clear LI0 hI
    by_cases hlt : k < m
    · have hkm : (k : Int) < m := by omega
      have hku : k < used.length := by rw [HM.out]; exact hlt
      obtain ⟨b, o, rfl, hb, hc⟩ := (HU.out.below I.out.bel).arg k hku
      obtain ⟨D, hown, hhas⟩ := I.out.tk
      have X : Hid (used.take (k + 1) = used.take k ++ [used[k]]) := by unfold Hid; rw [List.take_add_one, List.getElem?_eq_getElem hku]; rfl
      have hkey := key3 (HW.out used[k] (List.getElem_mem hku))
      generalize used[k] = u at *
      go_wp2_with (first | (at_mapUpdate; refine wpList_mapUpdate_own _ rfl _ _ _ 70 rfl 3 3 law3 Try.underlying70 (plainElem Try.prog 3) bm k D rfl hown (by unfold maxLen; omega) _ _ _ rfl rfl hkey (.lit (.int .i64 k)) [] (plainElem_int Try.underlying3 (WalkArith.wf_i64 (by omega))) ?_; intro w4 hown4 hgr4; have J := Lib.hid (I.out.put (isT_put hown.isMap hhas hown4) hgr4 hbm2); clear hown4 hgr4) | fail)
      exact ⟨⟨k + 1, by omega, by go_num, by rw [X.out]; exact J.out⟩, by simp [intOf]; omega⟩
    · obtain rfl : m = k := by omega
      rw [List.take_of_length_le (by rw [HM.out]; omega)] at I
      obtain ⟨hg1, hg2, hg3, _⟩ := aGood_iff.1 HG.out
      have c1' := I.out.blk.cell 1
      have CLf := Lib.hid (left_calls bm m used len wr I.out.tk hg1 (by omega))
      go_wp2_with fail
      ((with_reducible refine CLf.out.mono ?_); rintro e w5 ⟨vt, rfl, hv, hl⟩)
      have OT := Lib.hid (own_base hv fun k hk => by have := (own_lt hv k hk).1; exact Nat.le_trans I.out.siz this : w5.ownsRow (w.heap.size + 2) 3 1 vt (leftL used len).length (ints (leftL used len)))
      have I5 := Lib.hid (I.out.step hl)
      clear hv hl CLf I c1'
      go_wp2_with fail
      go_loopw [11, 12] (fun vl vt wr => ∃ (q : Nat) (T fr ls : List Int) (x : Int) (vf : Value), LI w wr bm q T vf fr x cap vl ls ∧ wr.ownsRow (w.heap.size + 2) 3 1 vt (leftL T x).length (ints (leftL T x)) ∧ aGood fr x cap = true ∧ lsGo cap (fuelL fr x cap) fr x T ls = lsGo cap (fuelL free len cap) free len used [] ∧ ls.length + fuelL fr x cap ≤ 400 ∧ q + fuelL fr x cap ≤ 2000) (fun vl _ _ => 400 - slL vl)
      case atStart => exact ⟨m, used, free, [], len, _, I5.out, OT.out, HG.out, rfl, by have := HN.out; simp [fuelL]; omega, by have := HN.out; simp [fuelL]; omega⟩
      case round =>
        clear I5 OT
        obtain ⟨q, T, fr, ls, x, vf, hI, hO, hG, hR, hf, hq⟩ := hrel
        obtain ⟨Al, cl, rfl⟩ := own_form hI.lst
        obtain ⟨At, ct, rfl⟩ := own_form hO
        obtain ⟨Ag, cg, rfl⟩ := own_form hI.own
        have I := Lib.hid hI; have O := Lib.hid hO
        have c0 := hI.blk.cell 0; have c1' := hI.blk.cell 1; have c2 := hI.blk.cell 2
        have hlx := leftN_length T (x - 2).toNat
        obtain ⟨hg1, hg2, hg3, _⟩ := aGood_iff.1 hG
        have hnl : ls.length ≤ 400 := by omega
        have hnt : (leftL T x).length ≤ 200 := by unfold leftL; omega
        clear hI hO hlx
        by_cases hmore : 20 * ls.length < (leftL T x).length
        · by_cases hroom : fr ≠ [] ∨ x < cap
          · obtain ⟨p, hp1, hp2, hp3, hp4, hp5, hp6⟩ := ls_step (ls := ls) hG hroom hmore
            have CT := take_yes Ag cg fr x cap 1 wr (rowOf_own I.out.own) (tOk_one hG hroom)
            unfold TkPost at CT
            rw [show (((1 : Nat) : Int)) = 1 from rfl] at CT
            rw [hp1] at CT
            have HR := Lib.hid (hp2.symm.trans hR); have HG3 := Lib.hid hp3; have HF := Lib.hid hp4; have C := Lib.hid CT
            have hml : (20 : Int) * (ls.length : Int) < ((leftL T x).length : Int) := by omega
            clear CT hp1 hp2 hp3 hp4 hR hG hmore hroom
            generalize hnr : fr.length = nr at *
            generalize hnls : ls.length = nl at *
            generalize (leftL T x).length = nt at *
            generalize fr.drop 1 = fr' at *
            generalize x + ((1 - nr : Nat) : Int) = x' at *
            have HNL := Lib.hid hnls
            clear hnr hnls
            go_upto_region 13 with fail
            go_wp2_with fail
            ((with_reducible refine C.out.mono ?_); rintro e w6 ⟨v, u, rfl, hv, hu6, hl⟩)
            obtain ⟨Av, cv, rfl⟩ := own_form hv
            obtain ⟨Au, cu, rfl⟩ := own_form hu6
            obtain ⟨nv, hnv⟩ : ∃ nv, fr'.length = nv := ⟨_, rfl⟩
            have HNV := Lib.hid hnv
            rw [hnv] at hv ⊢
            have hs0 := I.out.siz
            have I6 := I.out.step hl
            have I6a := I6.blk.alloc (.cells #[.slice Av nv cv, .int .i64 x', .int .i64 cap] 41)
            have k0 := I6a.cell 0; have k1 := I6a.cell 1; have k2 := I6a.cell 2
            have f0 := I6a.frozen 0; have f1 := I6a.frozen 1; have f2 := I6a.frozen 2
            have hge : ∀ (v : Value), (∀ k, v.ownBlock = some k → wr.heap.size ≤ k) → v.ownBlock = none ∨ v.ownBlock ≠ (Value.slice Al nl cl).ownBlock := fun v h => by
              cases hvb : v.ownBlock with
              | none => exact .inl rfl
              | some k =>
                refine .inr fun e => ?_
                have := (own_lt I.out.lst k e.symm).2
                have := h k hvb
                omega
            have I7 := Lib.hid ((I6.step (bel_alloc (Below.refl _ _) (.cells #[.slice Av nv cv, .int .i64 x', .int .i64 cap] 41))).take (v' := .slice Av nv cv) (free' := fr') (x' := x') (by rw [HNV.out]; exact own_base (hv.alloc _) fun k hk => by have := (own_lt hv k hk).1; omega) (hge _ fun k hk => (own_lt hv k hk).1))
            have hu7 := own_far3 (g := w.heap.size) (hu6.alloc (.cells #[.slice Av nv cv, .int .i64 x', .int .i64 cap] 41)) (fun e => by have := (own_lt hu6 _ e).1; omega) (.slice Av nv cv) (.int .i64 x') (.int .i64 cap)
            have U7 := Lib.hid hu7
            unfold wset3 at I7 U7
            clear hnv hl hv hu6 hu7 hge I6 I6a C I O c0 c1' c2
            go_upto_region 17 with fail
            generalize (((w6.alloc (.cells #[.slice Av nv cv, .int .i64 x', .int .i64 cap] 41)).setCell ⟨w.heap.size, 0, none⟩ (.slice Av nv cv)).setCell ⟨w.heap.size, 1, none⟩ (.int .i64 x')).setCell ⟨w.heap.size, 2, none⟩ (.int .i64 cap) = W7 at *
            clear k0 k1 k2 f0 f1 f2
            obtain ⟨bu, rfl, hbu, hcu⟩ := own_cell U7.out (Nat.lt_succ_self 0)
            have cu0 : W7.drew.cell? ⟨bu, 0, none⟩ = some (.int .i64 p) := by
              have := hcu 0 (by decide)
              simpa [ints] using this
            obtain ⟨D, hown, hhas⟩ := I7.out.tk
            have hsz := hown.size_le
            have hlen := fun ty => (hown.drew).len (t := 70) Try.underlying70 ty
            obtain ⟨w8, hrun, hown8, hgr8⟩ := (hown.drew).update law3 Try.underlying70 (show q < maxLen by unfold maxLen; omega) (key3 (x := p) (by omega)) (val := .int .i64 (Maps.size D : Int)) (plainElem_int Try.underlying3 (WalkArith.wf_i64 (by omega)))
            replace hgr8 : W7.grownBy w8 (some bm) := ⟨hgr8.os, hgr8.tape, hgr8.output, hgr8.size, hgr8.block⟩
            have J8 := Lib.hid (I7.out.put (isT_put hown.isMap hhas hown8) hgr8 hbm2)
            have U8 := Lib.hid (U7.out.kept hgr8 (.inr (own_ne_map U7.out I7.out.tk)))
            clear hown8 hgr8 hhas hcu hsz I7 U7
            go_region
            clear hlen hrun hown cu0 hbu
            have cu8 : w8.cell? ⟨bu, 0, none⟩ = some (.int .i64 p) := by
              obtain ⟨b', e, _, h⟩ := own_cell U8.out (Nat.lt_succ_self 0)
              obtain rfl : bu = b' := by simpa using e
              have := h 0 (by decide)
              simpa [ints] using this
            have XI := Lib.hid (ints_snoc ls p)
            have XL := Lib.hid (show (ls ++ [p]).length = nl + 1 by simp [HNL.out])
            have OL := Lib.hid (HNL.out ▸ J8.out.lst)
            have hs8 := J8.out.siz
            go_wp2_with (first | (at_builtin; refine wpList_append_own_at _ rfl _ _ 22 rfl (w.heap.size + 2) 3 i0 (.int .i64 0) 1 8 Try.underlying22 hi hz0 hz1 hz2 rfl (by decide) (.slice Al nl cl) nl (ints ls) rfl (OL.out.alloc _) ⟨w8.heap.size, 0, none⟩ 1 1 [.int .i64 p] rfl rfl (World.news_of_block (cs := #[.int .i64 p]) (t := 3) (fr := (0, 0)) (by simpa using heap_alloc_new _ _)) (by simp [Value.oneCell']) (by unfold maxLen; omega) (by omega) (by simp; omega) ?_; intro u' w9 hown9 hgr9 _ hat9; have J9 := Lib.hid (J8.out.app (ls' := ls ++ [p]) (by rw [XL.out, XI.out]; exact hown9) hgr9 (hat9.imp id fun h => by simpa using h)); have d1 := J9.out.blk.cell 1; obtain ⟨A9, c9, rfl⟩ := own_form hown9; clear hown9 hgr9 hat9) | fail)
            obtain ⟨hx1, hx2, _, _⟩ := aGood_iff.1 HG3.out
            have CL9 := Lib.hid (left_calls bm (q + 1) (T ++ [p]) x' w9 J9.out.tk hx1 (by omega))
            ((with_reducible refine CL9.out.mono ?_); rintro e w10 ⟨vt', rfl, hv, hl⟩)
            have O10 := Lib.hid (own_base hv fun k hk => by have := (own_lt hv k hk).1; exact Nat.le_trans J9.out.siz this : w10.ownsRow (w.heap.size + 2) 3 1 vt' (leftL (T ++ [p]) x').length (ints (leftL (T ++ [p]) x')))
            have J10 := Lib.hid (J9.out.step hl)
            clear hv hl CL9 J9 d1
            go_wp2_with fail
            refine ⟨⟨q + 1, T ++ [p], fr', ls ++ [p], x', _, J10.out, O10.out, HG3.out, HR.out, ?_, ?_⟩, ?_⟩
            · have := HF.out
              have := XL.out
              omega
            · have := HF.out
              omega
            · have := HF.out
              simp [slL]
              omega
          · have hfr : fr = [] := by
              cases fr with
              | nil => rfl
              | cons a r => exact absurd (.inl (by simp)) hroom
            subst hfr
            have hnx : ¬ x < cap := fun h => hroom (.inr h)
            have CT := Lib.hid (take_no Ag cg [] x cap 1 wr (rowOf_own I.out.own) (by simp) (by decide) (tOk_not hnx hg2))
            have RN := Lib.hid (hR.symm.trans (lsGo_none hnx hmore))
            have hml : (20 : Int) * (ls.length : Int) < ((leftL T x).length : Int) := by omega
            unfold NoPost at CT
            rw [show (([] : List Int).length) = 0 from rfl] at CT
            clear hR hG hmore hroom hnx
            generalize ls.length = nl at *
            generalize (leftL T x).length = nt at *
            go_upto_region 13 with fail
            go_wp2_with fail
            ((with_reducible refine CT.out.mono ?_); rintro e w6 ⟨rfl, hl⟩)
            have I6 := I.out.step hl
            have hs6 := Nat.le_trans I.out.siz hl.size
            have I7 := I6.step (bel_alloc (Below.refl _ _) (.cells #[.slice none 0 0, .int .i64 0, .int .i64 0] 41))
            have z0 := I7.zer.cell 0; have z1 := I7.zer.cell 1; have z2 := I7.zer.cell 2
            have y0 := I7.zer.frozen 0; have y1 := I7.zer.frozen 1; have y2 := I7.zer.frozen 2
            have J := Lib.hid I7
            clear hl CT I6 I7 I O c0 c1' c2
            go_wp2_with fail
            have Z4 := blk_set3 J.out.zer (.slice none 0 0) (.int .i64 0) (.int .i64 0)
            have q0 := Z4.cell 0; have q1 := Z4.cell 1; have q2 := Z4.cell 2
            unfold wset3 at q0 q1 q2
            rw [RN.out]
            refine bodyPost_ret (v := .tuple #[.agg #[.slice none 0 0, .int .i64 0, .int .i64 0], .slice none 0 0, .slice none 0 0, .bool false]) (by simp [results, Try.results26, go_sem, q0, q1, q2]) rfl ⟨rfl, bel_set3 J.out.bel (Nat.le_succ _) _ _ _⟩
        · have RN := Lib.hid (hR.symm.trans (lsGo_done hmore))
          have hml : ¬ (20 : Int) * (ls.length : Int) < ((leftL T x).length : Int) := by omega
          clear hR hG hmore
          generalize hnls : ls.length = nl at *
          generalize hnts : (leftL T x).length = nt at *
          generalize hnfr : fr.length = nf at *
          have N1 := Lib.hid hnls; have N2 := Lib.hid hnts; have N3 := Lib.hid hnfr
          clear hnls hnts hnfr
          have z0 := I.out.zer.cell 0; have z1 := I.out.zer.cell 1; have z2 := I.out.zer.cell 2
          have y0 := I.out.zer.frozen 0; have y1 := I.out.zer.frozen 1; have y2 := I.out.zer.frozen 2
          go_wp2_with fail
          have Z4 := blk_set3 I.out.zer (.slice Ag nf cg) (.int .i64 x) (.int .i64 cap)
          have q0 := Z4.cell 0; have q1 := Z4.cell 1; have q2 := Z4.cell 2
          unfold wset3 at q0 q1 q2
          rw [RN.out]
          have hbf := fun (k : Nat) (hk : (Value.slice Ag nf cg).ownBlock = some k) => (own_lt I.out.own k hk).1
          have hbl := fun (k : Nat) (hk : (Value.slice Al nl cl).ownBlock = some k) => (own_lt I.out.lst k hk).1
          have hbt := fun (k : Nat) (hk : (Value.slice At nt ct).ownBlock = some k) => (own_lt O.out k hk).1
          refine bodyPost_ret (v := .tuple #[.agg #[.slice Ag nf cg, .int .i64 x, .int .i64 cap], .slice Al nl cl, .slice At nt ct, .bool true]) (by simp [results, Try.results26, go_sem, q0, q1, q2]) rfl ⟨.slice Ag nf cg, .slice Al nl cl, .slice At nt ct, rfl, ?_, ?_, ?_, bel_set3 I.out.bel (Nat.le_succ _) _ _ _⟩
          · exact own_far3 (own_base I.out.own fun k hk => by have := hbf k hk; omega) (fun e => by have := hbf _ e; omega) _ _ _
          · exact own_far3 (own_base I.out.lst fun k hk => by have := hbl k hk; omega) (fun e => by have := hbl _ e; omega) _ _ _
          · rw [N2.out]
            exact own_far3 (own_base O.out fun k hk => by have := hbt k hk; omega) (fun e => by have := hbt _ e; omega) _ _ _
end Go.Proofs.Ytgpnceaplakemaa.Hp
