/- What this text proves: whether the reference makes a disk of pages. -/
import Derived.Test.YtofmlmgdbcjeoaaRefA
import Derived.Laws.AppendOwnNone
namespace Go.Proofs.Ytofmlmgdbcjeoaa.Dsk
open Go Go.RowKit Go.Proofs Go.Proofs.Ytofmlmgdbcjeoaa.Base
set_option linter.unusedSimpArgs false

theorem StrArg.news {w : World} {b o : Nat} {l : List ByteArray} (h : StrArg w (some ⟨b, o, none⟩) l) : ∀ j u, (strs l)[j]? = some u → w.cell? ((⟨b, o, none⟩ : Addr).add j) = some u := by
  intro j u hj
  have hlt : j < l.length := by have := (List.getElem?_eq_some_iff.1 hj).1; simpa [strs] using this
  obtain ⟨b', o', e, _, hc⟩ := h j hlt
  obtain ⟨rfl, rfl⟩ : b = b' ∧ o = o' := by simpa using e
  rw [strs_at _ _ hlt] at hj
  rw [add_none, hc]
  exact hj
theorem made0 (w : World) : (w.alloc (.cells #[] 9)).ownsRow w.heap.size 9 1 (.slice (some ⟨w.heap.size, 0, none⟩) 0 0) 0 [] :=
  World.ownsRow_made w #[] 0 (Nat.le_refl _) (Nat.zero_le _) rfl
theorem ne256' {s : ByteArray} (h : s.size = 256) : ((s.size : Int) != 256) = false := by rw [h]; rfl
theorem row_ne {w W : World} (h : W.heap.size = w.heap.size + 1) : some w.heap.size ≠ Value.ownBlock (.slice (some ⟨W.heap.size, 0, none⟩) 0 0) := by
  intro e
  have : w.heap.size = W.heap.size := by simpa [Value.ownBlock] using e
  omega
theorem row_ge {w W : World} (h : W.heap.size = w.heap.size + 1) : ∀ k, Value.ownBlock (.slice (some ⟨W.heap.size, 0, none⟩) 0 0) = some k → w.heap.size ≤ k := by
  intro k e
  have : W.heap.size = k := by simpa [Value.ownBlock] using e
  omega
def RFromPost (pages : List ByteArray) (lim : Int) (w : World) (e : Ending) (w' : World) : Prop := ∃ p, e = .returned (.tuple #[.pointer p, .bool (goodF pages lim)]) ∧ Below w.heap.size w w'
theorem good_bad {pages : List ByteArray} {lim : Int} {k : Nat} (hk : k < pages.length) (hb : pages[k].size ≠ 256) : goodF pages lim = false := by
  have : pages.any badP = true := List.any_eq_true.2 ⟨_, List.getElem_mem hk, by simp [badP, hb]⟩
  simp [goodF, this]
theorem good_ok {pages : List ByteArray} {lim : Int} (h1 : goodR lim = true) (h2 : (pages.length : Int) ≤ lim) (h3 : ∀ j (h : j < pages.length), pages[j].size = 256) : goodF pages lim = true := by
  have : pages.any badP = false := by
    rw [List.any_eq_false]
    intro s hs
    obtain ⟨j, hj, rfl⟩ := List.getElem_of_mem hs
    simp [badP, h3 j hj]
  simp [goodR] at h1
  simp only [goodF, this]
  simp
  omega
set_option maxHeartbeats 3200000 in
set_option maxRecDepth 100000 in
theorem rfrom_calls (A : Option Addr) (c : Nat) (pages : List ByteArray) (lim : Int) (w : World) (h : StrArg w A pages) (hA : A = none → pages = [] ∧ c = 0) (hoff : ∀ a, A = some a → ∃ b o, a = ⟨b, o, none⟩) (hn : pages.length ≤ 1000000) :
    Calls Try.prog 22 #[.slice A pages.length c, .int .i64 lim] w (RFromPost pages lim w) := by
  obtain ⟨i0, hi, hz0, hz1, hz2⟩ := info_parts info9
  have HR := Lib.hid (rnew_calls lim w)
  obtain ⟨n, hnn⟩ : ∃ n, pages.length = n := ⟨_, rfl⟩
  have HN := Lib.hid hnn
  have HP := Lib.hid h
  rw [hnn] at hn ⊢
  clear hnn h
  go_enter Try.func22, Try.ntmps22
  go_wp2_with fail
  ((with_reducible refine HR.out.mono ?_); rintro e w1 (⟨hg, rfl, rfl⟩ | ⟨hg, rfl, rfl⟩))
  · have HG : Hid (goodF pages lim = false) := by
      simp only [goodR] at hg
      simp only [Hid, goodF, hg]
      simp
    clear hg HR
    go_wp2_with fail
    go_ret2
    exact ⟨none, by rw [HG.out]; rfl, Below.refl _ _⟩
  have HGR := Lib.hid hg
  clear hg HR
  have HB1 := Lib.hid (Blk.new w 66 [.int .i64 lim, .slice none 0 0, .slice none 0 0, .int .i64 (-1), .bool false])
  have HL1 := Lib.hid (bel_alloc (Below.refl w.heap.size w) (.cells #[.int .i64 lim, .slice none 0 0, .slice none 0 0, .int .i64 (-1), .bool false] 66))
  have hsz : (w.alloc (.cells #[.int .i64 lim, .slice none 0 0, .slice none 0 0, .int .i64 (-1), .bool false] 66)).heap.size = w.heap.size + 1 := by simp
  have HZ := Lib.hid hsz
  clear hsz
  generalize hW : w.alloc (.cells [.int .i64 lim, .slice none 0 0, .slice none 0 0, .int .i64 (-1), .bool false].toArray 66) = W at *
  clear hW
  by_cases h3 : lim < (n : Int)
  · have HG : Hid (goodF pages lim = false) := by simp [Hid, goodF]; intros; have := HN.out; omega
    have h3' : decide (lim < (n : Int)) = true := decide_eq_true h3
    clear h3
    go_wp2_with fail
    go_ret2
    exact ⟨none, by rw [HG.out]; rfl, HL1.out⟩
  have H3 := Lib.hid h3
  have h3' : decide (lim < (n : Int)) = false := decide_eq_false h3
  clear h3
  go_wp2_with fail
  go_loopw [8] (fun i wr => ∃ k : Nat, k ≤ n ∧ i = .int .i64 k ∧ (∀ j (h : j < pages.length), j < k → pages[j].size = 256) ∧ W = wr) (fun i _ => n - (intOf i).toNat)
  case atStart => exact ⟨0, Nat.zero_le _, rfl, fun j _ hj => absurd hj (by omega), rfl⟩
  case round =>
    obtain ⟨k, hk, rfl, hall, rfl⟩ := hrel
    by_cases hlt : k < n
    · have hkl : k < pages.length := by rw [HN.out]; exact hlt
      obtain ⟨b, o, rfl, hbl, hcell⟩ := (HP.out.below HL1.out) k hkl
      have hkn : (k : Int) < n := by omega
      by_cases hs : pages[k].size = 256
      · have HA := Lib.hid (show ∀ j (h : j < pages.length), j < k + 1 → pages[j].size = 256 from fun j hj hjk => by
          by_cases e : j = k
          · subst e; exact hs
          · exact hall j hj (by omega))
        have hs' := ne256' hs
        clear hall hs
        generalize pages[k] = s at *
        go_wp2_with fail
        exact ⟨⟨k + 1, by omega, by go_num, HA.out, trivial⟩, by simp [intOf]; omega⟩
      · have HG := Lib.hid (good_bad (lim := lim) hkl hs)
        have hs' : ((pages[k].size : Int) != 256) = true := by rw [bne_iff_ne]; omega
        clear hall hs
        generalize pages[k] = s at *
        go_wp2_with fail
        go_ret2
        exact ⟨none, by rw [HG.out]; rfl, HL1.out⟩
    · obtain rfl : n = k := by omega
      have HG := Lib.hid (good_ok HGR.out (by have := H3.out; have := HN.out; omega) (fun j h => hall j h (by have := HN.out; omega)))
      clear hall
      have M0 := made0 W
      cases A with
      | none =>
        obtain ⟨hp, rfl⟩ := hA rfl
        have hn0 : n = 0 := by rw [← HN.out, hp]; rfl
        subst hn0
        clear hp hA
        have z1 := (HB1.out.alloc (.cells #[] 9)).cell 1; have z2 := (HB1.out.alloc (.cells #[] 9)).frozen 1
        have HLX := Lib.hid (bel_set (bel_alloc HL1.out (.cells #[] 9)) (Nat.le_refl _) 1 (.slice (some ⟨W.heap.size, 0, none⟩) 0 0))
        have HM := Lib.hid M0
        clear M0 hoff
        go_wp2_with (at_builtin; refine wpList_append_own_none rfl _ _ 47 rfl W.heap.size 9 i0 1 Try.underlying47 hi _ 0 [] rfl HM.out rfl ?_)
        go_ret2
        exact ⟨some ⟨w.heap.size, 0, none⟩, by rw [HG.out]; rfl, HLX.out⟩
      | some ad =>
        obtain ⟨b, o, rfl⟩ := hoff ad rfl
        have HM := Lib.hid M0
        have HNW := Lib.hid ((HP.out.below (bel_alloc HL1.out (.cells #[] 9))).news)
        clear M0 hoff hA
        go_wp2_with (at_builtin; refine wpList_append_own _ rfl _ _ 47 rfl W.heap.size 9 i0 (.string ⟨#[]⟩) 1 16 Try.underlying47 hi hz0 hz1 hz2 rfl (by decide) (.slice (some ⟨W.heap.size, 0, none⟩) 0 0) 0 [] rfl HM.out ⟨b, o, none⟩ n c (strs pages) rfl (by rw [strs_length, HN.out]; omega) HNW.out (strs_one pages) (by unfold maxLen; omega) (by omega) (by simp) ?_; intro v' w2 hown hgr _; obtain ⟨A', c', rfl⟩ := own_form hown; have KB := Lib.hid ((HB1.out.alloc (.cells #[] 9)).grown hgr (row_ne HZ.out)); have LB := Lib.hid (Below.grown (bel_alloc HL1.out (.cells #[] 9)) hgr (by have := HL1.out.size; simp; omega) (row_ge HZ.out)); have z1 := KB.out.cell 1; have z2 := KB.out.frozen 1; clear hown hgr)
        go_wp2_with fail
        go_ret2
        exact ⟨some ⟨w.heap.size, 0, none⟩, by rw [HG.out]; rfl, bel_set LB.out (Nat.le_refl _) 1 _⟩
end Go.Proofs.Ytofmlmgdbcjeoaa.Dsk
