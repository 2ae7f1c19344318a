/- What this text proves: what a disk's Pages come to; when two lists of texts are alike. -/
import Derived.Test.YtofmlmgdbcjeoaaDskO
namespace Go.Proofs.Ytofmlmgdbcjeoaa.Dsk
open Go Go.RowKit Go.Proofs Go.Proofs.Ytofmlmgdbcjeoaa.Base

theorem strs_snoc' (l : List ByteArray) (k : Nat) (h : k < l.length) : strs (l.take (k + 1)) = strs (l.take k) ++ [.string l[k]] := by
  rw [List.take_add_one, List.getElem?_eq_getElem h, strs, strs, List.map_append]
  rfl
/-- What is read, page by page. -/
def allV (D : DM) : List ByteArray := putW D.st D.wt
theorem allV_length (D : DM) : (allV D).length = D.st.length := putW_length _ _
theorem allV_at (D : DM) (k : Nat) (h : k < D.st.length) : (allV D)[k]'(by rw [allV_length]; exact h) = viewAt D k := by
  unfold viewAt
  rw [show putW D.st D.wt = allV D from rfl, List.getElem?_eq_getElem (by rw [allV_length]; exact h)]
  rfl
set_option maxHeartbeats 1600000 in
theorem pages_calls (B g : Nat) (D : DM) (w : World) (h : IsD B w g D) (hn : D.wt.length ≤ 1000000) (hs : D.st.length ≤ 1000000) :
    Calls Try.prog 24 #[.pointer (some ⟨g, 0, none⟩)] w fun e w' => ∃ v, e = .returned v ∧ w'.ownsRow w.heap.size 9 1 v D.st.length (strs (allV D)) ∧ Below w.heap.size w w' := by
  obtain ⟨i0, hi, hz0, hz1, hz2⟩ := info_parts info9
  have HI := Lib.hid h
  have HP := Lib.hid (fun (W : World) (k : Nat) (hk : k < D.st.length) (hW : Below w.heap.size w W) => data_calls B g D k W (h.below hW) hk hn)
  have HV := Lib.hid (fun (k : Nat) (hk : k < D.st.length) => (strs_snoc' (allV D) k (by rw [allV_length]; exact hk)).trans (by rw [allV_at D k hk]))
  obtain ⟨hB, v1, v2, hb, h1, h2⟩ := h
  have c0 := hb.cell 0
  obtain ⟨A, c, rfl⟩ := own_form h1
  clear h1 h2 hb
  obtain ⟨n, hnn⟩ : ∃ n, D.st.length = n := ⟨_, rfl⟩
  have hfull : strs ((allV D).take n) = strs (allV D) := by rw [List.take_of_length_le (by rw [allV_length]; omega)]
  have HFU := Lib.hid hfull
  rw [hnn] at hs HP HV c0 ⊢
  clear hnn hfull hn
  have HU := Lib.hid HI.out
  go_enter Try.func24, Try.ntmps24
  go_wp2_with fail
  go_loopw [3, 12] (fun v i wr => ∃ k : Nat, k ≤ n ∧ i = .int .i64 k ∧ wr.ownsRow w.heap.size 9 1 v k (strs ((allV D).take k)) ∧ Below w.heap.size w wr) (fun _ i _ => n - (intOf i).toNat)
  case atStart => exact ⟨0, Nat.zero_le _, rfl, ⟨rfl, .inl ⟨rfl, rfl⟩⟩, Below.refl _ _⟩
  case round =>
    obtain ⟨k, hk, rfl, hown, hlow⟩ := hrel
    have HO := Lib.hid hown
    have HL := Lib.hid hlow
    clear hown hlow c0
    by_cases hlt : k < n
    · have HT := Lib.hid (HV.out k hlt)
      have hkn : (k : Int) < n := by omega
      go_wp2_with fail
      ((with_reducible refine (HP.out _ k hlt HL.out).mono ?_); rintro e w1 ⟨rfl, hb1⟩)
      have O1 := Lib.hid (own_below HO.out hb1)
      have L1 := Lib.hid (low_then HL.out HL.out.size hb1)
      have hz := L1.out.size
      generalize viewAt D k = s at *
      generalize strs ((allV D).take k) = xs at *
      clear hb1
      have hx1 : k + 1 ≤ maxLen := by unfold maxLen; omega
      go_wp2_with (at_builtin; refine wpList_append_own _ rfl _ _ 47 rfl w.heap.size 9 i0 (.string ⟨#[]⟩) 1 16 Try.underlying47 hi hz0 hz1 hz2 rfl (by decide) _ _ _ rfl (O1.out.alloc _) ⟨w1.heap.size, 0, none⟩ 1 1 [.string s] rfl rfl (World.news_of_block (cs := #[.string s]) (t := 9) (fr := (0, 0)) (heap_alloc_new w1 _)) (by simp [Value.oneCell']) (by omega) (by omega) (by simp; omega) ?_; intro v' w2 hown' hgrow _)
      have O2 := Lib.hid hown'
      have L2 := Lib.hid ((bel_alloc L1.out _).grown hgrow (by simp; omega) (fun k hk => (own_lt O1.out k hk).1))
      clear hown' hgrow
      go_wp2_with fail
      exact ⟨⟨k + 1, by omega, by go_num, by rw [HT.out]; exact O2.out, L2.out⟩, by simp [intOf]; omega⟩
    · obtain rfl : k = n := by omega
      go_wp2_with fail
      go_ret
      exact ⟨_, rfl, by rw [← HFU.out]; exact HO.out, HL.out⟩
end Go.Proofs.Ytofmlmgdbcjeoaa.Dsk
