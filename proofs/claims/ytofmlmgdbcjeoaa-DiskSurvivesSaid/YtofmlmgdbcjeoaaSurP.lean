/- What this text proves: what a page's sectors hold behind a crash, as the law reckons it. -/
import Derived.Test.YtofmlmgdbcjeoaaCopP
namespace Go.Proofs.Ytofmlmgdbcjeoaa.Dsk
open Go Go.RowKit Go.Proofs Go.Proofs.Ytofmlmgdbcjeoaa.Base

abbrev ZC := (UInt8 × UInt8) × Nat
def wrt (z : UInt8 × UInt8) : Nat × ByteArray := (z.1.toNat % 4, pg z.2)
def want1 (p k : Nat) (W : UInt8) (zc : ZC) : UInt8 := if zc.1.1.toNat % 4 = p ∧ zc.2 / 2 ^ k % 2 = 1 then zc.1.2 else W
def sec (u : UInt8) : ByteArray := bs (List.replicate 64 u)
theorem pg_sec (u : UInt8) (k : Nat) (hk : k < 4) : (pg u).extract (64 * k) (64 * k + 64) = sec u := by
  unfold pg
  rw [bs_extract]
  refine congrArg bs ?_
  rw [pageL, List.drop_replicate, List.take_replicate]
  congr 1
  omega
theorem pg_sec0 (u : UInt8) : (pg u).extract 0 64 = sec u := pg_sec u 0 (by omega)
theorem sect_torn (o d : ByteArray) (c k : Nat) (ho : o.size = 256) (hd : d.size = 256) (hk : k < 4) : (tornB o d c).extract (64 * k) (64 * k + 64) = (if c / 2 ^ k % 2 = 1 then d else o).extract (64 * k) (64 * k + 64) := by
  have e : ∀ s : ByteArray, s.extract (64 * k) (64 * k + 64) = bs ((s.data.toList.drop (64 * k)).take 64) := fun s => by
    rw [Lib.extract_eq, show 64 * k + 64 - 64 * k = 64 by omega]
    rfl
  rw [e, e]
  refine congrArg bs ?_
  rw [← sect_list, torn_list]
  have l0 := sect_length o d c 0 ho hd (by omega)
  have l1 := sect_length o d c 1 ho hd (by omega)
  have l2 := sect_length o d c 2 ho hd (by omega)
  have l3 := sect_length o d c 3 ho hd (by omega)
  have hk' : k = 0 ∨ k = 1 ∨ k = 2 ∨ k = 3 := by omega
  have l0' : (sect o d c 0).data.toList.length = 64 * 1 := l0
  have l01 : ((sect o d c 0).data.toList ++ (sect o d c 1).data.toList).length = 64 * 2 := by rw [List.length_append, l0, l1]
  have l012 : ((sect o d c 0).data.toList ++ (sect o d c 1).data.toList ++ (sect o d c 2).data.toList).length = 64 * 3 := by rw [List.length_append, l01, l2]
  rcases hk' with rfl | rfl | rfl | rfl
  · rw [Nat.mul_zero, List.drop_zero, List.take_left' l0]
  · rw [List.drop_left' l0', List.take_left' l1]
  · rw [← List.append_assoc, List.drop_left' l01, List.take_left' l2]
  · rw [← List.append_assoc, ← List.append_assoc, List.drop_left' l012, List.take_of_length_le (by omega)]
/-- Every sector of every page holds one byte throughout. -/
def Secs (st : List ByteArray) (W : Nat → Nat → UInt8) : Prop :=
  st.length = 4 ∧ Full st ∧ ∀ p k, p < 4 → k < 4 → ((st[p]?.getD ByteArray.empty).extract (64 * k) (64 * k + 64) = sec (W p k))
theorem secs_step (st : List ByteArray) (W : Nat → Nat → UInt8) (zc : ZC) (h : Secs st W) : Secs (crashStep st (wrt zc.1, zc.2)) (fun p k => want1 p k (W p k) zc) := by
  obtain ⟨h1, h2, h3⟩ := h
  have hx : zc.1.1.toNat % 4 < 4 := Nat.mod_lt _ (by omega)
  refine ⟨by rw [crashStep_length, h1], full_step h2 _ (by rw [h1]; exact hx) (pg_size _), fun p k hp hk => ?_⟩
  have hg : st[p]? = some st[p] := List.getElem?_eq_getElem (by omega)
  have hs : (st[p]?.getD ByteArray.empty).size = 256 := by rw [hg]; exact h2 _ (List.getElem_mem _)
  unfold crashStep want1
  simp only [wrt]
  rw [List.getElem?_set]
  by_cases hxp : zc.1.1.toNat % 4 = p
  · rw [if_pos hxp, if_pos (by omega)]
    rw [hxp]
    simp only [Option.getD_some]
    rw [sect_torn _ _ _ _ hs (pg_size _) hk]
    by_cases hb : zc.2 / 2 ^ k % 2 = 1
    · rw [if_pos hb, if_pos (by simp [hb])]
      exact pg_sec _ k hk
    · rw [if_neg hb, if_neg (fun h => hb h.2)]
      exact h3 p k hp hk
  · rw [if_neg hxp, if_neg (fun h => hxp h.1)]
    exact h3 p k hp hk
theorem secs_fold (zs : List ZC) : ∀ (st : List ByteArray) (W : Nat → Nat → UInt8), Secs st W → Secs ((zs.map fun zc => (wrt zc.1, zc.2)).foldl crashStep st) (fun p k => zs.foldl (want1 p k) (W p k)) := by
  induction zs with
  | nil => intro st W h; exact h
  | cons z zs ih => intro st W h; exact ih _ _ (secs_step st W z h)
theorem zip_wrt (m : List (UInt8 × UInt8)) (ch : List Nat) : (m.map wrt).zip ch = (m.zip ch).map fun zc => (wrt zc.1, zc.2) := by
  rw [List.zip_map_left]
  rfl
theorem secs_pages (now : List UInt8) (h : now.length = 4) : Secs (now.map pg) (fun p _ => now[p]?.getD 0) := by
  refine ⟨by rw [List.length_map, h], fun s hs => ?_, fun p k hp hk => ?_⟩
  · obtain ⟨u, _, rfl⟩ := List.mem_map.1 hs
    exact pg_size u
  · have hg : now[p]? = some now[p] := List.getElem?_eq_getElem (by omega)
    show ((now.map pg)[p]?.getD ByteArray.empty).extract (64 * k) (64 * k + 64) = sec (now[p]?.getD 0)
    rw [List.getElem?_map, hg]
    exact pg_sec _ k hk
/-- What the law looks for behind i rounds. -/
def wantK (m : List (UInt8 × UInt8)) (ch : List Nat) (u : UInt8) (p k i : Nat) : UInt8 := ((m.zip ch).take i).foldl (want1 p k) u
theorem wantK_succ (m : List (UInt8 × UInt8)) (ch : List Nat) (u : UInt8) (p k i : Nat) (h : i < m.length) (h' : i < ch.length) : wantK m ch u p k (i + 1) = want1 p k (wantK m ch u p k i) (m[i], ch[i]) := by
  unfold wantK
  rw [List.take_add_one, List.getElem?_eq_getElem (by rw [List.length_zip]; omega), List.foldl_append, List.getElem_zip]
  rfl
theorem crash_secs (now : List UInt8) (h : now.length = 4) (m : List (UInt8 × UInt8)) (ch : List Nat) (p k i : Nat) (hp : p < 4) (hk : k < 4) (hi : m.length ≤ i ∨ ch.length ≤ i) :
    ((crashL (now.map pg) (m.map wrt) ch)[p]?.getD ByteArray.empty).extract (64 * k) (64 * k + 64) = sec (wantK m ch (now[p]'(by omega)) p k i) ∧ ((crashL (now.map pg) (m.map wrt) ch)[p]?.getD ByteArray.empty).size = 256 := by
  have hS := secs_fold (m.zip ch) _ _ (secs_pages now h)
  rw [← zip_wrt] at hS
  obtain ⟨h1, h2, h3⟩ := hS
  have h4 : ((crashL (now.map pg) (m.map wrt) ch)[p]?.getD ByteArray.empty).extract (64 * k) (64 * k + 64) = sec ((m.zip ch).foldl (want1 p k) (now[p]?.getD 0)) := h3 p k hp hk
  unfold wantK
  rw [List.take_of_length_le (by rw [List.length_zip]; omega)]
  rw [List.getElem?_eq_getElem (show p < now.length by omega), Option.getD_some] at h4
  refine ⟨h4, ?_⟩
  have h5 : p < (crashL (now.map pg) (m.map wrt) ch).length := by
    rw [crashL_length, List.length_map]
    omega
  rw [List.getElem?_eq_getElem h5]
  exact h2 _ (List.getElem_mem _)
theorem run_sec {P : Program} (w : World) (t : TypeId) (s : ByteArray) (k : Nat) (h : P.underlying t = some .string) (hs : s.size = 256) (hk : k < 4) :
    (Instr.slice t (.string s) (some (.int .i64 (64 * (k : Int)))) (some (.int .i64 (64 * (k : Int) + 64))) none).run P w = .ok (.string (s.extract (64 * k) (64 * k + 64))) w := by
  rw [run_slice_string w t s .i64 .i64 _ _ h (by omega) (by omega) (by omega)]
  rw [show (64 * (k : Int)).toNat = 64 * k by omega, show (64 * (k : Int) + 64).toNat = 64 * k + 64 by omega]
end Go.Proofs.Ytofmlmgdbcjeoaa.Dsk
