/- What this text proves: plain laws on blocks of memory that are known whole, on lists that are filled one by one, and on numbers as bytes. -/
import Derived.Test.YtgpnceaplakemaaProg
import Derived.WalkKit
import Derived.Lib.Hide
import Derived.Below
import Derived.WalkLawsBesides
import Derived.Laws.BitsAllLaws
import Derived.Laws.BytesArg
import Derived.Lib.Strings
import Derived.Laws.OwnMore
import Derived.Deep.Draws
import Derived.Laws.Rows
import Derived.Laws.StructEq
import Derived.Laws.MakeOwn
import Derived.Deep.QuietTactic
import Derived.BigQuiet
import Derived.Deep.RegionWith
namespace Go.Proofs.Ytgpnceaplakemaa.Base
open Go Go.RowKit

/-! ### A block that is known whole -/
def Blk (w : World) (g : Nat) (t : TypeId) (cs : List Value) : Prop := w.heap[g]? = some (.cells cs.toArray t (0, 0))
section
variable {w w' : World} {g : Nat} {t : TypeId} {cs : List Value}
theorem Blk.lt (h : Blk w g t cs) : g < w.heap.size := by
  rcases Nat.lt_or_ge g w.heap.size with hlt | hge
  · exact hlt
  · unfold Blk at h; rw [Array.getElem?_eq_none hge] at h; cases h
theorem Blk.cell (h : Blk w g t cs) (i : Nat) : w.cell? ⟨g, i, none⟩ = cs[i]? := (cell_of_row w g i cs.toArray t (0, 0) h).trans (by simp)
theorem Blk.frozen (h : Blk w g t cs) (i : Nat) : w.frozen? ⟨g, i, none⟩ = false := by
  unfold Blk at h
  simp [World.frozen?, h]
theorem Blk.new (w : World) (t : TypeId) (cs : List Value) : Blk (w.alloc (.cells cs.toArray t)) w.heap.size t cs := heap_alloc_new w _
theorem Blk.drew (h : Blk w g t cs) : Blk w.drew g t cs := h
theorem Blk.drewN (h : Blk w g t cs) (n : Nat) : Blk (w.drewN n) g t cs := h
theorem Blk.alloc (h : Blk w g t cs) (o : Obj) : Blk (w.alloc o) g t cs := (Below.heap_alloc w o g h.lt).trans h
theorem Blk.set_ (h : Blk w g t cs) (i : Nat) (u : Value) : Blk (w.setCell ⟨g, i, none⟩ u) g t (cs.set i u) := by
  unfold Blk at h ⊢
  simp [World.setCell, Array.getElem?_modify, h]
theorem Blk.far (h : Blk w g t cs) {p : Addr} (hp : g ≠ p.block) (u : Value) : Blk (w.setCell p u) g t cs := (Below.heap_setCell w p u g hp).trans h
theorem Blk.below {B : Nat} (h : Blk w g t cs) (hb : Below B w w') (hg : g < B) : Blk w' g t cs := (hb.block g hg).trans h
theorem Blk.step (h : Blk w g t cs) (hb : Below w.heap.size w w') : Blk w' g t cs := h.below hb h.lt
theorem Blk.grown {row : Option Nat} (h : Blk w g t cs) (hb : w.grownBy w' row) (hg : some g ≠ row) : Blk w' g t cs := (hb.block g h.lt hg).trans h
end

theorem bel_alloc {w W : World} (h : Below w.heap.size w W) (o : Obj) : Below w.heap.size w (W.alloc o) := h.alloc h.size o
theorem bel_drew {w W : World} (h : Below w.heap.size w W) : Below w.heap.size w W.drew := h.drew
theorem bel_drewN {w W : World} (h : Below w.heap.size w W) (n : Nat) : Below w.heap.size w (W.drewN n) := ⟨h.os, h.tape, h.output, h.size, h.block⟩
theorem bel_then {w w1 w2 : World} (h : Below w.heap.size w w1) (k : Below w1.heap.size w1 w2) : Below w.heap.size w w2 :=
  h.trans (k.mono h.size)
theorem bel_set {w W : World} (h : Below w.heap.size w W) {g : Nat} (hg : w.heap.size ≤ g) (i : Nat) (u : Value) : Below w.heap.size w (W.setCell ⟨g, i, none⟩ u) := h.setCell (p := ⟨g, i, none⟩) hg u

theorem held_blk {w A B : World} {g : Nat} {t : TypeId} {cs : List Value} {R : Prop} (h : Below w.heap.size w A ∧ Blk A g t cs ∧ R) (hb : Below A.heap.size A B) : Below w.heap.size w B ∧ Blk B g t cs :=
  ⟨bel_then h.1 hb, h.2.1.below hb h.2.1.lt⟩

/-! ### Two structs held against each other, as one Bool -/
section
variable {P : Program} {d : Nat} {xs ys : Array Value} {f : Field} {fs : List Field} {a b : Value} {r s : Bool} {w : World}
theorem eqs_one (hn : f.name ≠ "_") (ha : (part f.type xs f.offset).run P w = .ok a w) (hb : (part f.type ys f.offset).run P w = .ok b w) (he : (Op.equalIn d f.type a b).run P w = .ok r w) : (Op.eqFields d xs ys [f]).run P w = .ok r w := by
  simp only [Op.eqFields, if_pos hn, Sem.run_bind, ha, hb, he, Result.andThen_ok]
  cases r <;> simp
theorem eqs_cons (hn : f.name ≠ "_") (ha : (part f.type xs f.offset).run P w = .ok a w) (hb : (part f.type ys f.offset).run P w = .ok b w) (he : (Op.equalIn d f.type a b).run P w = .ok r w) (hr : (Op.eqFields d xs ys fs).run P w = .ok s w) : (Op.eqFields d xs ys (f :: fs)).run P w = .ok (r && s) w := by
  rw [Op.eqFields]
  simp only [if_pos hn, Sem.run_bind, ha, hb, he, Result.andThen_ok]
  cases r
  · simp
  · simpa using hr
theorem eqs_of {t : TypeId} {gs : Array Field} (hu : P.underlying t = some (.struct gs)) (hp : P.stoodInHeld t = false) (h : (Op.eqFields d xs ys gs.toList).run P w = .ok r w) : (Op.equalIn (d + 1) t (.agg xs) (.agg ys)).run P w = .ok r w := by
  have hf : P.fieldsOf t = gs := by simp [Program.fieldsOf, hu]
  rw [run_equalIn_struct (P := P) w d t xs ys (by rw [hf]; exact hu) hp, hf]
  exact h
end

/-! ### A list that is filled one by one -/
def row (f : Nat → Int) (n k : Nat) : List Int := (List.range n).map fun j => if j < k then f j else 0
theorem row_length (f : Nat → Int) (n k : Nat) : (row f n k).length = n := by simp [row]
theorem row_set (f : Nat → Int) (n k : Nat) : (row f n k).set k (f k) = row f n (k + 1) := by
  apply List.ext_getElem?
  intro i
  rw [List.getElem?_set]
  simp only [row, List.length_map, List.length_range, List.getElem?_map]
  by_cases hi : i < n
  · rw [List.getElem?_range hi]
    by_cases e : k = i
    · subst e
      rw [if_pos rfl, if_pos hi]
      simp
    · rw [if_neg e]
      by_cases h1 : i < k
      · simp [h1, show i < k + 1 by omega]
      · simp [h1, show ¬ i < k + 1 by omega]
  · rw [List.getElem?_eq_none (l := List.range n) (by simp; omega)]
    by_cases e : k = i
    · subst e
      rw [if_pos rfl, if_neg hi]
      rfl
    · rw [if_neg e]
      rfl
theorem row_full (f : Nat → Int) (n : Nat) : row f n n = (List.range n).map f := by
  unfold row
  apply List.map_congr_left
  intro j hj
  rw [if_pos (List.mem_range.1 hj)]
theorem row_zero (f : Nat → Int) (n : Nat) : row f n 0 = List.replicate n 0 := by
  unfold row
  apply List.ext_getElem <;> simp
def byt (xs : List Int) : List Value := xs.map (Value.int .u8)
theorem byt_length (xs : List Int) : (byt xs).length = xs.length := by simp [byt]
theorem byt_set (xs : List Int) (i : Nat) (v : Int) : (byt xs).set i (.int .u8 v) = byt (xs.set i v) := by simp [byt, List.map_set]
theorem byt_row_set (f : Nat → Int) (n k : Nat) : (byt (row f n k)).set k (.int .u8 (f k)) = byt (row f n (k + 1)) := by rw [byt_set, row_set]
theorem byt_get (xs : List Int) (i : Nat) (h : i < xs.length) : (byt xs)[i]? = some (.int .u8 (xs.getD i 0)) := by
  simp [byt, List.getD_eq_getElem?_getD, List.getElem?_eq_getElem h]
theorem madeCells_u8 (n : Nat) : madeCells #[Value.int .u8 0] n = (byt (List.replicate n 0)).toArray := by
  apply Array.ext
  · simp [size_madeCells, byt]
  · intro i h1 h2
    simp [madeCells, byt, Nat.mod_one]
/-- string(b) of a block of bytes. -/
theorem Blk.string {P : Program} {w : World} {g : Nat} {t : TypeId} {xs : List Int} (h : Blk w g t (byt xs)) {src e dst : TypeId} (hs : P.underlying src = some (.slice e)) (he : P.underlying e = some (.int .u8)) (hd : P.underlying dst = some .string) (n cap : Nat) (hn : xs.length = n) :
    (convert src dst (.slice (some ⟨g, 0, none⟩) n cap)).run P w = .ok (.string (strOfNums xs)) w :=
  run_convert_bytes_arg w src e hs he g 0 n cap xs hn (fun i hi => by rw [Nat.zero_add, h.cell, byt_get xs i (by omega)]) dst hd

/-! ### Texts as lists of bytes -/
def bs (l : List UInt8) : ByteArray := ⟨l.toArray⟩
theorem bs_size (l : List UInt8) : (bs l).size = l.length := by simp [bs, ByteArray.size]
theorem bs_data (l : List UInt8) : (bs l).data.toList = l := by simp [bs]
theorem bs_toList (l : List UInt8) : (bs l).toList = l := ByteArray.toList_mk l
theorem bs_mk (s : ByteArray) : bs s.data.toList = s := Lib.mk_data s
theorem bs_append (l m : List UInt8) : bs l ++ bs m = bs (l ++ m) := by
  apply ByteArray.ext
  simp [bs]
theorem bs_inj {l m : List UInt8} (h : bs l = bs m) : l = m := by rw [← bs_data l, h, bs_data]
theorem bs_extract (l : List UInt8) (a b : Nat) : (bs l).extract a b = bs ((l.drop a).take (b - a)) := by rw [Lib.extract_eq, bs_data]; rfl
theorem bs_get (l : List UInt8) (i : Nat) (h : i < (bs l).size) : (bs l)[i] = l[i]'(by rw [bs_size] at h; exact h) := by simp [bs, ByteArray.getElem_eq_getElem_data]
theorem run_bs {P : Program} (l m : List UInt8) (h : l.length + m.length ≤ 9223372036854775807) (W : World) : (Op.stringOp .add (bs l) (bs m)).run P W = .ok (.string (bs (l ++ m))) W := by
  rw [run_string_add_sum W (bs l) (bs m) (by rw [bs_size, bs_size]; exact h), bs_append]
theorem strOfNums_bs (xs : List Int) : strOfNums xs = bs (xs.map fun n => UInt8.ofNat n.toNat) := rfl

/-! ### Numbers as bytes -/
def numL (l : List UInt8) : Nat := l.foldl (fun v b => v * 256 + b.toNat) 0
theorem numL_snoc (l : List UInt8) (b : UInt8) : numL (l ++ [b]) = numL l * 256 + b.toNat := by simp [numL, List.foldl_append]
theorem foldl_num (l : List UInt8) : ∀ v : Nat, l.foldl (fun v b => v * 256 + b.toNat) v < (v + 1) * 256 ^ l.length := by
  induction l with
  | nil => intro v; simp
  | cons b l ih =>
    intro v
    have h := ih (v * 256 + b.toNat)
    have hb := b.toNat_lt
    simp only [List.foldl_cons, List.length_cons, Nat.pow_succ]
    refine Nat.lt_of_lt_of_le h ?_
    have : v * 256 + b.toNat + 1 ≤ (v + 1) * 256 := by omega
    calc (v * 256 + b.toNat + 1) * 256 ^ l.length ≤ ((v + 1) * 256) * 256 ^ l.length := Nat.mul_le_mul_right _ this
      _ = (v + 1) * (256 ^ l.length * 256) := by rw [Nat.mul_assoc, Nat.mul_comm 256]
theorem numL_lt (l : List UInt8) : numL l < 256 ^ l.length := by have := foldl_num l 0; simpa [numL] using this
/-- The n bytes of v, the highest first. -/
def putL (v n : Nat) : List UInt8 := (List.range n).map fun j => UInt8.ofNat (v / 256 ^ (n - 1 - j))
theorem putL_length (v n : Nat) : (putL v n).length = n := by simp [putL]
theorem putL_succ (v n : Nat) : putL v (n + 1) = putL (v / 256) n ++ [UInt8.ofNat v] := by
  unfold putL
  rw [List.range_succ, List.map_append]
  congr 1
  · apply List.map_congr_left
    intro j hj
    have hj' := List.mem_range.1 hj
    rw [Nat.div_div_eq_div_mul, show n + 1 - 1 - j = (n - 1 - j) + 1 by omega, Nat.pow_succ, Nat.mul_comm 256]
  · simp
theorem num_put (n : Nat) : ∀ v : Nat, v < 256 ^ n → numL (putL v n) = v := by
  induction n with
  | zero => intro v h; simp [putL, numL] at h ⊢; omega
  | succ n ih =>
    intro v h
    rw [putL_succ, numL_snoc, ih (v / 256) (by rw [Nat.pow_succ] at h; exact Nat.div_lt_of_lt_mul (by omega))]
    simp
    omega
end Go.Proofs.Ytgpnceaplakemaa.Base
