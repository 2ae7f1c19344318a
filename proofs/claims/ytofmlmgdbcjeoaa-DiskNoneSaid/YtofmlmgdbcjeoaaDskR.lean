/- What this text proves: what a disk that nobody made answers. -/
import Derived.Test.YtofmlmgdbcjeoaaDskO
namespace Go.Proofs.Ytofmlmgdbcjeoaa.Dsk
open Go Go.RowKit Go.Proofs Go.Proofs.Ytofmlmgdbcjeoaa.Base

theorem nil_read (x : Int) (w : World) : Calls Try.prog 17 #[.pointer none, .int .i64 x] w fun e w' => e = .returned (.tuple #[.string ⟨#[]⟩, .int .i64 1]) ∧ w = w' := by
  go_enter Try.func17, Try.ntmps17
  go_wp2
  go_ret2
  exact ⟨rfl, rfl⟩
theorem nil_fuse (x : Int) (w : World) : Calls Try.prog 18 #[.pointer none, .int .i64 x] w fun e w' => e = .returned (.tuple #[]) ∧ w = w' := by
  go_enter Try.func18, Try.ntmps18
  go_wp2
  go_end0
  exact ⟨rfl, rfl⟩
theorem nil_crash (v : Value) (w : World) : Calls Try.prog 16 #[.pointer none, v] w fun e w' => e = .returned (.tuple #[]) ∧ w = w' := by
  go_enter Try.func16, Try.ntmps16
  go_wp2
  exact bodyPost_ret (v := .tuple #[]) (by simp [results, Try.results16, go_sem]) rfl ⟨rfl, rfl⟩
theorem nil_write (x : Int) (s : ByteArray) (w : World) : Calls Try.prog 13 #[.pointer none, .int .i64 x, .string s] w fun e w' => e = .returned (.int .i64 1) ∧ Below w.heap.size w w' := by
  have HB := Lib.hid (bel_alloc (bel_alloc (bel_alloc (Below.refl w.heap.size w) (.cells #[.pointer none] 25)) (.cells #[.int .i64 x] 3)) (.cells #[.string s] 9))
  go_enter Try.func13, Try.ntmps13
  go_wp2
  go_ret
  exact ⟨rfl, HB.out⟩
theorem nil_sync (w : World) : Calls Try.prog 15 #[.pointer none] w fun e w' => e = .returned (.int .i64 1) ∧ Below w.heap.size w w' := by
  have HB := Lib.hid (bel_alloc (Below.refl w.heap.size w) (.cells #[.pointer none] 25))
  go_enter Try.func15, Try.ntmps15
  go_wp2
  go_ret
  exact ⟨rfl, HB.out⟩
theorem nil_grow (x : Int) (w : World) : Calls Try.prog 12 #[.pointer none, .int .i64 x] w fun e w' => e = .returned (.int .i64 1) ∧ Below w.heap.size w w' := by
  have HB := Lib.hid (bel_alloc (bel_alloc (Below.refl w.heap.size w) (.cells #[.pointer none] 25)) (.cells #[.int .i64 x] 3))
  go_enter Try.func12, Try.ntmps12
  go_wp2
  go_ret
  exact ⟨rfl, HB.out⟩
theorem nil_shrink (x : Int) (w : World) : Calls Try.prog 32 #[.pointer none, .int .i64 x] w fun e w' => e = .returned (.int .i64 1) ∧ Below w.heap.size w w' := by
  have HB := Lib.hid (bel_alloc (bel_alloc (Below.refl w.heap.size w) (.cells #[.pointer none] 25)) (.cells #[.int .i64 x] 3))
  go_enter Try.func32, Try.ntmps32
  go_wp2
  go_ret
  exact ⟨rfl, HB.out⟩
theorem nil_length (w : World) : Calls Try.prog 26 #[.pointer none] w fun e w' => e = .returned (.int .i64 0) ∧ w = w' := by
  go_enter Try.func26, Try.ntmps26
  go_wp2
  go_ret
  exact ⟨rfl, rfl⟩
theorem nil_limit (w : World) : Calls Try.prog 25 #[.pointer none] w fun e w' => e = .returned (.int .i64 0) ∧ w = w' := by
  go_enter Try.func25, Try.ntmps25
  go_wp2
  go_ret
  exact ⟨rfl, rfl⟩
theorem nil_pages (w : World) : Calls Try.prog 24 #[.pointer none] w fun e w' => e = .returned (.slice none 0 0) ∧ w = w' := by
  go_enter Try.func24, Try.ntmps24
  go_wp2
  go_ret
  exact ⟨rfl, rfl⟩
theorem nil_waiting (w : World) : Calls Try.prog 19 #[.pointer none] w fun e w' => e = .returned (.slice none 0 0) ∧ w = w' := by
  go_enter Try.func19, Try.ntmps19
  go_wp2
  go_ret
  exact ⟨rfl, rfl⟩
end Go.Proofs.Ytofmlmgdbcjeoaa.Dsk
