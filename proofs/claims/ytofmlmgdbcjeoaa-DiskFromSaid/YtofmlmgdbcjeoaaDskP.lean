/- What this text proves: plain facts of the law's constant part: what each of its calls comes to. -/
import Derived.Test.YtofmlmgdbcjeoaaDskO
namespace Go.Proofs.Ytofmlmgdbcjeoaa.Dsk
open Go Go.RowKit Go.Proofs Go.Proofs.Ytofmlmgdbcjeoaa.Base

def p7 : ByteArray := bs (pageL 7)
def p1 : ByteArray := bs (pageL 1)
def pt : ByteArray := tornB page0 p7 1
theorem size_page (v : UInt8) : (bs (pageL v)).size = 256 := by rw [bs_size, pageL_length]
theorem p7_size : p7.size = 256 := size_page 7
theorem p1_size : p1.size = 256 := size_page 1
theorem page0_eq : page0 = bs (pageL 0) := rfl
theorem page0_size : page0.size = 256 := size_page 0
theorem pt_size : pt.size = 256 := torn_size _ _ _ page0_size p7_size
def E0 : DM := ⟨[], [], 3, -1, false⟩
def E1 : DM := ⟨[page0, page0], [], 3, -1, false⟩
def E2 : DM := ⟨[page0, page0], [(1, p7)], 3, -1, false⟩
def E3 : DM := ⟨[page0, pt], [], 3, -1, false⟩
def E4 : DM := ⟨[page0, pt], [], 3, 1, false⟩
def E5 : DM := ⟨[page0, pt], [(0, p1)], 3, 0, false⟩
def E6 : DM := ⟨[page0, pt], [(0, p1)], 3, 0, true⟩
theorem f0 : goodF [] 3 = true := by simp [goodF]
theorem f1 : growM E0 2 = (E1, 0) := by simp [growM, E0, E1, growL, burn, List.replicate]
theorem f2 : growM E1 4 = (E1, 3) := by simp [growM, E1]
theorem f3 : writeM E1 1 p7 = (E2, 0) := by simp [writeM, E1, E2, p7_size, burn]
theorem f4 : readM E2 1 = (p7, 0) := by simp [readM, E2, viewAt, putW]
theorem f5 : crashL E2.st E2.wt [1] = [page0, pt] := by simp [E2, crashL, crashStep, pt]
theorem f6 : readM E3 1 = (pt, 0) := by simp [readM, E3, viewAt, putW]
theorem f7 : writeM E4 0 p1 = (E5, 0) := by simp [writeM, E4, E5, p1_size, burn]
theorem f8 : syncM E5 = (E6, 2) := by simp [syncM, E5, E6]
theorem f9 : readM E6 0 = (⟨#[]⟩, 2) := by simp [readM, E6]
theorem f10 : crashL E6.st E6.wt [] = [page0, pt] := by simp [E6, crashL]
theorem f11 : readM E3 0 = (page0, 0) := by simp [readM, E3, viewAt, putW]
theorem toList_ba (a : ByteArray) : bs a.data.toList = a := bs_mk a
set_option linter.unusedSimpArgs false
set_option maxRecDepth 100000 in
theorem pt_eq : pt = bs ((pageL 7).take 64 ++ (pageL 0).drop 64) := by
  rw [← bs_mk pt]
  refine congrArg bs ?_
  rw [show pt = tornB page0 p7 1 from rfl, torn_list, sect_list, sect_list, sect_list, sect_list]
  simp only [p7, page0, bs_data, pageL, show (1 / 2 ^ 0 % 2 = 1) = True from by decide, show (1 / 2 ^ 1 % 2 = 1) = False from by decide, show (1 / 2 ^ 2 % 2 = 1) = False from by decide, show (1 / 2 ^ 3 % 2 = 1) = False from by decide, if_true, if_false, List.drop_replicate, List.take_replicate, List.replicate_append_replicate]
  rfl
end Go.Proofs.Ytofmlmgdbcjeoaa.Dsk
