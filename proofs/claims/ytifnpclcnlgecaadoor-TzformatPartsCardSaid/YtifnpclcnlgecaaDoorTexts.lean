/- What posixtz.Parse's parts see at the two texts of the law's own check. -/
import Derived.Test.YtifnpclcnlgecaaDoorParserC
set_option linter.unusedVariables false
namespace Go.Proofs.YtifnpclcnlgecaaDoor
open Go Go.RowKit

/-- "EST5EDT" -/
def short : ByteArray := ⟨#[69, 83, 84, 53, 69, 68, 84]⟩
/-- "EST+5:00EDT4,M03.2.0/02,M11.1.0" -/
def long : ByteArray := ⟨#[69, 83, 84, 43, 53, 58, 48, 48, 69, 68, 84, 52, 44, 77, 48, 51, 46, 50, 46, 48, 47, 48, 50, 44, 77, 49, 49, 46, 49, 46, 48]⟩

theorem short_name : Letters (short.extract 0 short.size) 3 := by
  refine ⟨by decide, by decide, by decide +kernel, by decide +kernel, ?_, ?_, by decide +kernel⟩
  · intro i h hi
    have : i = 0 ∨ i = 1 ∨ i = 2 := by omega
    rcases this with rfl | rfl | rfl <;> (revert h; decide +kernel)
  · decide +kernel
theorem short_off : hmsF (short.extract 3 short.size) = (18000, ((1 : Nat) : Int), true) := by decide +kernel
theorem short_pre : Lib.hasPrefix (short.extract 3 short.size).data.toList [45] = false := by decide +kernel
theorem short_dst : Letters (short.extract 4 short.size) 3 := by
  refine ⟨by decide, by decide, by decide +kernel, by decide +kernel, ?_, ?_, by decide +kernel⟩
  · intro i h hi
    have : i = 0 ∨ i = 1 ∨ i = 2 := by omega
    rcases this with rfl | rfl | rfl <;> (revert h; decide +kernel)
  · intro h; exact absurd h (by decide +kernel)
theorem long_name : Letters (long.extract 0 long.size) 3 := by
  refine ⟨by decide, by decide, by decide +kernel, by decide +kernel, ?_, ?_, by decide +kernel⟩
  · intro i h hi
    have : i = 0 ∨ i = 1 ∨ i = 2 := by omega
    rcases this with rfl | rfl | rfl <;> (revert h; decide +kernel)
  · decide +kernel
theorem long_off : hmsF (long.extract 3 long.size) = (18000, ((5 : Nat) : Int), true) := by decide +kernel
theorem long_pre : Lib.hasPrefix (long.extract 3 long.size).data.toList [45] = false := by decide +kernel
theorem long_dst : Letters (long.extract 8 long.size) 3 := by
  refine ⟨by decide, by decide, by decide +kernel, by decide +kernel, ?_, ?_, by decide +kernel⟩
  · intro i h hi
    have : i = 0 ∨ i = 1 ∨ i = 2 := by omega
    rcases this with rfl | rfl | rfl <;> (revert h; decide +kernel)
  · decide +kernel
theorem long_pre2 : Lib.hasPrefix (long.extract 11 long.size).data.toList [45] = false := by decide +kernel
theorem long_off2 : hmsF (long.extract 11 long.size) = (14400, ((1 : Nat) : Int), true) := by decide +kernel
theorem long_c1 : byteAt long 12 = 44 := by decide +kernel
theorem long_c2 : byteAt long 23 = 44 := by decide +kernel

def long_m1 : IsM (long.extract 13 long.size) 3 2 0 7 := {
  size := by decide +kernel
  a := 2
  b := 1
  c := 1
  m0 := by decide +kernel
  nm := Num.two 0 3 (by decide +kernel) (by decide +kernel) (by decide +kernel)
  d1 := by decide +kernel
  nw := Num.one 2 (by decide +kernel) (by decide +kernel)
  d2 := by decide +kernel
  nd := Num.one 0 (by decide +kernel) (by decide +kernel)
  k := rfl }
def long_m2 : IsM (long.extract 24 long.size) 11 1 0 7 := {
  size := by decide +kernel
  a := 2
  b := 1
  c := 1
  m0 := by decide +kernel
  nm := Num.two 1 1 (by decide +kernel) (by decide +kernel) (by decide +kernel)
  d1 := by decide +kernel
  nw := Num.one 1 (by decide +kernel) (by decide +kernel)
  d2 := by decide +kernel
  nd := Num.one 0 (by decide +kernel) (by decide +kernel)
  k := rfl }
theorem long_d1 : IsDay (long.extract 13 long.size) 3 2 0 7200 ((10 : Nat) : Int) :=
  IsDay.timed 7 2 long_m1 (by decide +kernel) (by decide +kernel) (by decide +kernel) (by decide)
theorem long_d2 : IsDay (long.extract 24 long.size) 11 1 0 7200 ((7 : Nat) : Int) :=
  IsDay.bare 7 long_m2 (by decide +kernel) rfl
theorem long_o1 : mOk 3 2 0 7200 := by unfold mOk; decide
theorem long_o2 : mOk 11 1 0 7200 := by unfold mOk; decide
theorem short_size : short.size = 7 := rfl
theorem long_size : long.size = 31 := rfl
theorem short_std : (short.extract 0 short.size).extract 0 3 = ⟨#[69, 83, 84]⟩ := by decide +kernel
theorem short_dstn : (short.extract 4 short.size).extract 0 3 = ⟨#[69, 68, 84]⟩ := by decide +kernel
theorem long_std : (long.extract 0 long.size).extract 0 3 = ⟨#[69, 83, 84]⟩ := by decide +kernel
theorem long_dstn : (long.extract 8 long.size).extract 0 3 = ⟨#[69, 68, 84]⟩ := by decide +kernel
end Go.Proofs.YtifnpclcnlgecaaDoor
