/- tzformat.Extended at the two rules of the law's own check. -/
import Derived.Test.YtifnpclcnlgecaaDoorCanon
set_option linter.unusedVariables false
set_option linter.unusedSimpArgs false
namespace Go.Proofs.YtifnpclcnlgecaaDoor
open Go Go.RowKit

/-- The rule with times outside 0 to 24 hours. -/
def re : RRule := ⟨⟨#[65, 65, 65]⟩, 0, true, ⟨#[66, 66, 66]⟩, 3600, ⟨1, 60, 0, 0, 0, 90000⟩, ⟨2, 0, 0, 0, 0, 7200⟩⟩
/-- The rule without daylight saving time. -/
def rs : RRule := ⟨⟨#[45, 48, 51]⟩, -10800, false, .empty, 0, ⟨0, 0, 0, 0, 0, 0⟩, ⟨0, 0, 0, 0, 0, 0⟩⟩

set_option maxHeartbeats 2000000 in
set_option maxRecDepth 100000 in
theorem ext_yes (w : World) : Calls Tryd.prog 9 #[.agg re.cells] w fun e w' => e = .returned (.bool true) ∧ Below w.heap.size w w' := by
  have X0 := new_blk w (.cells re.cells 25)
  have B0 := Lib.hid (below_alloc' w (.cells re.cells 25))
  have hz : (w.alloc (.cells re.cells 25)).heap.size = w.heap.size + 1 := by simp
  have X0 := Lib.hid X0
  go_enter Tryd.func9, Tryd.ntmps9
  go_upto_region 1 with fail
  generalize w.alloc (.cells re.cells 25) = w1 at *
  have c2 := Lib.cell_of_heap X0.out 2
  have c5 := Lib.cell_of_heap X0.out 5
  have c6 := Lib.cell_of_heap X0.out 6
  have c7 := Lib.cell_of_heap X0.out 7
  have c8 := Lib.cell_of_heap X0.out 8
  have c9 := Lib.cell_of_heap X0.out 9
  have c10 := Lib.cell_of_heap X0.out 10
  have c11 := Lib.cell_of_heap X0.out 11
  have c12 := Lib.cell_of_heap X0.out 12
  have c13 := Lib.cell_of_heap X0.out 13
  have c14 := Lib.cell_of_heap X0.out 14
  have c15 := Lib.cell_of_heap X0.out 15
  have c16 := Lib.cell_of_heap X0.out 16
  simp [re] at c2 c5 c6 c7 c8 c9 c10 c11 c12 c13 c14 c15 c16
  go_wp2_with fail
  have X1 := new_blk w1 (.cells (re.start.cells ++ re.fin.cells) 23)
  have B1 := Lib.hid (B0.out.trans ((below_alloc' w1 (.cells (re.start.cells ++ re.fin.cells) 23)).mono B0.out.size))
  have hz1 : (w1.alloc (.cells (re.start.cells ++ re.fin.cells) 23)).heap.size = w.heap.size + 1 + 1 := by simp [hz]
  rw [hz] at X1
  have X2 := blk_keep (below_alloc' w1 (.cells (re.start.cells ++ re.fin.cells) 23)) X0.out
  have e0 : re.start.cells ++ re.fin.cells = #[Value.int IntKind.i64 1, Value.int IntKind.i64 60, Value.int IntKind.i64 0, Value.int IntKind.i64 0, Value.int IntKind.i64 0, Value.int IntKind.i64 90000, Value.int IntKind.i64 2, Value.int IntKind.i64 0, Value.int IntKind.i64 0, Value.int IntKind.i64 0, Value.int IntKind.i64 0, Value.int IntKind.i64 7200] := rfl
  rw [e0] at X1 X2 B1 hz1
  generalize w1.alloc _ = w2 at *
  clear c2 c5 c6 c7 c8 c9 c10 c11 c12 c13 c14 c15 c16
  have c0 := Lib.cell_of_heap X1 0
  have c1 := Lib.cell_of_heap X1 1
  have c2 := Lib.cell_of_heap X1 2
  have c3 := Lib.cell_of_heap X1 3
  have c4 := Lib.cell_of_heap X1 4
  have c5 := Lib.cell_of_heap X1 5
  have d2 := Lib.cell_of_heap X2 2
  simp [re] at c0 c1 c2 c3 c4 c5 d2
  refine wp_loop_rounds 3 ?_
  rw [rounds_succ]
  go_wp2_with fail
  go_ret
  exact ⟨rfl, B1.out.trans ((below_alloc' _ _).mono B1.out.size)⟩

set_option maxHeartbeats 2000000 in
set_option maxRecDepth 100000 in
theorem ext_no (w : World) : Calls Tryd.prog 9 #[.agg rs.cells] w fun e w' => e = .returned (.bool false) ∧ Below w.heap.size w w' := by
  have X0 := new_blk w (.cells rs.cells 25)
  have B0 := Lib.hid (below_alloc' w (.cells rs.cells 25))
  have hz : (w.alloc (.cells rs.cells 25)).heap.size = w.heap.size + 1 := by simp
  have X0 := Lib.hid X0
  go_enter Tryd.func9, Tryd.ntmps9
  go_upto_region 1 with fail
  generalize w.alloc (.cells rs.cells 25) = w1 at *
  have c2 := Lib.cell_of_heap X0.out 2
  have c5 := Lib.cell_of_heap X0.out 5
  have c6 := Lib.cell_of_heap X0.out 6
  have c7 := Lib.cell_of_heap X0.out 7
  have c8 := Lib.cell_of_heap X0.out 8
  have c9 := Lib.cell_of_heap X0.out 9
  have c10 := Lib.cell_of_heap X0.out 10
  have c11 := Lib.cell_of_heap X0.out 11
  have c12 := Lib.cell_of_heap X0.out 12
  have c13 := Lib.cell_of_heap X0.out 13
  have c14 := Lib.cell_of_heap X0.out 14
  have c15 := Lib.cell_of_heap X0.out 15
  have c16 := Lib.cell_of_heap X0.out 16
  simp [rs] at c2 c5 c6 c7 c8 c9 c10 c11 c12 c13 c14 c15 c16
  go_wp2_with fail
  have X1 := new_blk w1 (.cells (rs.start.cells ++ rs.fin.cells) 23)
  have B1 := Lib.hid (B0.out.trans ((below_alloc' w1 (.cells (rs.start.cells ++ rs.fin.cells) 23)).mono B0.out.size))
  have hz1 : (w1.alloc (.cells (rs.start.cells ++ rs.fin.cells) 23)).heap.size = w.heap.size + 1 + 1 := by simp [hz]
  rw [hz] at X1
  have X2 := blk_keep (below_alloc' w1 (.cells (rs.start.cells ++ rs.fin.cells) 23)) X0.out
  have e0 : rs.start.cells ++ rs.fin.cells = #[Value.int IntKind.i64 0, Value.int IntKind.i64 0, Value.int IntKind.i64 0, Value.int IntKind.i64 0, Value.int IntKind.i64 0, Value.int IntKind.i64 0, Value.int IntKind.i64 0, Value.int IntKind.i64 0, Value.int IntKind.i64 0, Value.int IntKind.i64 0, Value.int IntKind.i64 0, Value.int IntKind.i64 0] := rfl
  rw [e0] at X1 X2 B1 hz1
  generalize w1.alloc _ = w2 at *
  clear c2 c5 c6 c7 c8 c9 c10 c11 c12 c13 c14 c15 c16
  have c0 := Lib.cell_of_heap X1 0
  have c1 := Lib.cell_of_heap X1 1
  have c2 := Lib.cell_of_heap X1 2
  have c3 := Lib.cell_of_heap X1 3
  have c4 := Lib.cell_of_heap X1 4
  have c5 := Lib.cell_of_heap X1 5
  have c6 := Lib.cell_of_heap X1 6
  have c7 := Lib.cell_of_heap X1 7
  have c8 := Lib.cell_of_heap X1 8
  have c9 := Lib.cell_of_heap X1 9
  have c10 := Lib.cell_of_heap X1 10
  have c11 := Lib.cell_of_heap X1 11
  simp [rs] at c0 c1 c2 c3 c4 c5 c6 c7 c8 c9 c10 c11
  refine wp_loop_rounds 3 ?_
  rw [rounds_succ]
  go_wp2_with fail
  rw [rounds_succ]
  go_wp2_with fail
  rw [rounds_succ]
  go_wp2_with fail
  go_ret
  have b2 := below_alloc' w2 (.cells rs.start.cells 23)
  exact ⟨rfl, B1.out.trans ((b2.trans ((below_alloc' _ _).mono b2.size)).mono B1.out.size)⟩
end Go.Proofs.YtifnpclcnlgecaaDoor
