/- Seventeen stores into Parse's result. -/
import Derived.Test.YtifnpclcnlgecaaDoorPt
set_option linter.unusedVariables false
namespace Go.Proofs.YtifnpclcnlgecaaDoor
open Go Go.RowKit
theorem rlay17 (std : ByteArray) (off : Int) (b : Bool) (dst : ByteArray) (doff : Int) (s0 : Int) (s1 : Int) (s2 : Int) (s3 : Int) (s4 : Int) (s5 : Int) (e0 : Int) (e1 : Int) (e2 : Int) (e3 : Int) (e4 : Int) (e5 : Int) (std' : ByteArray) (off' : Int) (b' : Bool) (dst' : ByteArray) (doff' : Int) (s0' : Int) (s1' : Int) (s2' : Int) (s3' : Int) (s4' : Int) (s5' : Int) (e0' : Int) (e1' : Int) (e2' : Int) (e3' : Int) (e4' : Int) (e5' : Int) : ((((((((((((((((((rcells std off b dst doff s0 s1 s2 s3 s4 s5 e0 e1 e2 e3 e4 e5).setIfInBounds 0 (.string std')).setIfInBounds 1 (.int .i64 off')).setIfInBounds 2 (.bool b')).setIfInBounds 3 (.string dst')).setIfInBounds 4 (.int .i64 doff')).setIfInBounds 5 (.int .i64 s0')).setIfInBounds 6 (.int .i64 s1')).setIfInBounds 7 (.int .i64 s2')).setIfInBounds 8 (.int .i64 s3')).setIfInBounds 9 (.int .i64 s4')).setIfInBounds 10 (.int .i64 s5')).setIfInBounds 11 (.int .i64 e0')).setIfInBounds 12 (.int .i64 e1')).setIfInBounds 13 (.int .i64 e2')).setIfInBounds 14 (.int .i64 e3')).setIfInBounds 15 (.int .i64 e4')).setIfInBounds 16 (.int .i64 e5')) = rcells std' off' b' dst' doff' s0' s1' s2' s3' s4' s5' e0' e1' e2' e3' e4' e5' := by
  apply Array.ext'; simp only [Array.toList_setIfInBounds]; rfl
theorem PT.lay {s : ByteArray} {k : Int} {std : ByteArray} {off : Int} {b : Bool} {dst : ByteArray} {doff : Int} {s0 : Int} {s1 : Int} {s2 : Int} {s3 : Int} {s4 : Int} {s5 : Int} {e0 : Int} {e1 : Int} {e2 : Int} {e3 : Int} {e4 : Int} {e5 : Int} {w wc : World} (h : PT s k (rcells std off b dst doff s0 s1 s2 s3 s4 s5 e0 e1 e2 e3 e4 e5) w wc) (std' : ByteArray) (off' : Int) (b' : Bool) (dst' : ByteArray) (doff' : Int) (s0' : Int) (s1' : Int) (s2' : Int) (s3' : Int) (s4' : Int) (s5' : Int) (e0' : Int) (e1' : Int) (e2' : Int) (e3' : Int) (e4' : Int) (e5' : Int) :
    PT s k (rcells std' off' b' dst' doff' s0' s1' s2' s3' s4' s5' e0' e1' e2' e3' e4' e5') w ((((((((((((((((((wc.setCell ⟨w.heap.size, 0, none⟩ (.string std')).setCell ⟨w.heap.size, 1, none⟩ (.int .i64 off')).setCell ⟨w.heap.size, 2, none⟩ (.bool b')).setCell ⟨w.heap.size, 3, none⟩ (.string dst')).setCell ⟨w.heap.size, 4, none⟩ (.int .i64 doff')).setCell ⟨w.heap.size, 5, none⟩ (.int .i64 s0')).setCell ⟨w.heap.size, 6, none⟩ (.int .i64 s1')).setCell ⟨w.heap.size, 7, none⟩ (.int .i64 s2')).setCell ⟨w.heap.size, 8, none⟩ (.int .i64 s3')).setCell ⟨w.heap.size, 9, none⟩ (.int .i64 s4')).setCell ⟨w.heap.size, 10, none⟩ (.int .i64 s5')).setCell ⟨w.heap.size, 11, none⟩ (.int .i64 e0')).setCell ⟨w.heap.size, 12, none⟩ (.int .i64 e1')).setCell ⟨w.heap.size, 13, none⟩ (.int .i64 e2')).setCell ⟨w.heap.size, 14, none⟩ (.int .i64 e3')).setCell ⟨w.heap.size, 15, none⟩ (.int .i64 e4')).setCell ⟨w.heap.size, 16, none⟩ (.int .i64 e5'))) := by
  have h0 := h
  have h1 := h0.store 0 (.string std') rfl
  have h2 := h1.store 1 (.int .i64 off') rfl
  have h3 := h2.store 2 (.bool b') rfl
  have h4 := h3.store 3 (.string dst') rfl
  have h5 := h4.store 4 (.int .i64 doff') rfl
  have h6 := h5.store 5 (.int .i64 s0') rfl
  have h7 := h6.store 6 (.int .i64 s1') rfl
  have h8 := h7.store 7 (.int .i64 s2') rfl
  have h9 := h8.store 8 (.int .i64 s3') rfl
  have h10 := h9.store 9 (.int .i64 s4') rfl
  have h11 := h10.store 10 (.int .i64 s5') rfl
  have h12 := h11.store 11 (.int .i64 e0') rfl
  have h13 := h12.store 12 (.int .i64 e1') rfl
  have h14 := h13.store 13 (.int .i64 e2') rfl
  have h15 := h14.store 14 (.int .i64 e3') rfl
  have h16 := h15.store 15 (.int .i64 e4') rfl
  have h17 := h16.store 16 (.int .i64 e5') rfl
  rw [rlay17] at h17
  exact h17
theorem PT.yz {s : ByteArray} {k : Int} {cs : Array Value} {w wc : World} (h : PT s k cs w wc) :
    Res w.heap.size cs 0 0 ((wc.setCell ⟨w.heap.size + 1, 0, none⟩ (.int .i64 0)).setCell ⟨w.heap.size + 2, 0, none⟩ (.int .i64 0)) ∧
    Below w.heap.size w ((wc.setCell ⟨w.heap.size + 1, 0, none⟩ (.int .i64 0)).setCell ⟨w.heap.size + 2, 0, none⟩ (.int .i64 0)) := by
  refine ⟨⟨?_, ?_, ?_⟩, (h.bl.setCell (by simp) _).setCell (by simp) _⟩
  · rw [Below.heap_setCell _ _ _ _ (by simp), Below.heap_setCell _ _ _ _ (by simp)]; exact h.res.r
  · rw [Below.heap_setCell _ _ _ _ (by simp)]; exact blk_set h.res.y 0 (.int .i64 0)
  · refine blk_set (cs := #[.int .i64 0]) ?_ 0 (.int .i64 0)
    rw [Below.heap_setCell _ _ _ _ (by simp)]; exact h.res.z
end Go.Proofs.YtifnpclcnlgecaaDoor
