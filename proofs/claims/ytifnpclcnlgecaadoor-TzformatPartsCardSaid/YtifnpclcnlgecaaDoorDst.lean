/- The parser's step 'dst': its beginning: the name of daylight saving time. -/
import Derived.Test.YtifnpclcnlgecaaDoorParserC
import Derived.Laws.Rows
import Derived.Laws.Tables
set_option linter.unusedVariables false
namespace Go.Proofs.YtifnpclcnlgecaaDoor
open Go Go.RowKit

abbrev rcells (std : ByteArray) (off : Int) (b : Bool) (dst : ByteArray) (doff : Int) (s0 s1 s2 s3 s4 s5 e0 e1 e2 e3 e4 e5 : Int) : Array Value :=
  #[.string std, .int .i64 off, .bool b, .string dst, .int .i64 doff, .int .i64 s0, .int .i64 s1, .int .i64 s2, .int .i64 s3, .int .i64 s4, .int .i64 s5, .int .i64 e0, .int .i64 e1, .int .i64 e2, .int .i64 e3, .int .i64 e4, .int .i64 e5]

theorem blk_set25 {w : World} {g : Nat} {cs : Array Value} (h : w.heap[g]? = some (.cells cs 25 (0, 0))) (i : Nat) (u : Value) {cs' : Array Value} (e : cs.setIfInBounds i u = cs') : (w.setCell ⟨g, i, none⟩ u).heap[g]? = some (.cells cs' 25 (0, 0)) := by
  rw [blk_set h, e]

/-- Where dst stands: the parser's state, the box of r in block x, the result in block x + 1. -/
structure DS (g : Nat) (s : ByteArray) (k : Int) (cs : Array Value) (w wc : World) : Prop where
  ps : PS g s k wc
  gb : GB g w wc
  box : wc.heap[w.heap.size]? = some (.cells cs 25 (0, 0))
  res : wc.heap[w.heap.size + 1]? = some (.cells (rcells .empty 0 false .empty 0 0 0 0 0 0 0 0 0 0 0 0 0) 25 (0, 0))

theorem DS.start {g : Nat} {s : ByteArray} {k : Int} {cs : Array Value} {w : World} (h : PS g s k w) :
    DS g s k cs w ((w.alloc (.cells cs 25)).alloc (.cells (rcells .empty 0 false .empty 0 0 0 0 0 0 0 0 0 0 0 0 0) 25)) := by
  refine ⟨(h.below (below_alloc' _ _)).below (below_alloc' _ _), (GB.of_below (below_alloc' _ _)).trans (GB.of_below (below_alloc' _ _)), ?_, ?_⟩
  · rw [Below.heap_alloc _ _ _ (by simp)]
    show (w.heap.push _)[w.heap.size]? = _
    simp
  · have key : ∀ (W : World) (o : Obj), (W.alloc o).heap[W.heap.size]? = some o := fun W o => by
      show (W.heap.push _)[W.heap.size]? = _
      simp
    have := key (w.alloc (.cells cs 25)) (.cells (rcells .empty 0 false .empty 0 0 0 0 0 0 0 0 0 0 0 0 0) 25)
    rw [show (w.alloc (.cells cs 25)).heap.size = w.heap.size + 1 from by simp] at this
    exact this

theorem DS.drew {g : Nat} {s : ByteArray} {k : Int} {cs : Array Value} {w wc : World} (h : DS g s k cs w wc) : DS g s k cs w wc.drew := ⟨h.ps, h.gb.trans (GB.drew _ _), h.box, h.res⟩

/-- A step of the parser. -/
theorem DS.step {g : Nat} {s : ByteArray} {k k' : Int} {cs : Array Value} {w wc wd : World} (h : DS g s k cs w wc) (hg : g < w.heap.size) (hp : PS g s k' wd) (hb : GB g wc wd) : DS g s k' cs w wd :=
  ⟨hp, h.gb.trans hb, hb.keep h.box (by omega), hb.keep h.res (by omega)⟩

/-- A store into the box. -/
theorem DS.store {g : Nat} {s : ByteArray} {k : Int} {cs : Array Value} {w wc : World} (h : DS g s k cs w wc) (hg : g < w.heap.size) (i : Nat) (u : Value) {cs' : Array Value} (e : cs.setIfInBounds i u = cs') : DS g s k cs' w (wc.setCell ⟨w.heap.size, i, none⟩ u) := by
  refine ⟨?_, ⟨h.gb.os, h.gb.tape, h.gb.output, by have := h.gb.size; simpa [World.setCell] using this, fun j hj hjg => ?_⟩, blk_set25 h.box i u e, ?_⟩
  · unfold PS; rw [Below.heap_setCell _ _ _ _ (by simp; omega)]; exact h.ps
  · rw [Below.heap_setCell _ _ _ _ (by simp; omega)]; exact h.gb.block j hj hjg
  · rw [Below.heap_setCell _ _ _ _ (by simp)]; exact h.res

theorem DS.c {g : Nat} {s : ByteArray} {k : Int} {cs : Array Value} {w wc : World} (h : DS g s k cs w wc) (j : Nat) : wc.cell? ⟨w.heap.size, j, none⟩ = cs[j]? := Lib.cell_of_heap h.box j
theorem DS.f {g : Nat} {s : ByteArray} {k : Int} {cs : Array Value} {w wc : World} (h : DS g s k cs w wc) (j : Nat) : wc.frozen? ⟨w.heap.size, j, none⟩ = false := Lib.frozen_of_heap h.box j


theorem PS.at {g : Nat} {s : ByteArray} {x y : Int} {w : World} (h : PS g s x w) (e : x = y) : PS g s y w := e ▸ h

/-- Six stores: a day laid into the box. -/
theorem DS.day {g : Nat} {s : ByteArray} {k : Int} {cs : Array Value} {w wc : World} (h : DS g s k cs w wc) (hg : g < w.heap.size) (i : Nat) (u0 u1 u2 u3 u4 u5 : Value) {cs' : Array Value}
    (e : (((((cs.setIfInBounds i u0).setIfInBounds (i+1) u1).setIfInBounds (i+2) u2).setIfInBounds (i+3) u3).setIfInBounds (i+4) u4).setIfInBounds (i+5) u5 = cs') :
    DS g s k cs' w ((((((wc.setCell ⟨w.heap.size, i, none⟩ u0).setCell ⟨w.heap.size, i+1, none⟩ u1).setCell ⟨w.heap.size, i+2, none⟩ u2).setCell ⟨w.heap.size, i+3, none⟩ u3).setCell ⟨w.heap.size, i+4, none⟩ u4).setCell ⟨w.heap.size, i+5, none⟩ u5) :=
  (((((h.store hg i u0 rfl).store hg (i+1) u1 rfl).store hg (i+2) u2 rfl).store hg (i+3) u3 rfl).store hg (i+4) u4 rfl).store hg (i+5) u5 e

theorem rset4 (std off b dst doff s0 s1 s2 s3 s4 s5 e0 e1 e2 e3 e4 e5 v) : (rcells std off b dst doff s0 s1 s2 s3 s4 s5 e0 e1 e2 e3 e4 e5).setIfInBounds 4 (.int .i64 v) = rcells std off b dst v s0 s1 s2 s3 s4 s5 e0 e1 e2 e3 e4 e5 := by
  apply Array.ext'; simp only [Array.toList_setIfInBounds]; rfl
theorem rsetS (std off b dst doff s0 s1 s2 s3 s4 s5 e0 e1 e2 e3 e4 e5 u0 u1 u2 u3 u4 u5) : ((((((rcells std off b dst doff s0 s1 s2 s3 s4 s5 e0 e1 e2 e3 e4 e5).setIfInBounds 5 (.int .i64 u0)).setIfInBounds (5+1) (.int .i64 u1)).setIfInBounds (5+2) (.int .i64 u2)).setIfInBounds (5+3) (.int .i64 u3)).setIfInBounds (5+4) (.int .i64 u4)).setIfInBounds (5+5) (.int .i64 u5) = rcells std off b dst doff u0 u1 u2 u3 u4 u5 e0 e1 e2 e3 e4 e5 := by
  apply Array.ext'; simp only [Array.toList_setIfInBounds]; rfl
theorem rsetE (std off b dst doff s0 s1 s2 s3 s4 s5 e0 e1 e2 e3 e4 e5 u0 u1 u2 u3 u4 u5) : ((((((rcells std off b dst doff s0 s1 s2 s3 s4 s5 e0 e1 e2 e3 e4 e5).setIfInBounds 11 (.int .i64 u0)).setIfInBounds (11+1) (.int .i64 u1)).setIfInBounds (11+2) (.int .i64 u2)).setIfInBounds (11+3) (.int .i64 u3)).setIfInBounds (11+4) (.int .i64 u4)).setIfInBounds (11+5) (.int .i64 u5) = rcells std off b dst doff s0 s1 s2 s3 s4 s5 u0 u1 u2 u3 u4 u5 := by
  apply Array.ext'; simp only [Array.toList_setIfInBounds]; rfl

theorem rcells_one (std off b dst doff s0 s1 s2 s3 s4 s5 e0 e1 e2 e3 e4 e5) : (rcells std off b dst doff s0 s1 s2 s3 s4 s5 e0 e1 e2 e3 e4 e5).all (·.oneCell') = true := by
  simp [rcells, Value.oneCell']
theorem DS.res28 {g : Nat} {s : ByteArray} {k : Int} {cs : Array Value} {w wc : World} (h : DS g s k cs w wc) (hg : g < w.heap.size) (cs' : Array Value) :
    PS g s k (wc.setRow (w.heap.size + 1) cs') ∧ GB g w (wc.setRow (w.heap.size + 1) cs') ∧ (wc.setRow (w.heap.size + 1) cs').heap[w.heap.size + 1]? = some (.cells cs' 25 (0, 0)) := by
  refine ⟨?_, ⟨h.gb.os, h.gb.tape, h.gb.output, by have := h.gb.size; simpa using this, fun i hi hn => ?_⟩, setRow_heap _ _ _ _ _ _ h.res⟩
  · unfold PS; rw [setRow_other _ _ _ _ (by omega)]; exact h.ps
  · rw [setRow_other _ _ _ _ (by omega)]; exact h.gb.block i hi hn
end Go.Proofs.YtifnpclcnlgecaaDoor
