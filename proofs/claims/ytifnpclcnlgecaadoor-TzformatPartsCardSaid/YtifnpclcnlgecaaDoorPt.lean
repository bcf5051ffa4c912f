/- posixtz.Parse: where its walk stands. -/
import Derived.Test.YtifnpclcnlgecaaDoorCatch
import Derived.Test.YtifnpclcnlgecaaDoorDstB
import Derived.Test.YtifnpclcnlgecaaDoorDstC
import Derived.Test.YtifnpclcnlgecaaDoorValid
import Derived.Test.YtifnpclcnlgecaaDoorTexts
set_option linter.unusedVariables false
set_option linter.unusedSimpArgs false
namespace Go.Proofs.YtifnpclcnlgecaaDoor
open Go Go.RowKit

abbrev rzero : Array Value := rcells .empty 0 false .empty 0 0 0 0 0 0 0 0 0 0 0 0 0

/-- Where Parse stands: the results in x, x + 1, x + 2; the parser in x + 3. -/
structure PT (s : ByteArray) (k : Int) (cs : Array Value) (w wc : World) : Prop where
  ps : PS (w.heap.size + 3) s k wc
  res : Res w.heap.size cs 0 0 wc
  bl : Below w.heap.size w wc
  sz : w.heap.size + 3 < wc.heap.size

theorem new_blk (w : World) (o : Obj) : (w.alloc o).heap[w.heap.size]? = some o := heap_alloc_new' w o

theorem PT.start (s : ByteArray) (w : World) : PT s 0 rzero w ((((w.alloc (.cells rzero 25)).alloc (.cells #[.int .i64 0] 50)).alloc (.cells #[.int .i64 0] 3)).alloc (.cells #[.string s, .int .i64 0] 59)) := by
  have a := new_blk w (.cells rzero 25)
  generalize h1 : w.alloc (.cells rzero 25) = w1 at *
  have z1 : w1.heap.size = w.heap.size + 1 := by rw [← h1]; simp
  have b1 : Below w.heap.size w w1 := by rw [← h1]; exact below_alloc' _ _
  have b := new_blk w1 (.cells #[.int .i64 0] 50)
  generalize h2 : w1.alloc (.cells #[.int .i64 0] 50) = w2 at *
  have z2 : w2.heap.size = w.heap.size + 2 := by rw [← h2]; simp [z1]
  have b2 : Below w1.heap.size w1 w2 := by rw [← h2]; exact below_alloc' _ _
  have c := new_blk w2 (.cells #[.int .i64 0] 3)
  generalize h3 : w2.alloc (.cells #[.int .i64 0] 3) = w3 at *
  have z3 : w3.heap.size = w.heap.size + 3 := by rw [← h3]; simp [z2]
  have b3 : Below w2.heap.size w2 w3 := by rw [← h3]; exact below_alloc' _ _
  have d := new_blk w3 (.cells #[.string s, .int .i64 0] 59)
  generalize h4 : w3.alloc (.cells #[.string s, .int .i64 0] 59) = w4 at *
  have z4 : w4.heap.size = w.heap.size + 4 := by rw [← h4]; simp [z3]
  have b4 : Below w3.heap.size w3 w4 := by rw [← h4]; exact below_alloc' _ _
  rw [z1] at b; rw [z2] at c; rw [z3] at d
  exact ⟨d, ⟨blk_keep b4 (blk_keep b3 (blk_keep b2 a)), blk_keep b4 (blk_keep b3 b), blk_keep b4 c⟩, ((b1.trans (b2.mono (by omega))).trans (b3.mono (by omega))).trans (b4.mono (by omega)), by omega⟩

theorem PT.drew {s : ByteArray} {k : Int} {cs : Array Value} {w wc : World} (h : PT s k cs w wc) : PT s k cs w wc.drew := ⟨h.ps, h.res.drew, h.bl.drew, h.sz⟩

theorem Below.of_gb {B g : Nat} {w wc wd : World} (h : Below B w wc) (hg : B ≤ g) (hB : B ≤ wc.heap.size) (g' : GB g wc wd) : Below B w wd :=
  ⟨g'.os.trans h.os, g'.tape.trans h.tape, g'.output.trans h.output, Nat.le_trans h.size g'.size, fun i hi => (g'.block i (by omega) (by omega)).trans (h.block i hi)⟩

theorem PT.step {s : ByteArray} {k k' : Int} {cs : Array Value} {w wc wd : World} (h : PT s k cs w wc) (hp : PS (w.heap.size + 3) s k' wd) (g : GB (w.heap.size + 3) wc wd) : PT s k' cs w wd :=
  ⟨hp, ⟨g.keep h.res.r (by omega), g.keep h.res.y (by omega), g.keep h.res.z (by omega)⟩, Below.of_gb h.bl (by omega) (by have := h.sz; omega) g, by have := h.sz; have := g.size; omega⟩

theorem PT.below {s : ByteArray} {k : Int} {cs : Array Value} {w wc wd : World} (h : PT s k cs w wc) (b : Below wc.heap.size wc wd) : PT s k cs w wd :=
  ⟨h.ps.below b, ⟨blk_keep b h.res.r, blk_keep b h.res.y, blk_keep b h.res.z⟩, h.bl.trans (b.mono (by have := h.sz; omega)), by have := h.sz; have := b.size; omega⟩

theorem PT.store {s : ByteArray} {k : Int} {cs : Array Value} {w wc : World} (h : PT s k cs w wc) (i : Nat) (u : Value) {cs' : Array Value} (e : cs.setIfInBounds i u = cs') : PT s k cs' w (wc.setCell ⟨w.heap.size, i, none⟩ u) := by
  refine ⟨?_, ⟨?_, ?_, ?_⟩, h.bl.setCell (by simp) _, by have := h.sz; simpa [World.setCell] using this⟩
  · unfold PS; rw [Below.heap_setCell _ _ _ _ (by simp)]; exact h.ps
  · rw [blk_set h.res.r, e]
  · rw [Below.heap_setCell _ _ _ _ (by simp)]; exact h.res.y
  · rw [Below.heap_setCell _ _ _ _ (by simp)]; exact h.res.z

theorem rset0 (std off b dst doff s0 s1 s2 s3 s4 s5 e0 e1 e2 e3 e4 e5 v) : (rcells std off b dst doff s0 s1 s2 s3 s4 s5 e0 e1 e2 e3 e4 e5).setIfInBounds 0 (.string v) = rcells v off b dst doff s0 s1 s2 s3 s4 s5 e0 e1 e2 e3 e4 e5 := by
  apply Array.ext'; simp only [Array.toList_setIfInBounds]; rfl
theorem rset1 (std off b dst doff s0 s1 s2 s3 s4 s5 e0 e1 e2 e3 e4 e5 v) : (rcells std off b dst doff s0 s1 s2 s3 s4 s5 e0 e1 e2 e3 e4 e5).setIfInBounds 1 (.int .i64 v) = rcells std v b dst doff s0 s1 s2 s3 s4 s5 e0 e1 e2 e3 e4 e5 := by
  apply Array.ext'; simp only [Array.toList_setIfInBounds]; rfl

theorem PT.c {s : ByteArray} {k : Int} {cs : Array Value} {w wc : World} (h : PT s k cs w wc) (j : Nat) : wc.cell? ⟨w.heap.size, j, none⟩ = cs[j]? := Lib.cell_of_heap h.res.r j
theorem PT.f {s : ByteArray} {k : Int} {cs : Array Value} {w wc : World} (h : PT s k cs w wc) (j : Nat) : wc.frozen? ⟨w.heap.size, j, none⟩ = false := Lib.frozen_of_heap h.res.r j

theorem PT.gone {s : ByteArray} {k : Int} {cs : Array Value} {w wc wd : World} (h : PT s k cs w wc) (g : GB (w.heap.size + 3) wc wd) : Res w.heap.size cs 0 0 wd ∧ Below w.heap.size w wd :=
  ⟨⟨g.keep h.res.r (by omega), g.keep h.res.y (by omega), g.keep h.res.z (by omega)⟩, Below.of_gb h.bl (by omega) (by have := h.sz; omega) g⟩

theorem res18 (tmps : Array Value) (W : World) (x : Nat) (why at_ : Int) (std : ByteArray) (off : Int) (b : Bool) (dst : ByteArray) (doff : Int) (s0 s1 s2 s3 s4 s5 e0 e1 e2 e3 e4 e5 : Int)
    (t2 : tmps[2]?.getD undef = .pointer (some ⟨x, 0, none⟩)) (t3 : tmps[3]?.getD undef = .pointer (some ⟨x + 1, 0, none⟩)) (t4 : tmps[4]?.getD undef = .pointer (some ⟨x + 2, 0, none⟩))
    (h : Res x (rcells std off b dst doff s0 s1 s2 s3 s4 s5 e0 e1 e2 e3 e4 e5) why at_ W) :
    (results Tryd.f18 tmps).run Tryd.prog W = .ok (.tuple #[.agg (rcells std off b dst doff s0 s1 s2 s3 s4 s5 e0 e1 e2 e3 e4 e5), .int .i64 why, .int .i64 at_]) W := by
  have c0 := Lib.cell_of_heap h.r 0
  have c1 := Lib.cell_of_heap h.r 1
  have c2 := Lib.cell_of_heap h.r 2
  have c3 := Lib.cell_of_heap h.r 3
  have c4 := Lib.cell_of_heap h.r 4
  have c5 := Lib.cell_of_heap h.r 5
  have c6 := Lib.cell_of_heap h.r 6
  have c7 := Lib.cell_of_heap h.r 7
  have c8 := Lib.cell_of_heap h.r 8
  have c9 := Lib.cell_of_heap h.r 9
  have c10 := Lib.cell_of_heap h.r 10
  have c11 := Lib.cell_of_heap h.r 11
  have c12 := Lib.cell_of_heap h.r 12
  have c13 := Lib.cell_of_heap h.r 13
  have c14 := Lib.cell_of_heap h.r 14
  have c15 := Lib.cell_of_heap h.r 15
  have c16 := Lib.cell_of_heap h.r 16
  have cy := Lib.cell_of_heap h.y 0
  have cz := Lib.cell_of_heap h.z 0
  simp at c0 c1 c2 c3 c4 c5 c6 c7 c8 c9 c10 c11 c12 c13 c14 c15 c16 cy cz
  simp [results, Tryd.results18, go_sem, t2, t3, t4, cy, cz, c0, c1, c2, c3, c4, c5, c6, c7, c8, c9, c10, c11, c12, c13, c14, c15, c16]
end Go.Proofs.YtifnpclcnlgecaaDoor
