/- The deferred function of posixtz.Parse. -/
import Derived.Test.YtifnpclcnlgecaaDoorDst
import Derived.Defers
import Derived.Recover
import Derived.Laws.Pointers
set_option linter.unusedVariables false
set_option linter.unusedSimpArgs false
namespace Go.Proofs.YtifnpclcnlgecaaDoor
open Go Go.RowKit

/-- Where the results of Parse stand: x, x + 1, x + 2. -/
structure Res (x : Nat) (cs : Array Value) (why at_ : Int) (w : World) : Prop where
  r : w.heap[x]? = some (.cells cs 25 (0, 0))
  y : w.heap[x + 1]? = some (.cells #[.int .i64 why] 50 (0, 0))
  z : w.heap[x + 2]? = some (.cells #[.int .i64 at_] 3 (0, 0))

set_option maxHeartbeats 1000000 in
theorem catch_idle (x : Nat) (w : World) :
    CallsD Tryd.prog 25 #[.pointer (some ⟨x, 0, none⟩), .pointer (some ⟨x + 1, 0, none⟩), .pointer (some ⟨x + 2, 0, none⟩)] .returning w fun e u' w' => e = .returned (.tuple #[]) ∧ u' = .returning ∧ w = w' := by
  refine callsD_of_wpS Tryd.func25 rfl fun c₀ fs hu => ?_
  apply wpS_seq
  apply wpS_region
  simp [wpOpsS, go_sem, recoverD, hu, Tryd.ntmps25, Exit.thenS]
  apply wpS_seq
  apply wpS_region
  simp [wpOpsS, go_sem, Exit.thenS]
  refine wpS_cond (t := false) (by simp [Act.eval, Array.replicate]) ?_
  simp only [Bool.false_eq_true, if_false]
  refine wpS_of_wp (wp_skip ?_)
  cases c₀
  simp_all [bodyPostS, results, Tryd.results25]

theorem rlay (std : ByteArray) (off : Int) : ((((((((((((((((((rcells std off false .empty 0 0 0 0 0 0 0 0 0 0 0 0 0).setIfInBounds 0 (.string ⟨#[]⟩)).setIfInBounds 1 (.int .i64 0)).setIfInBounds 2 (.bool false)).setIfInBounds 3 (.string ⟨#[]⟩)).setIfInBounds 4 (.int .i64 0)).setIfInBounds 5 (.int .i64 0)).setIfInBounds 6 (.int .i64 0)).setIfInBounds 7 (.int .i64 0)).setIfInBounds 8 (.int .i64 0)).setIfInBounds 9 (.int .i64 0)).setIfInBounds 10 (.int .i64 0)).setIfInBounds 11 (.int .i64 0)).setIfInBounds 12 (.int .i64 0)).setIfInBounds 13 (.int .i64 0)).setIfInBounds 14 (.int .i64 0)).setIfInBounds 15 (.int .i64 0)).setIfInBounds 16 (.int .i64 0)) = rcells .empty 0 false .empty 0 0 0 0 0 0 0 0 0 0 0 0 0 := by
  apply Array.ext'; simp only [Array.toList_setIfInBounds]; rfl

theorem Res.lay {x : Nat} {std : ByteArray} {off k : Int} {w : World} (h : Res x (rcells std off false .empty 0 0 0 0 0 0 0 0 0 0 0 0 0) 0 0 w) :
    Res x (rcells .empty 0 false .empty 0 0 0 0 0 0 0 0 0 0 0 0 0) 14 k (((((((((((((((((((w.setCell ⟨x, 0, none⟩ (.string ⟨#[]⟩)).setCell ⟨x, 1, none⟩ (.int .i64 0)).setCell ⟨x, 2, none⟩ (.bool false)).setCell ⟨x, 3, none⟩ (.string ⟨#[]⟩)).setCell ⟨x, 4, none⟩ (.int .i64 0)).setCell ⟨x, 5, none⟩ (.int .i64 0)).setCell ⟨x, 6, none⟩ (.int .i64 0)).setCell ⟨x, 7, none⟩ (.int .i64 0)).setCell ⟨x, 8, none⟩ (.int .i64 0)).setCell ⟨x, 9, none⟩ (.int .i64 0)).setCell ⟨x, 10, none⟩ (.int .i64 0)).setCell ⟨x, 11, none⟩ (.int .i64 0)).setCell ⟨x, 12, none⟩ (.int .i64 0)).setCell ⟨x, 13, none⟩ (.int .i64 0)).setCell ⟨x, 14, none⟩ (.int .i64 0)).setCell ⟨x, 15, none⟩ (.int .i64 0)).setCell ⟨x, 16, none⟩ (.int .i64 0)).setCell ⟨x + 1, 0, none⟩ (.int .i64 14)).setCell ⟨x + 2, 0, none⟩ (.int .i64 k)) := by
  have h1 := blk_set h.r 0 (.string ⟨#[]⟩)
  have h2 := blk_set h1 1 (.int .i64 0)
  have h3 := blk_set h2 2 (.bool false)
  have h4 := blk_set h3 3 (.string ⟨#[]⟩)
  have h5 := blk_set h4 4 (.int .i64 0)
  have h6 := blk_set h5 5 (.int .i64 0)
  have h7 := blk_set h6 6 (.int .i64 0)
  have h8 := blk_set h7 7 (.int .i64 0)
  have h9 := blk_set h8 8 (.int .i64 0)
  have h10 := blk_set h9 9 (.int .i64 0)
  have h11 := blk_set h10 10 (.int .i64 0)
  have h12 := blk_set h11 11 (.int .i64 0)
  have h13 := blk_set h12 12 (.int .i64 0)
  have h14 := blk_set h13 13 (.int .i64 0)
  have h15 := blk_set h14 14 (.int .i64 0)
  have h16 := blk_set h15 15 (.int .i64 0)
  have h17 := blk_set h16 16 (.int .i64 0)
  rw [rlay] at h17
  have o : ∀ (W : World) (j : Nat) (v : Value) (b : Nat), b ≠ x → (W.setCell ⟨x, j, none⟩ v).heap[b]? = W.heap[b]? := fun W j v b hb => Below.heap_setCell _ _ _ _ hb
  clear h1 h2 h3 h4 h5 h6 h7 h8 h9 h10 h11 h12 h13 h14 h15 h16
  generalize hW : (((((((((((((((((w.setCell ⟨x, 0, none⟩ (.string ⟨#[]⟩)).setCell ⟨x, 1, none⟩ (.int .i64 0)).setCell ⟨x, 2, none⟩ (.bool false)).setCell ⟨x, 3, none⟩ (.string ⟨#[]⟩)).setCell ⟨x, 4, none⟩ (.int .i64 0)).setCell ⟨x, 5, none⟩ (.int .i64 0)).setCell ⟨x, 6, none⟩ (.int .i64 0)).setCell ⟨x, 7, none⟩ (.int .i64 0)).setCell ⟨x, 8, none⟩ (.int .i64 0)).setCell ⟨x, 9, none⟩ (.int .i64 0)).setCell ⟨x, 10, none⟩ (.int .i64 0)).setCell ⟨x, 11, none⟩ (.int .i64 0)).setCell ⟨x, 12, none⟩ (.int .i64 0)).setCell ⟨x, 13, none⟩ (.int .i64 0)).setCell ⟨x, 14, none⟩ (.int .i64 0)).setCell ⟨x, 15, none⟩ (.int .i64 0)).setCell ⟨x, 16, none⟩ (.int .i64 0)) = W at *
  have y : W.heap[x + 1]? = some (.cells #[.int .i64 0] 50 (0, 0)) := by
    rw [← hW]; iterate 17 rw [o _ _ _ _ (by omega)]
    exact h.y
  have z : W.heap[x + 2]? = some (.cells #[.int .i64 0] 3 (0, 0)) := by
    rw [← hW]; iterate 17 rw [o _ _ _ _ (by omega)]
    exact h.z
  refine ⟨?_, ?_, ?_⟩
  · rw [Below.heap_setCell _ _ _ _ (by simp), Below.heap_setCell _ _ _ _ (by simp)]; exact h17
  · rw [Below.heap_setCell _ _ _ _ (by simp)]
    exact blk_set y 0 (.int .i64 14)
  · refine blk_set (cs := #[.int .i64 0]) ?_ 0 (.int .i64 k)
    rw [Below.heap_setCell _ _ _ _ (by simp)]; exact z

theorem Res.below {x : Nat} {k : Int} {w0 w : World} (h : Below x w0 w) :
    Below x w0 (((((((((((((((((((w.setCell ⟨x, 0, none⟩ (.string ⟨#[]⟩)).setCell ⟨x, 1, none⟩ (.int .i64 0)).setCell ⟨x, 2, none⟩ (.bool false)).setCell ⟨x, 3, none⟩ (.string ⟨#[]⟩)).setCell ⟨x, 4, none⟩ (.int .i64 0)).setCell ⟨x, 5, none⟩ (.int .i64 0)).setCell ⟨x, 6, none⟩ (.int .i64 0)).setCell ⟨x, 7, none⟩ (.int .i64 0)).setCell ⟨x, 8, none⟩ (.int .i64 0)).setCell ⟨x, 9, none⟩ (.int .i64 0)).setCell ⟨x, 10, none⟩ (.int .i64 0)).setCell ⟨x, 11, none⟩ (.int .i64 0)).setCell ⟨x, 12, none⟩ (.int .i64 0)).setCell ⟨x, 13, none⟩ (.int .i64 0)).setCell ⟨x, 14, none⟩ (.int .i64 0)).setCell ⟨x, 15, none⟩ (.int .i64 0)).setCell ⟨x, 16, none⟩ (.int .i64 0)).setCell ⟨x + 1, 0, none⟩ (.int .i64 14)).setCell ⟨x + 2, 0, none⟩ (.int .i64 k)) := by
  iterate 19 refine Below.setCell ?_ (by simp) _
  exact h

theorem Res.drew {x : Nat} {cs : Array Value} {a b : Int} {w : World} (h : Res x cs a b w) : Res x cs a b w.drew := ⟨h.r, h.y, h.z⟩

theorem heap_alloc_new' (w : World) (o : Obj) : (w.alloc o).heap[w.heap.size]? = some o := by
  show (w.heap.push o)[w.heap.size]? = some o
  simp

theorem res25 (tmps : Array Value) (W : World) : (results Tryd.f25 tmps).run Tryd.prog W = .ok (.tuple #[]) W := by
  simp [results, Tryd.results25]

theorem assert_stop (k : Int) (w : World) : (Instr.typeAssert (.iface 61 (.agg #[.int .i64 k])) 20 61 true).run Tryd.prog w = .ok (.tuple #[.agg #[.int .i64 k], .bool true]) w := by
  rfl

set_option maxHeartbeats 4000000 in
set_option maxRecDepth 100000 in
theorem catch_stop (x : Nat) (k : Int) (std : ByteArray) (off : Int) (w : World) (h : Res x (rcells std off false .empty 0 0 0 0 0 0 0 0 0 0 0 0 0) 0 0 w) (old : List PanicEntry) :
    CallsD Tryd.prog 25 #[.pointer (some ⟨x, 0, none⟩), .pointer (some ⟨x + 1, 0, none⟩), .pointer (some ⟨x + 2, 0, none⟩)] (.panicking ({ v := .iface 61 (.agg #[.int .i64 k]), recovered := false } :: old)) w fun e u' w' =>
      e = .returned (.tuple #[]) ∧ u' = .panicking ({ v := .iface 61 (.agg #[.int .i64 k]), recovered := true } :: old) ∧ Res x (rcells .empty 0 false .empty 0 0 0 0 0 0 0 0 0 0 0 0 0) 14 k w' ∧ Below x w w' := by
  refine callsD_of_wpS Tryd.func25 rfl fun c₀ fs hu => ?_
  apply wpS_seq
  apply wpS_region
  simp [wpOpsS, go_sem, recoverD, hu, Tryd.ntmps25, Exit.thenS]
  apply wpS_seq
  apply wpS_region
  simp [wpOpsS, go_sem, Exit.thenS]
  refine wpS_cond (t := true) (by simp [Act.eval, Array.replicate]) ?_
  simp only [if_true]
  refine wpS_of_wp ?_
  have hta := assert_stop k
  change Code.wp _ _ _ ⟨#[.pointer (some ⟨x, 0, none⟩), .pointer (some ⟨x + 1, 0, none⟩), .pointer (some ⟨x + 2, 0, none⟩), .iface 61 (.agg #[.int .i64 k]), undef, undef, .iface 61 (.agg #[.int .i64 k]), .iface 61 (.agg #[.int .i64 k]), .bool true, undef, undef, undef, undef, undef, undef, undef, undef, undef, undef], #[].toList⟩ _
  go_upto_region 4 with fail
  have hx : x + 2 < w.heap.size := (Array.getElem?_eq_some_iff.1 h.z).1
  have R1 : Res x (rcells std off false .empty 0 0 0 0 0 0 0 0 0 0 0 0 0) 0 0 (w.alloc (.cells #[.int .i64 k] 61)) := ⟨blk_keep (below_alloc' _ _) h.r, blk_keep (below_alloc' _ _) h.y, blk_keep (below_alloc' _ _) h.z⟩
  have B1 := Lib.hid (show Below x w (w.alloc (.cells #[.int .i64 k] 61)) from (below_alloc' _ _).mono (by omega))
  have K1 := heap_alloc_new' w (.cells #[.int .i64 k] 61)
  generalize w.alloc (.cells #[.int .i64 k] 61) = w1 at *
  have k0 := Lib.cell_of_heap K1 0
  have hne : ∀ j, w.heap.size ≠ x + j ∨ True := fun _ => .inr trivial
  clear hne
  have c0 := Lib.cell_of_heap R1.r 0
  have f0 := Lib.frozen_of_heap R1.r 0
  have c1 := Lib.cell_of_heap R1.r 1
  have f1 := Lib.frozen_of_heap R1.r 1
  have c2 := Lib.cell_of_heap R1.r 2
  have f2 := Lib.frozen_of_heap R1.r 2
  have c3 := Lib.cell_of_heap R1.r 3
  have f3 := Lib.frozen_of_heap R1.r 3
  have c4 := Lib.cell_of_heap R1.r 4
  have f4 := Lib.frozen_of_heap R1.r 4
  have c5 := Lib.cell_of_heap R1.r 5
  have f5 := Lib.frozen_of_heap R1.r 5
  have c6 := Lib.cell_of_heap R1.r 6
  have f6 := Lib.frozen_of_heap R1.r 6
  have c7 := Lib.cell_of_heap R1.r 7
  have f7 := Lib.frozen_of_heap R1.r 7
  have c8 := Lib.cell_of_heap R1.r 8
  have f8 := Lib.frozen_of_heap R1.r 8
  have c9 := Lib.cell_of_heap R1.r 9
  have f9 := Lib.frozen_of_heap R1.r 9
  have c10 := Lib.cell_of_heap R1.r 10
  have f10 := Lib.frozen_of_heap R1.r 10
  have c11 := Lib.cell_of_heap R1.r 11
  have f11 := Lib.frozen_of_heap R1.r 11
  have c12 := Lib.cell_of_heap R1.r 12
  have f12 := Lib.frozen_of_heap R1.r 12
  have c13 := Lib.cell_of_heap R1.r 13
  have f13 := Lib.frozen_of_heap R1.r 13
  have c14 := Lib.cell_of_heap R1.r 14
  have f14 := Lib.frozen_of_heap R1.r 14
  have c15 := Lib.cell_of_heap R1.r 15
  have f15 := Lib.frozen_of_heap R1.r 15
  have c16 := Lib.cell_of_heap R1.r 16
  have f16 := Lib.frozen_of_heap R1.r 16
  have cy := Lib.cell_of_heap R1.y 0
  have fy := Lib.frozen_of_heap R1.y 0
  have cz := Lib.cell_of_heap R1.z 0
  have fz := Lib.frozen_of_heap R1.z 0
  simp at k0 cy cz c0 c1 c2 c3 c4 c5 c6 c7 c8 c9 c10 c11 c12 c13 c14 c15 c16
  have H1 := Lib.hid R1
  clear R1 h K1
  go_region_with fail
  all_goals
    clear k0 cy fy cz fz c0 f0 c1 f1 c2 f2 c3 f3 c4 f4 c5 f5 c6 f6 c7 f7 c8 f8 c9 f9 c10 f10 c11 f11 c12 f12 c13 f13 c14 f14 c15 f15 c16 f16
    go_wp2_with fail
    have L := (And.intro H1.out.lay.drew (Res.below (k := k) B1.out).drew : Res x (rcells .empty 0 false .empty 0 0 0 0 0 0 0 0 0 0 0 0 0) 14 k _ ∧ Below x w _)
    clear H1 B1
    generalize World.setCell _ ⟨x + 2, 0, none⟩ _ = W at *
    exact ⟨rfl, _, rfl, .tuple #[], res25 _ _, rfl, rfl, L⟩
end Go.Proofs.YtifnpclcnlgecaaDoor
