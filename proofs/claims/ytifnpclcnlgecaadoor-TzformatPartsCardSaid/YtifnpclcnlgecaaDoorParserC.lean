/- The parser's step 'day'. -/
import Derived.Test.YtifnpclcnlgecaaDoorParserB
import Derived.Deep.DeepCutAuto
set_option linter.unusedVariables false
namespace Go.Proofs.YtifnpclcnlgecaaDoor
open Go Go.RowKit

theorem blk_new_drew {w w2 : World} {o : Obj} (h : Below (w.alloc o).drew.heap.size (w.alloc o).drew w2) : w2.heap[w.heap.size]? = some o := by
  rw [h.block _ (by show w.heap.size < (w.alloc o).heap.size; simp)]
  show (w.heap.push _)[w.heap.size]? = _
  simp

theorem blk_old_drew {w w2 : World} {o : Obj} {b : Nat} (h : Below w.drew.heap.size w.drew w2) (hb : w.heap[b]? = some o) : w2.heap[b]? = some o := by
  rw [h.block _ (Array.getElem?_eq_some_iff.1 hb).1]
  exact hb

abbrev zeroDay : Obj := .cells (zdays 0 0 0 0 0 0) 23 (0, 0)

/-- What stands behind the call of Day: y: the block of the day. -/
def DayAt (g : Nat) (s : ByteArray) (k : Nat) (cs : Array Value) (w : World) (y : Nat) (wc : World) : Prop :=
  w.heap.size < y ∧ PS g s k wc ∧ GB g w wc ∧ wc.heap[y]? = some (.cells cs 23 (0, 0)) ∧ wc.heap[w.heap.size]? = some zeroDay

theorem dayA {g : Nat} {s : ByteArray} {k : Nat} {cs : Array Value} {w w1 : World} (h : PS g s k w) (hb : Below (w.alloc zeroDay).drew.heap.size (w.alloc zeroDay).drew w1) : DayAt g s k cs w w1.heap.size (w1.alloc (.cells cs 23)) := by
  have hs : (w.alloc zeroDay).heap.size ≤ w1.heap.size := hb.size
  have hs' : w.heap.size < w1.heap.size := by simp at hs; omega
  have hz : PS g s k (w.alloc zeroDay).drew := (h.below (below_alloc' _ _)).drew
  have hg : GB g w w1 := ((GB.of_below (below_alloc' w zeroDay)).trans (GB.drew _ _)).trans (GB.of_below hb)
  refine ⟨hs', (hz.below hb).below (below_alloc' _ _), hg.trans (GB.of_below (below_alloc' _ _)), ?_, ?_⟩
  · show (w1.heap.push _)[w1.heap.size]? = _
    simp
  · rw [Below.heap_alloc _ _ _ hs']
    exact blk_new_drew hb

theorem dayB {g : Nat} {s : ByteArray} {k : Nat} {a b c d e f : Int} {w w1 : World} (h : PS g s k w) (hb : Below ((w.alloc zeroDay).alloc zeroDay).drew.heap.size ((w.alloc zeroDay).alloc zeroDay).drew w1) :
    DayAt g s k (zdays a b c d e f) w (w.heap.size + 1) ((((((w1.setCell ⟨w.heap.size + 1, 0, none⟩ (.int .i64 a)).setCell ⟨w.heap.size + 1, 1, none⟩ (.int .i64 b)).setCell ⟨w.heap.size + 1, 2, none⟩ (.int .i64 c)).setCell ⟨w.heap.size + 1, 3, none⟩ (.int .i64 d)).setCell ⟨w.heap.size + 1, 4, none⟩ (.int .i64 e)).setCell ⟨w.heap.size + 1, 5, none⟩ (.int .i64 f)) := by
  have hgs : g < w.heap.size := (Array.getElem?_eq_some_iff.1 h).1
  have hz : PS g s k ((w.alloc zeroDay).alloc zeroDay).drew := ((h.below (below_alloc' _ _)).below (below_alloc' _ _)).drew
  have h1 : PS g s k w1 := hz.below hb
  have hbl : Below w.heap.size w w1 := by
    have h2 : Below w.heap.size w ((w.alloc zeroDay).alloc zeroDay).drew := (((Below.refl w.heap.size w).alloc (Nat.le_refl _) _).alloc (by simp) _).drew
    exact h2.trans (hb.mono h2.size)
  have k1 : w1.heap[w.heap.size + 1]? = some zeroDay := by
    have := blk_new_drew hb
    simpa using this
  have k0 : w1.heap[w.heap.size]? = some zeroDay := by
    refine blk_old_drew hb ?_
    rw [Below.heap_alloc _ _ _ (by simp)]
    show (w.heap.push _)[w.heap.size]? = _
    simp
  have b6 := below_six (k := .int .i64 a) (a := .int .i64 b) (b := .int .i64 c) (c := .int .i64 d) (d := .int .i64 e) (e := .int .i64 f) (Below.refl (w.heap.size + 1) w1) (Nat.le_refl _)
  refine ⟨by omega, ?_, ?_, blk_six k1, ?_⟩
  · unfold PS
    rw [b6.block g (by omega)]; exact h1
  · have := hbl.trans (b6.mono (by omega))
    exact GB.of_below this
  · rw [b6.block _ (by omega)]; exact k0

theorem res38 (tmps : Array Value) (W : World) (g : Nat) (k a b c d e : Int) (h2 : tmps[2]?.getD undef = .pointer (some ⟨g, 0, none⟩))
    (hb : W.heap[g]? = some (.cells (zdays k a b c d e) 23 (0, 0))) : (results Tryd.f38 tmps).run Tryd.prog W = .ok (.agg (zdays k a b c d e)) W := by
  have c0 := Lib.cell_of_heap hb 0
  have c1 := Lib.cell_of_heap hb 1
  have c2 := Lib.cell_of_heap hb 2
  have c3 := Lib.cell_of_heap hb 3
  have c4 := Lib.cell_of_heap hb 4
  have c5 := Lib.cell_of_heap hb 5
  simp at c0 c1 c2 c3 c4 c5
  simp [results, Tryd.results38, go_sem, h2, c0, c1, c2, c3, c4, c5]

theorem day_ps {g x : Nat} {s : ByteArray} {v : Int} {w : World} {k a b c d e : Value} (h : PS g s v w) (hx : x ≠ g) :
    PS g s v ((((((w.setCell ⟨x, 0, none⟩ k).setCell ⟨x, 1, none⟩ a).setCell ⟨x, 2, none⟩ b).setCell ⟨x, 3, none⟩ c).setCell ⟨x, 4, none⟩ d).setCell ⟨x, 5, none⟩ e) := by
  unfold PS
  rw [Below.heap_setCell _ _ _ _ (Ne.symm hx), Below.heap_setCell _ _ _ _ (Ne.symm hx), Below.heap_setCell _ _ _ _ (Ne.symm hx), Below.heap_setCell _ _ _ _ (Ne.symm hx), Below.heap_setCell _ _ _ _ (Ne.symm hx), Below.heap_setCell _ _ _ _ (Ne.symm hx)]
  exact h

theorem day_gb {g x : Nat} {w0 w : World} {k a b c d e : Value} (h : GB g w0 w) (hx : w0.heap.size ≤ x) :
    GB g w0 ((((((w.setCell ⟨x, 0, none⟩ k).setCell ⟨x, 1, none⟩ a).setCell ⟨x, 2, none⟩ b).setCell ⟨x, 3, none⟩ c).setCell ⟨x, 4, none⟩ d).setCell ⟨x, 5, none⟩ e) := by
  have b6 := below_six (k := k) (a := a) (b := b) (c := c) (d := d) (e := e) (Below.refl x w) (Nat.le_refl _)
  exact ⟨b6.os.trans h.os, b6.tape.trans h.tape, b6.output.trans h.output, Nat.le_trans h.size b6.size, fun i hi hg => (b6.block i (by omega)).trans (h.block i hi hg)⟩

set_option maxHeartbeats 4000000 in
set_option maxRecDepth 100000 in
theorem pday (g : Nat) (s : ByteArray) (k : Nat) (m wk d t n : Int) (hk : k ≤ s.size) (hk2 : s.size < 1000000) (hd : IsDay (s.extract k s.size) m wk d t n) (ho : mOk m wk d t) (hn : 0 ≤ n ∧ n < 1000000) (w : World) (h : PS g s k w) :
    Calls Tryd.prog 38 #[.pointer (some ⟨g, 0, none⟩)] w fun e w' => e = .returned (.agg (zdays 3 0 m wk d t)) ∧ PS g s (k + n) w' ∧ GB g w w' := by
  have cp := pday_calls (s.extract k s.size) m wk d t n hd ho
  have CP := Lib.hid cp
  have hgs : g < w.heap.size := (Array.getElem?_eq_some_iff.1 h).1
  have c0 := h.c0
  have c1 := h.c1
  have hz : PS g s k (w.alloc zeroDay) := h.below (below_alloc' _ _)
  have z0 := hz.c0
  have z1 := hz.c1
  have H := Lib.hid h
  clear cp hd h hz
  go_enter Tryd.func38, Tryd.ntmps38
  go_upto_region 1 with fail
  go_cut [3, 4, 5] (fun v3 v4 v5 wc => ∃ y : Nat, v3 = .pointer (some ⟨y, 0, none⟩) ∧ v4 = .int .i64 n ∧ v5 = .bool true ∧ Hid (DayAt g s k (zdays 3 0 m wk d t) w y wc))
  case first =>
   go_region_with (first
    | (go_at_call 47; refine (CP.out _).mono ?_; rintro e w1 ⟨rfl, hb1⟩
       have k1 := blk_new_drew hb1
       have c10 := Lib.cell_of_heap k1 0
       have c11 := Lib.cell_of_heap k1 1
       have c12 := Lib.cell_of_heap k1 2
       have c13 := Lib.cell_of_heap k1 3
       have c14 := Lib.cell_of_heap k1 4
       have c15 := Lib.cell_of_heap k1 5
       have f10 := Lib.frozen_of_heap k1 0
       have f11 := Lib.frozen_of_heap k1 1
       have f12 := Lib.frozen_of_heap k1 2
       have f13 := Lib.frozen_of_heap k1 3
       have f14 := Lib.frozen_of_heap k1 4
       have f15 := Lib.frozen_of_heap k1 5
       simp at c10 c11 c12 c13 c14 c15 f10 f11 f12 f13 f14 f15
       have K1 := Lib.hid k1
       have HB1 := Lib.hid hb1
       clear k1 hb1))
   all_goals
     go_wp2_with fail
     go_meet
     first
       | exact ⟨_, rfl, rfl, rfl, dayA H.out HB1.out⟩
       | exact ⟨_, rfl, rfl, rfl, dayB H.out HB1.out⟩
  case rest =>
    obtain ⟨y, rfl, rfl, rfl, HD⟩ := hcut
    go_wp2_with fail
    obtain ⟨hy, hp, hg, hd, hz⟩ := HD.out
    have hyg : y ≠ g := by omega
    have hwg : w.heap.size ≠ g := by omega
    have HP := Lib.hid hp
    have HG := Lib.hid hg
    have HY := Lib.hid hd
    have HZ := Lib.hid hz
    clear hp hg hd hz
    refine (must_ok g s k n ⟨by omega, by omega⟩ hn _ HP.out).mono ?_
    rintro e w2 ⟨rfl, h2, g2⟩
    have k1 := g2.keep HY.out hyg
    have k0 := g2.keep HZ.out hwg
    have H2 := Lib.hid h2
    have G2 := Lib.hid (HG.out.trans g2)
    clear h2 g2
    have c0 := Lib.cell_of_heap k1 0
    have c1 := Lib.cell_of_heap k1 1
    have c2 := Lib.cell_of_heap k1 2
    have c3 := Lib.cell_of_heap k1 3
    have c4 := Lib.cell_of_heap k1 4
    have c5 := Lib.cell_of_heap k1 5
    have z0 := Lib.cell_of_heap k0 0
    have z1 := Lib.cell_of_heap k0 1
    have z2 := Lib.cell_of_heap k0 2
    have z3 := Lib.cell_of_heap k0 3
    have z4 := Lib.cell_of_heap k0 4
    have z5 := Lib.cell_of_heap k0 5
    simp at c0 c1 c2 c3 c4 c5 z0 z1 z2 z3 z4 z5
    have f0 := Lib.frozen_of_heap k0 0
    have f1 := Lib.frozen_of_heap k0 1
    have f2 := Lib.frozen_of_heap k0 2
    have f3 := Lib.frozen_of_heap k0 3
    have f4 := Lib.frozen_of_heap k0 4
    have f5 := Lib.frozen_of_heap k0 5
    have K0 := Lib.hid k0
    clear k0 k1
    go_wp2_with fail
    refine bodyPost_ret (res38 _ _ _ _ _ _ _ _ _ rfl (blk_six K0.out)) rfl ⟨rfl, ?_, ?_⟩
    · exact day_ps H2.out hwg
    · exact day_gb G2.out (Nat.le_refl _)
end Go.Proofs.YtifnpclcnlgecaaDoor
