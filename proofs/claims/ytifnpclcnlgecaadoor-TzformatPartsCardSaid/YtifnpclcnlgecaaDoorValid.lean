/- posixtz.Valid at a rule whose names are letters and whose days are dates of months. -/
import Derived.Test.YtifnpclcnlgecaaDoorParserC
set_option linter.unusedVariables false
set_option linter.unusedSimpArgs false
namespace Go.Proofs.YtifnpclcnlgecaaDoor
open Go Go.RowKit

theorem heap_alloc_last' (w : World) (o : Obj) : (w.alloc o).heap[w.heap.size]? = some o := by
  show (w.heap.push o)[w.heap.size]? = some o
  simp

set_option maxHeartbeats 4000000 in
set_option maxRecDepth 100000 in
theorem valid_yes (std dst : ByteArray) (off doff m1 wk1 d1 t1 m2 wk2 d2 t2 : Int) (hs : ∀ i (h : i < std.size), alpha std[i] = true) (s3 : 3 ≤ std.size ∧ std.size ≤ 255)
    (hd : ∀ i (h : i < dst.size), alpha dst[i] = true) (d3 : 3 ≤ dst.size ∧ dst.size ≤ 255) (ho : -89999 ≤ off ∧ off ≤ 89999) (hdo : -89999 ≤ doff ∧ doff ≤ 89999)
    (o1 : mOk m1 wk1 d1 t1) (o2 : mOk m2 wk2 d2 t2) (w : World) :
    Calls Tryd.prog 30 #[.agg #[.string std, .int .i64 off, .bool true, .string dst, .int .i64 doff, .int .i64 3, .int .i64 0, .int .i64 m1, .int .i64 wk1, .int .i64 d1, .int .i64 t1, .int .i64 3, .int .i64 0, .int .i64 m2, .int .i64 wk2, .int .i64 d2, .int .i64 t2]] w
      fun e w' => e = .returned (.bool true) ∧ Below w.heap.size w w' := by
  have CS := Lib.hid (nvalid_calls std hs s3.1 s3.2)
  have CD := Lib.hid (nvalid_calls dst hd d3.1 d3.2)
  have C1 := Lib.hid (dvalid_calls m1 wk1 d1 t1 o1)
  have C2 := Lib.hid (dvalid_calls m2 wk2 d2 t2 o2)
  obtain ⟨a0, a1⟩ := ho
  obtain ⟨b0, b1⟩ := hdo
  clear hs hd s3 d3 o1 o2
  have CSide : Hid (∀ (x : Int) (w : World), -89999 ≤ x → x ≤ 89999 → Calls Tryd.prog 36 #[.int .i64 x] w fun e w' => e = .returned (.bool true) ∧ w = w') := Lib.hid fun x w h0 h1 => by
    go_enter Tryd.func36, Tryd.ntmps36
    go_wp2
    go_ret
    exact ⟨by simp [h0, h1], rfl⟩
  go_enter Tryd.func30, Tryd.ntmps30
  go_upto_region 1 with fail
  have B0 := Lib.hid (show Below w.heap.size w (w.alloc (.cells #[.string std, .int .i64 off, .bool true, .string dst, .int .i64 doff, .int .i64 3, .int .i64 0, .int .i64 m1, .int .i64 wk1, .int .i64 d1, .int .i64 t1, .int .i64 3, .int .i64 0, .int .i64 m2, .int .i64 wk2, .int .i64 d2, .int .i64 t2] 25)) from below_alloc' _ _)
  have X0 := Lib.hid (show (w.alloc (.cells #[.string std, .int .i64 off, .bool true, .string dst, .int .i64 doff, .int .i64 3, .int .i64 0, .int .i64 m1, .int .i64 wk1, .int .i64 d1, .int .i64 t1, .int .i64 3, .int .i64 0, .int .i64 m2, .int .i64 wk2, .int .i64 d2, .int .i64 t2] 25)).heap[w.heap.size]? = _ from heap_alloc_last' _ _)
  go_wp2_with fail
  refine (CS.out _).mono ?_
  rintro e w1 ⟨rfl, b1⟩
  have X1 := blk_keep b1 X0.out
  have B1 := Lib.hid (B0.out.trans (b1.mono B0.out.size))
  clear b1
  have c1 := Lib.cell_of_heap X1 1
  simp at c1
  have X1 := Lib.hid X1
  go_wp2_with fail
  refine (CSide.out _ _ a0 a1).mono ?_
  rintro e w' ⟨rfl, rfl⟩
  clear c1
  have c2 := Lib.cell_of_heap X1.out 2
  have c3 := Lib.cell_of_heap X1.out 3
  simp at c2 c3
  go_wp2_with fail
  refine (CD.out _).mono ?_
  rintro e w2 ⟨rfl, b1⟩
  have X2 := blk_keep b1 X1.out
  have B2 := Lib.hid (B1.out.trans (b1.mono B1.out.size))
  clear b1
  have c4 := Lib.cell_of_heap X2 4
  simp at c4
  have X2 := Lib.hid X2
  clear X1 B1
  go_wp2_with fail
  refine (CSide.out _ _ b0 b1).mono ?_
  rintro e w' ⟨rfl, rfl⟩
  clear c4
  have c5 := Lib.cell_of_heap X2.out 5
  have c6 := Lib.cell_of_heap X2.out 6
  have c7 := Lib.cell_of_heap X2.out 7
  have c8 := Lib.cell_of_heap X2.out 8
  have c9 := Lib.cell_of_heap X2.out 9
  have c10 := Lib.cell_of_heap X2.out 10
  simp at c5 c6 c7 c8 c9 c10
  go_wp2_with fail
  refine (C1.out _).mono ?_
  rintro e w3 ⟨rfl, b1⟩
  have X3 := blk_keep b1 X2.out
  have B3 := Lib.hid (B2.out.trans (b1.mono B2.out.size))
  clear b1
  have c11 := Lib.cell_of_heap X3 11
  have c12 := Lib.cell_of_heap X3 12
  have c13 := Lib.cell_of_heap X3 13
  have c14 := Lib.cell_of_heap X3 14
  have c15 := Lib.cell_of_heap X3 15
  have c16 := Lib.cell_of_heap X3 16
  simp at c11 c12 c13 c14 c15 c16
  have X3 := Lib.hid X3
  clear X2 B2
  go_wp2_with fail
  refine (C2.out _).mono ?_
  rintro e w4 ⟨rfl, b1⟩
  have X4 := blk_keep b1 X3.out
  have B4 := Lib.hid (B3.out.trans (b1.mono B3.out.size))
  clear b1
  have X4 := Lib.hid X4
  clear X3 B3
  go_wp2_with fail
  go_ret
  exact ⟨rfl, B4.out⟩
end Go.Proofs.YtifnpclcnlgecaaDoor
