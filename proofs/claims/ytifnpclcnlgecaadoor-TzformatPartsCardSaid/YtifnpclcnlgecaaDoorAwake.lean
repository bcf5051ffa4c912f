/- The law's own check of fixed results holds. -/
import Derived.Test.YtifnpclcnlgecaaDoorExt
set_option linter.unusedVariables false
set_option linter.unusedSimpArgs false
namespace Go.Proofs.YtifnpclcnlgecaaDoor
open Go Go.RowKit

def lstd : List UInt8 := [60, 45, 48, 51, 62, 51]
def ldst : List UInt8 := [65, 65, 65, 48, 66, 66, 66, 44, 74, 54, 48, 47, 50, 53, 44, 48]
def lday : List UInt8 := [74, 54, 48, 47, 50, 53]
theorem fmt_rs : fmtStd rs = lstd := by
  simp [rs, fmtStd, fmtName, fmtHms, fmtPos, Lib.decDigits, alpha, lstd]
theorem fmt_re : fmtRule re = ldst := by
  simp [fmtRule, re, fmtStd, fmtDst, fmtTail, fmtName, fmtHms, fmtPos, fmtDay, fmtDate, Lib.itoa, Lib.decDigits, alpha, ldst]
theorem fmt_day : fmtDay re.start = lday := by
  simp [re, fmtHms, fmtPos, fmtDay, fmtDate, Lib.itoa, Lib.decDigits, lday]
theorem three_ascii (a b c : UInt8) (ha : a.toNat < 128) (hb : b.toNat < 128) (hc : c.toNat < 128) : NameOk ⟨#[a, b, c]⟩ := ⟨fun i h => by
  have : i = 0 ∨ i = 1 ∨ i = 2 := by have : i < 3 := h; omega
  rcases this with rfl | rfl | rfl
  · exact ha
  · exact hb
  · exact hc, by show 3 ≤ 1000; decide⟩
theorem rs_ok : RuleOk rs := ⟨three_ascii _ _ _ (by decide) (by decide) (by decide), by decide, by decide, fun h => by simp [rs] at h⟩
theorem re_day : DayOk re.start := by constructor <;> decide
theorem re_ok : RuleOk re := ⟨three_ascii _ _ _ (by decide) (by decide) (by decide), by decide, by decide, fun _ => ⟨three_ascii _ _ _ (by decide) (by decide) (by decide), by decide, by decide, re_day, by constructor <;> decide⟩⟩

theorem format_rs (w : World) (ht : Tab w) : Calls Tryd.prog 6 #[.agg rs.cells] w (Gives w lstd) := by
  have h := format_std rs rs_ok rfl w ht
  rw [fmt_rs] at h
  exact h
theorem format_re (w : World) (ht : Tab w) : Calls Tryd.prog 6 #[.agg re.cells] w (Gives w ldst) := by
  have h := format_dst re re_ok rfl w ht
  rw [fmt_re] at h
  exact h
theorem day_re (w : World) (ht : Tab w) : Calls Tryd.prog 7 #[.agg re.start.cells] w (Gives w lday) := by
  have h := fday_calls re.start re_day w ht
  rw [fmt_day] at h
  exact h

/-- Where the check stands: the day, the rule without and the rule with daylight saving time lie in blocks of their own. -/
structure AW (w : World) (g g3 g4 : Nat) (wc : World) : Prop where
  below : Below w.heap.size w wc
  tab : Tab wc
  day : wc.heap[g]? = some (.cells re.start.cells 23)
  s : wc.heap[g3]? = some (.cells rs.cells 25)
  e : wc.heap[g4]? = some (.cells re.cells 25)
theorem AW.next {w : World} {g g3 g4 : Nat} {wc wd : World} (h : AW w g g3 g4 wc) (b : Below wc.heap.size wc wd) : AW w g g3 g4 wd :=
  ⟨h.below.trans (b.mono h.below.size), tab_below h.tab b, blk_keep b h.day, blk_keep b h.s, blk_keep b h.e⟩
theorem size23 : (Tryd.prog.info? 23).map (·.size) = some 6 := by kernel_rfl
theorem st23 : ∃ fs, Tryd.prog.underlying 23 = some (.struct fs) := ⟨_, rfl⟩

set_option maxHeartbeats 2000000 in
set_option maxRecDepth 100000 in
theorem awake_calls (w : World) (ht : Tab w) : Calls Tryd.prog 4 #[] w fun e w' => e = .returned (.bool true) ∧ Below w.heap.size w w' := by
  have CL := Lib.hid (canon_long w ht)
  have CS := Lib.hid canon_short
  have C6s := Lib.hid format_rs
  have C6e := Lib.hid format_re
  have C7 := Lib.hid day_re
  have C9y := Lib.hid ext_yes
  have C9n := Lib.hid ext_no
  obtain ⟨u, hu⟩ := st25
  have hi := size25
  have hszs : rs.cells.size = 17 := rfl
  have hsze : re.cells.size = 17 := rfl
  have hones : rs.cells.all (·.oneCell') = true := rcells_one _ _ _ _ _ _ _ _ _ _ _ _ _ _ _ _ _
  have honee : re.cells.all (·.oneCell') = true := rcells_one _ _ _ _ _ _ _ _ _ _ _ _ _ _ _ _ _
  unfold long canon at CL
  unfold lstd at C6s
  unfold ldst at C6e
  unfold lday at C7
  have hszd : re.start.cells.size = 6 := rfl
  obtain ⟨u3, hu3⟩ := st23
  have hi3 := size23
  unfold short at CS
  go_enter Tryd.func4, Tryd.ntmps4
  go_wp2_with fail
  refine CL.out.mono ?_
  rintro e w1 ⟨rfl, b1⟩
  have B1 := Lib.hid b1
  have T1 := Lib.hid (tab_below ht b1)
  clear b1 ht
  go_wp2_with fail
  refine (CS.out _).mono ?_
  rintro e w2 ⟨rfl, b1⟩
  have B2 := Lib.hid (B1.out.trans (b1.mono B1.out.size))
  have T2 := Lib.hid (tab_below T1.out b1)
  clear b1
  go_upto_region 4 with fail
  have XD := new_blk w2 (.cells #[Value.int IntKind.i64 1, Value.int IntKind.i64 60, Value.int IntKind.i64 0, Value.int IntKind.i64 0, Value.int IntKind.i64 0, Value.int IntKind.i64 90000] 23)
  have B3 := Lib.hid (B2.out.trans ((below_alloc' w2 (.cells #[Value.int IntKind.i64 1, Value.int IntKind.i64 60, Value.int IntKind.i64 0, Value.int IntKind.i64 0, Value.int IntKind.i64 0, Value.int IntKind.i64 90000] 23)).mono B2.out.size))
  have T3 := Lib.hid (tab_below T2.out (below_alloc' w2 (.cells #[Value.int IntKind.i64 1, Value.int IntKind.i64 60, Value.int IntKind.i64 0, Value.int IntKind.i64 0, Value.int IntKind.i64 0, Value.int IntKind.i64 90000] 23)))
  have hz3 : (w2.alloc (.cells #[Value.int IntKind.i64 1, Value.int IntKind.i64 60, Value.int IntKind.i64 0, Value.int IntKind.i64 0, Value.int IntKind.i64 0, Value.int IntKind.i64 90000] 23)).heap.size = w2.heap.size + 1 := by simp
  replace XD := Lib.hid XD
  replace hz3 := Lib.hid hz3
  generalize w2.alloc _ = w3 at *
  generalize w2.heap.size = g at *
  have hr := new_blk w3 (.cells rzero 25)
  repeat (first
    | (refine BigFrame.wpList_want rfl fun K hK => wp_store_row 25 (.tmp 6) (.tmp 17) rfl w3.heap.size rs.cells rfl rfl 25 _ hr (by rw [hi, hszs]) (by rw [hszs]; rfl) hones (hK _ _ ?_))
    | (go_not_at_region 5; first | go_values | go_skip | go_guarded | go_step | go_upon | (go_values <;> (try go_simp))))
  have YR := new_row w3 #[Value.string ⟨#[]⟩, .int .i64 0, .bool false, .string ⟨#[]⟩, .int .i64 0, .int .i64 0, .int .i64 0, .int .i64 0, .int .i64 0, .int .i64 0, .int .i64 0, .int .i64 0, .int .i64 0, .int .i64 0, .int .i64 0, .int .i64 0, .int .i64 0] rs.cells 25
  have BY := below_row w3 #[Value.string ⟨#[]⟩, .int .i64 0, .bool false, .string ⟨#[]⟩, .int .i64 0, .int .i64 0, .int .i64 0, .int .i64 0, .int .i64 0, .int .i64 0, .int .i64 0, .int .i64 0, .int .i64 0, .int .i64 0, .int .i64 0, .int .i64 0, .int .i64 0] rs.cells 25
  have XD4 := blk_keep BY XD.out
  have B4 := Lib.hid (B3.out.trans (BY.mono B3.out.size))
  have T4 := Lib.hid (tab_below T3.out BY)
  have z4 : ((w3.alloc (.cells #[Value.string ⟨#[]⟩, .int .i64 0, .bool false, .string ⟨#[]⟩, .int .i64 0, .int .i64 0, .int .i64 0, .int .i64 0, .int .i64 0, .int .i64 0, .int .i64 0, .int .i64 0, .int .i64 0, .int .i64 0, .int .i64 0, .int .i64 0, .int .i64 0] 25)).setRow w3.heap.size rs.cells).heap.size = w3.heap.size + 1 := by rw [size_setRow]; simp
  generalize h4 : (w3.alloc (.cells #[Value.string ⟨#[]⟩, .int .i64 0, .bool false, .string ⟨#[]⟩, .int .i64 0, .int .i64 0, .int .i64 0, .int .i64 0, .int .i64 0, .int .i64 0, .int .i64 0, .int .i64 0, .int .i64 0, .int .i64 0, .int .i64 0, .int .i64 0, .int .i64 0] 25)).setRow w3.heap.size rs.cells = w4 at *
  replace z4 := Lib.hid z4
  clear BY
  generalize w3.heap.size = g3 at *
  have hr := new_blk w4 (.cells #[Value.string ⟨#[]⟩, .int .i64 0, .bool false, .string ⟨#[]⟩, .int .i64 0, .int .i64 0, .int .i64 0, .int .i64 0, .int .i64 0, .int .i64 0, .int .i64 0, .int .i64 0, .int .i64 0, .int .i64 0, .int .i64 0, .int .i64 0, .int .i64 0] 25)
  have d0 := Lib.cell_of_heap XD4 0
  have d1 := Lib.cell_of_heap XD4 1
  have d2 := Lib.cell_of_heap XD4 2
  have d3 := Lib.cell_of_heap XD4 3
  have d4 := Lib.cell_of_heap XD4 4
  have d5 := Lib.cell_of_heap XD4 5
  simp at d0 d1 d2 d3 d4 d5
  repeat (first
    | (refine BigFrame.wpList_want rfl fun K hK => wp_store_row 25 (.tmp 7) (.tmp 20) rfl w4.heap.size re.cells rfl rfl 25 _ hr (by rw [hi, hsze]) (by rw [hsze]; rfl) honee (hK _ _ ?_))
    | (go_not_at_region 6; first | go_values | go_skip | go_guarded | go_step | go_upon | (go_values <;> (try go_simp))))
  have YE := new_row w4 #[Value.string ⟨#[]⟩, .int .i64 0, .bool false, .string ⟨#[]⟩, .int .i64 0, .int .i64 0, .int .i64 0, .int .i64 0, .int .i64 0, .int .i64 0, .int .i64 0, .int .i64 0, .int .i64 0, .int .i64 0, .int .i64 0, .int .i64 0, .int .i64 0] re.cells 25
  have BY := below_row w4 #[Value.string ⟨#[]⟩, .int .i64 0, .bool false, .string ⟨#[]⟩, .int .i64 0, .int .i64 0, .int .i64 0, .int .i64 0, .int .i64 0, .int .i64 0, .int .i64 0, .int .i64 0, .int .i64 0, .int .i64 0, .int .i64 0, .int .i64 0, .int .i64 0] re.cells 25
  have A5 := Lib.hid (AW.mk (w := w) (g := g) (g3 := g3) (g4 := w4.heap.size) (B4.out.trans (BY.mono B4.out.size)) (tab_below T4.out BY) (blk_keep BY XD4) (blk_keep BY YR) YE)
  generalize (w4.alloc (.cells #[Value.string ⟨#[]⟩, .int .i64 0, .bool false, .string ⟨#[]⟩, .int .i64 0, .int .i64 0, .int .i64 0, .int .i64 0, .int .i64 0, .int .i64 0, .int .i64 0, .int .i64 0, .int .i64 0, .int .i64 0, .int .i64 0, .int .i64 0, .int .i64 0] 25)).setRow w4.heap.size re.cells = w5 at *
  generalize w4.heap.size = g4 at *
  clear BY YE YR XD4 B4 T4 d0 d1 d2 d3 d4 d5 hr B3 T3 B2 T2 B1 T1 XD CS CL
  repeat (first
    | (refine BigFrame.wpList_want rfl fun K hK => wp_load_row 25 (.tmp 6) rfl g3 rfl 25 rs.cells (0, 0) _ A5.out.s hu rfl (by rw [hi, hszs]) (hK _ _ ?_))
    | (refine BigFrame.wpList_want rfl fun K hK => wp_load_row 25 (.tmp 7) rfl g4 rfl 25 re.cells (0, 0) _ A5.out.e hu rfl (by rw [hi, hsze]) (hK _ _ ?_))
    | (refine BigFrame.wpList_want rfl fun K hK => wp_load_row 23 (.tmp 5) rfl g rfl 23 re.start.cells (0, 0) _ A5.out.day hu3 rfl (by rw [hi3, hszd]) (hK _ _ ?_))
    | go_values | go_skip | go_guarded | go_step | go_upon | (go_values <;> (try go_simp)))
  refine (C7.out _ A5.out.tab).mono ?_
  rintro e w6 ⟨rfl, b1⟩
  have A6 := Lib.hid (A5.out.next b1)
  clear b1 A5
  simp only []
  go_step
  repeat (first
    | (refine BigFrame.wpList_want rfl fun K hK => wp_load_row 25 (.tmp 6) rfl g3 rfl 25 rs.cells (0, 0) _ A6.out.s hu rfl (by rw [hi, hszs]) (hK _ _ ?_))
    | (refine BigFrame.wpList_want rfl fun K hK => wp_load_row 25 (.tmp 7) rfl g4 rfl 25 re.cells (0, 0) _ A6.out.e hu rfl (by rw [hi, hsze]) (hK _ _ ?_))
    | go_values | go_skip | go_guarded | go_step | go_upon | (go_values <;> (try go_simp)))
  refine (C6s.out _ A6.out.tab).mono ?_
  rintro e w7 ⟨rfl, b1⟩
  have A7 := Lib.hid (A6.out.next b1)
  clear b1 A6
  simp only []
  go_step
  repeat (first
    | (refine BigFrame.wpList_want rfl fun K hK => wp_load_row 25 (.tmp 6) rfl g3 rfl 25 rs.cells (0, 0) _ A7.out.s hu rfl (by rw [hi, hszs]) (hK _ _ ?_))
    | (refine BigFrame.wpList_want rfl fun K hK => wp_load_row 25 (.tmp 7) rfl g4 rfl 25 re.cells (0, 0) _ A7.out.e hu rfl (by rw [hi, hsze]) (hK _ _ ?_))
    | go_values | go_skip | go_guarded | go_step | go_upon | (go_values <;> (try go_simp)))
  refine (C6e.out _ A7.out.tab).mono ?_
  rintro e w8 ⟨rfl, b1⟩
  have A8 := Lib.hid (A7.out.next b1)
  clear b1 A7
  simp only []
  go_step
  repeat (first
    | (refine BigFrame.wpList_want rfl fun K hK => wp_load_row 25 (.tmp 6) rfl g3 rfl 25 rs.cells (0, 0) _ A8.out.s hu rfl (by rw [hi, hszs]) (hK _ _ ?_))
    | (refine BigFrame.wpList_want rfl fun K hK => wp_load_row 25 (.tmp 7) rfl g4 rfl 25 re.cells (0, 0) _ A8.out.e hu rfl (by rw [hi, hsze]) (hK _ _ ?_))
    | go_values | go_skip | go_guarded | go_step | go_upon | (go_values <;> (try go_simp)))
  refine (C9y.out _).mono ?_
  rintro e w9 ⟨rfl, b1⟩
  have A9 := Lib.hid (A8.out.next b1)
  clear b1 A8
  simp only []
  go_step
  repeat (first
    | (refine BigFrame.wpList_want rfl fun K hK => wp_load_row 25 (.tmp 6) rfl g3 rfl 25 rs.cells (0, 0) _ A9.out.s hu rfl (by rw [hi, hszs]) (hK _ _ ?_))
    | (refine BigFrame.wpList_want rfl fun K hK => wp_load_row 25 (.tmp 7) rfl g4 rfl 25 re.cells (0, 0) _ A9.out.e hu rfl (by rw [hi, hsze]) (hK _ _ ?_))
    | go_values | go_skip | go_guarded | go_step | go_upon | (go_values <;> (try go_simp)))
  refine (C9n.out _).mono ?_
  rintro e w10 ⟨rfl, b1⟩
  have A10 := Lib.hid (A9.out.next b1)
  clear b1 A9
  simp only []
  go_step
  go_wp2_with fail
  go_ret
  exact ⟨rfl, A10.out.below⟩
end Go.Proofs.YtifnpclcnlgecaaDoor
