/- tzformat.Canonical at the two texts of the law's own check. -/
import Derived.Test.YtifnpclcnlgecaaDoorParseL
import Derived.Test.YtifnpclcnlgecaaDoorParseS
import Derived.Test.YtifnpclcnlgecaaDoorFormatB
set_option linter.unusedVariables false
set_option linter.unusedSimpArgs false
namespace Go.Proofs.YtifnpclcnlgecaaDoor
open Go Go.RowKit

theorem st25 : ∃ fs, Tryd.prog.underlying 25 = some (.struct fs) := ⟨_, rfl⟩
theorem size25 : (Tryd.prog.info? 25).map (·.size) = some 17 := by kernel_rfl
theorem new_row (w : World) (cs cs' : Array Value) (t : TypeId) : ((w.alloc (.cells cs t)).setRow w.heap.size cs').heap[w.heap.size]? = some (.cells cs' t) :=
  setRow_heap _ _ _ _ _ _ (new_blk w (.cells cs t))
theorem below_row (w : World) (cs cs' : Array Value) (t : TypeId) : Below w.heap.size w ((w.alloc (.cells cs t)).setRow w.heap.size cs') :=
  below_setRow (below_alloc' _ _) (Nat.le_refl _) cs'

set_option maxHeartbeats 2000000 in
set_option maxRecDepth 100000 in
theorem canon_short (w : World) :
    Calls Tryd.prog 8 #[.string short] w fun e w' => e = .returned (.tuple #[.string ⟨#[]⟩, .bool false]) ∧ Below w.heap.size w w' := by
  have CP := Lib.hid (parse_short w)
  obtain ⟨u, hu⟩ := st25
  have hi := size25
  have hsz : rzero.size = 17 := rfl
  have hone : rzero.all (·.oneCell') = true := rcells_one .empty 0 false .empty 0 0 0 0 0 0 0 0 0 0 0 0 0
  generalize short = s at *
  generalize rzero = RC at *
  go_enter Tryd.func8, Tryd.ntmps8
  go_wp2_with fail
  refine CP.out.mono ?_
  rintro e w1 ⟨rfl, b1⟩
  have B1 := Lib.hid b1
  have hr := new_blk w1 (.cells rzero 25)
  clear b1
  simp only []
  go_step
  repeat (first
    | (refine BigFrame.wpList_want rfl fun K hK => wp_store_row 25 (.tmp 4) (.tmp 10) rfl w1.heap.size RC rfl rfl 25 _ hr (by rw [hi, hsz]) (by rw [hsz]; rfl) hone (hK _ _ ?_))
    | go_values | go_skip | go_guarded | go_step | go_upon | (go_values <;> (try go_simp)))
  go_ret2
  exact ⟨rfl, B1.out.trans ((below_row _ _ _ _).mono B1.out.size)⟩

/-- The rule of the long text. -/
def rlong : RRule := ⟨⟨#[69, 83, 84]⟩, -18000, true, ⟨#[69, 68, 84]⟩, -14400, ⟨3, 0, 3, 2, 0, 7200⟩, ⟨3, 0, 11, 1, 0, 7200⟩⟩
/-- "EST5EDT,M3.2.0,M11.1.0" -/
def canon : List UInt8 := [69, 83, 84, 53, 69, 68, 84, 44, 77, 51, 46, 50, 46, 48, 44, 77, 49, 49, 46, 49, 46, 48]
theorem fmt_rlong : fmtRule rlong = canon := by
  simp [fmtRule, rlong, fmtStd, fmtDst, fmtTail, fmtName, fmtHms, fmtPos, fmtDay, fmtDate, Lib.itoa, Lib.decDigits, alpha, canon]
theorem est_ascii : NameOk ⟨#[69, 83, 84]⟩ := ⟨fun i h => by
  have : i = 0 ∨ i = 1 ∨ i = 2 := by have : i < 3 := h; omega
  rcases this with rfl | rfl | rfl <;> (revert h; decide +kernel), by decide⟩
theorem edt_ascii : NameOk ⟨#[69, 68, 84]⟩ := ⟨fun i h => by
  have : i = 0 ∨ i = 1 ∨ i = 2 := by have : i < 3 := h; omega
  rcases this with rfl | rfl | rfl <;> (revert h; decide +kernel), by decide⟩
theorem rlong_ok : RuleOk rlong := ⟨est_ascii, by decide, by decide, fun _ => ⟨edt_ascii, by decide, by decide, by constructor <;> decide, by constructor <;> decide⟩⟩
theorem format_long (w : World) (ht : Tab w) : Calls Tryd.prog 6 #[.agg rlong.cells] w (Gives w canon) := by
  have h := format_dst rlong rlong_ok rfl w ht
  rw [fmt_rlong] at h
  exact h

set_option maxHeartbeats 2000000 in
set_option maxRecDepth 100000 in
theorem canon_long (w : World) (ht : Tab w) :
    Calls Tryd.prog 8 #[.string long] w fun e w' => e = .returned (.tuple #[.string ⟨canon.toArray⟩, .bool true]) ∧ Below w.heap.size w w' := by
  have CP : Hid (Calls Tryd.prog 18 #[.string long] w fun e w' => e = .returned (.tuple #[.agg rlong.cells, .int .i64 0, .int .i64 0]) ∧ Below w.heap.size w w') := Lib.hid (parse_long w)
  have CF := Lib.hid format_long
  obtain ⟨u, hu⟩ := st25
  have hi := size25
  have hsz : rlong.cells.size = 17 := rfl
  have hone : rlong.cells.all (·.oneCell') = true := rcells_one _ _ _ _ _ _ _ _ _ _ _ _ _ _ _ _ _
  generalize long = s at *
  generalize rlong.cells = RC at *
  generalize canon = ca at *
  go_enter Tryd.func8, Tryd.ntmps8
  go_wp2_with fail
  refine CP.out.mono ?_
  rintro e w1 ⟨rfl, b1⟩
  have B1 := Lib.hid b1
  have T1 := Lib.hid (tab_below ht b1)
  have hr := new_blk w1 (.cells rzero 25)
  clear b1 ht
  simp only []
  go_step
  repeat (first
    | (refine BigFrame.wpList_want rfl fun K hK => wp_store_row 25 (.tmp 4) (.tmp 10) rfl w1.heap.size RC rfl rfl 25 _ hr (by rw [hi, hsz]) (by rw [hsz]; rfl) hone (hK _ _ ?_))
    | (refine BigFrame.wpList_want rfl fun K hK => wp_load_row 25 (.tmp 4) rfl w1.heap.size rfl 25 RC (0, 0) _ (new_row _ _ _ _) hu rfl (by rw [hi, hsz]) (hK _ _ ?_))
    | go_values | go_skip | go_guarded | go_step | go_upon | (go_values <;> (try go_simp)))
  have B2 := below_row w1 rzero RC 25
  refine (CF.out _ (tab_below T1.out B2)).mono ?_
  rintro e w2 ⟨rfl, b2⟩
  have B3 := Lib.hid (B1.out.trans ((B2.trans (b2.mono B2.size)).mono B1.out.size))
  clear b2 B2
  go_wp2_with fail
  go_ret2
  exact ⟨rfl, B3.out⟩
end Go.Proofs.YtifnpclcnlgecaaDoor
