/- The steps of posixtz's parser: a comma that lacks, a day. -/
import Derived.Test.YtifnpclcnlgecaaDoorParser
set_option linter.unusedVariables false
namespace Go.Proofs.YtifnpclcnlgecaaDoor
open Go Go.RowKit

set_option maxHeartbeats 1000000 in
set_option maxRecDepth 100000 in
/-- At the end of the text there is no comma. -/
theorem pcomma_no (g : Nat) (s : ByteArray) (k : Nat) (hle : s.size ≤ k) (hk2 : s.size < 1000000) (w : World) (h : PS g s k w) :
    Calls Tryd.prog 37 #[.pointer (some ⟨g, 0, none⟩)] w fun e w' => e = .panicked [{ v := .iface 61 (.agg #[.int .i64 k]), recovered := false }] ∧ GB g w w' := by
  have c0 := h.c0
  have c1 := h.c1
  have H := Lib.hid h.drew
  clear h
  go_enter Tryd.func37, Tryd.ntmps37
  go_wp2_with fail
  refine wp_region_still_tail 23 (by kernel_rfl) (by kernel_rfl) ?_
  simp only [List.take_succ_cons, List.take_zero, List.drop_succ_cons, List.drop_zero]
  iterate 12 still_step
  iterate 10
    refine wpStill_step (fun K hK => ?_)
    go_simp
    rw [if_neg (by omega)]
    refine hK _ ?_
    clear hK K
  refine wpStill_step (fun K hK => ?_)
  go_simp
  rw [if_neg (by omega)]
  refine hK _ ?_
  clear hK K
  refine wpStill_nil ?_
  change wpList _ _ _ _ _ w.drew
  go_wp2_with fail
  refine (must_no g s k 1 _ H.out).mono ?_
  rintro e w1 ⟨rfl, rfl⟩
  exact ⟨rfl, rfl, GB.drew g w⟩

end Go.Proofs.YtifnpclcnlgecaaDoor
