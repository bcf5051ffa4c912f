/- The steps of posixtz's parser. -/
import Derived.Test.YtifnpclcnlgecaaDoorDate
import Derived.Test.YtifnpclcnlgecaaDoorTzn
import Derived.Deep.RegionWith
import Derived.BigRegion
import Derived.StillTailTactics
import Derived.WalkLawsBesides
set_option linter.unusedVariables false
namespace Go.Proofs.YtifnpclcnlgecaaDoor
open Go Go.RowKit

/-- Every block of w but g is as it was. -/
structure GB (g : Nat) (w w' : World) : Prop where
  os : w'.os = w.os
  tape : w'.tape = w.tape
  output : w'.output = w.output
  size : w.heap.size ≤ w'.heap.size
  block : ∀ i, i < w.heap.size → i ≠ g → w'.heap[i]? = w.heap[i]?

theorem GB.refl (g : Nat) (w : World) : GB g w w := ⟨rfl, rfl, rfl, Nat.le_refl _, fun _ _ _ => rfl⟩
theorem GB.trans {g : Nat} {a b c : World} (h : GB g a b) (k : GB g b c) : GB g a c :=
  ⟨k.os.trans h.os, k.tape.trans h.tape, k.output.trans h.output, Nat.le_trans h.size k.size, fun i hi hg => (k.block i (Nat.lt_of_lt_of_le hi h.size) hg).trans (h.block i hi hg)⟩
theorem GB.of_below {g : Nat} {w w' : World} (h : Below w.heap.size w w') : GB g w w' := ⟨h.os, h.tape, h.output, h.size, fun i hi _ => h.block i hi⟩
theorem GB.setCell (g j : Nat) (w : World) (u : Value) : GB g w (w.setCell ⟨g, j, none⟩ u) := ⟨rfl, rfl, rfl, by simp [World.setCell], fun i _ hg => Below.heap_setCell _ _ _ _ hg⟩
theorem GB.keep {g i : Nat} {w w' : World} {o : Obj} (h : GB g w w') (hi : w.heap[i]? = some o) (hg : i ≠ g) : w'.heap[i]? = some o := by
  rw [h.block i (Array.getElem?_eq_some_iff.1 hi).1 hg]; exact hi

/-- The parser's state in block g. -/
def PS (g : Nat) (s : ByteArray) (x : Int) (w : World) : Prop := w.heap[g]? = some (.cells #[.string s, .int .i64 x] 59 (0, 0))

theorem PS.drew {g : Nat} {s : ByteArray} {x : Int} {w : World} (h : PS g s x w) : PS g s x w.drew := h
theorem PS.below {g : Nat} {s : ByteArray} {x : Int} {w w' : World} (h : PS g s x w) (hb : Below w.heap.size w w') : PS g s x w' := blk_keep hb h
theorem PS.c0 {g : Nat} {s : ByteArray} {x : Int} {w : World} (h : PS g s x w) : w.cell? ⟨g, 0, none⟩ = some (.string s) := Lib.cell_of_heap h 0
theorem PS.c1 {g : Nat} {s : ByteArray} {x : Int} {w : World} (h : PS g s x w) : w.cell? ⟨g, 1, none⟩ = some (.int .i64 x) := Lib.cell_of_heap h 1
theorem PS.f1 {g : Nat} {s : ByteArray} {x : Int} {w : World} (h : PS g s x w) : w.frozen? ⟨g, 1, none⟩ = false := Lib.frozen_of_heap h 1
theorem GB.drew (g : Nat) (w : World) : GB g w w.drew := ⟨rfl, rfl, rfl, Nat.le_refl _, fun _ _ _ => rfl⟩

set_option maxHeartbeats 400000 in
theorem must_ok (g : Nat) (s : ByteArray) (x n : Int) (hx : 0 ≤ x ∧ x < 1000000) (hn : 0 ≤ n ∧ n < 1000000) (w : World) (h : PS g s x w) :
    Calls Tryd.prog 29 #[.pointer (some ⟨g, 0, none⟩), .int .i64 n, .bool true] w fun e w' => e = .returned (.tuple #[]) ∧ PS g s (x + n) w' ∧ GB g w w' := by
  obtain ⟨hx0, hx1⟩ := hx
  obtain ⟨hn0, hn1⟩ := hn
  have c1 := h.c1
  have f1 := h.f1
  have H := Lib.hid h
  clear h
  go_enter Tryd.func29, Tryd.ntmps29
  go_wp2
  go_end0
  exact ⟨rfl, (by simpa [PS] using blk_set H.out 1 (.int .i64 (x + n))), GB.setCell _ _ _ _⟩

set_option maxHeartbeats 400000 in
theorem must_no (g : Nat) (s : ByteArray) (x n : Int) (w : World) (h : PS g s x w) :
    Calls Tryd.prog 29 #[.pointer (some ⟨g, 0, none⟩), .int .i64 n, .bool false] w fun e w' => e = .panicked [{ v := .iface 61 (.agg #[.int .i64 x]), recovered := false }] ∧ w = w' := by
  have c1 := h.c1
  have H := Lib.hid h
  clear h
  go_enter Tryd.func29, Tryd.ntmps29
  go_wp2
  exact ⟨rfl, rfl, rfl⟩

set_option maxHeartbeats 1000000 in
theorem pname_calls (g : Nat) (s : ByteArray) (k n : Nat) (hk : k ≤ s.size) (hk2 : k < 1000000) (hl : Letters (s.extract k s.size) n) (w : World) (h : PS g s k w) :
    Calls Tryd.prog 26 #[.pointer (some ⟨g, 0, none⟩)] w fun e w' => e = .returned (.string ((s.extract k s.size).extract 0 n)) ∧ PS g s (k + n) w' ∧ GB g w w' := by
  have hn : n < 1000000 := by have := hl.h255; omega
  have cp := nparse_calls _ n hl
  have CP := Lib.hid cp
  have c0 := h.c0
  have c1 := h.c1
  have H := Lib.hid h.drew
  clear cp hl h
  go_enter Tryd.func26, Tryd.ntmps26
  go_wp2_with fail
  go_region_with (first
    | (go_at_call 34; refine (CP.out _).mono ?_; rintro e w1 ⟨rfl, hb1⟩; have H1 := Lib.hid (H.out.below hb1); have G1 := Lib.hid ((GB.drew g w).trans (GB.of_below hb1)); clear hb1))
  all_goals
    go_wp2_with fail
    refine (must_ok g s k n (by omega) (by omega) _ H1.out).mono ?_
    rintro e w2 ⟨rfl, h2, g2⟩
    have H2 := Lib.hid h2
    have G2 := Lib.hid (G1.out.trans g2)
    clear h2 g2
    go_wp2_with fail
    go_ret
    exact ⟨rfl, H2.out, G2.out⟩

set_option maxHeartbeats 1000000 in
set_option maxRecDepth 100000 in
theorem poffset_calls (g : Nat) (s : ByteArray) (k : Nat) (v n : Int) (hk : k ≤ s.size) (hk2 : s.size < 1000000) (hp : Lib.hasPrefix (s.extract k s.size).data.toList [45] = false)
    (hv : hmsF (s.extract k s.size) = (v, n, true)) (hv1 : -89999 ≤ v ∧ v ≤ 89999) (hn : 0 ≤ n ∧ n < 1000000) (w : World) (h : PS g s k w) :
    Calls Tryd.prog 27 #[.pointer (some ⟨g, 0, none⟩)] w fun e w' => e = .returned (.int .i64 (-v)) ∧ PS g s (k + n) w' ∧ GB g w w' := by
  obtain ⟨v0, v1⟩ := hv1
  obtain ⟨n0, n1⟩ := hn
  have cp := hms_parse (s.extract k s.size) (by simp; omega) hp
  rw [hv] at cp
  have CP := Lib.hid cp
  have c0 := h.c0
  have c1 := h.c1
  have H := Lib.hid h.drew
  clear cp h hp hv
  go_enter Tryd.func27, Tryd.ntmps27
  go_wp2_with fail
  go_region_with (first
    | (go_at_call 35; refine (CP.out _).mono ?_; rintro e w1 ⟨rfl, hb1⟩; have H1 := Lib.hid (H.out.below hb1); have G1 := Lib.hid ((GB.drew g w).trans (GB.of_below hb1)); clear hb1))
  all_goals
    go_wp2_with (first
      | (go_at_call 29; refine (must_ok g s k n (by omega) (by omega) _ H1.out).mono ?_; rintro e w2 ⟨rfl, h2, g2⟩; have H2 := Lib.hid h2; have G2 := Lib.hid (G1.out.trans g2); clear h2 g2)
      | go_in)
    go_ret
    exact ⟨rfl, H2.out, G2.out⟩

set_option maxHeartbeats 400000 in
set_option maxRecDepth 100000 in
theorem pcomma_yes (g : Nat) (s : ByteArray) (k : Nat) (hk2 : s.size < 1000000) (hb : byteAt s k = 44) (w : World) (h : PS g s k w) :
    Calls Tryd.prog 37 #[.pointer (some ⟨g, 0, none⟩)] w fun e w' => e = .returned (.tuple #[]) ∧ PS g s (k + 1) w' ∧ GB g w w' := by
  have hk := byteAt_in hb (by decide)
  rw [byteAt_lt s k hk] at hb
  have t1 : (((s[k]).toNat : Int) == 44) = true := by rw [hb]; rfl
  have c0 := h.c0
  have c1 := h.c1
  have H := Lib.hid h.drew
  clear hb h
  go_enter Tryd.func37, Tryd.ntmps37
  go_wp2_with fail
  go_still_tail 23, (by kernel_rfl)
  change wpList _ _ _ _ _ w.drew
  go_wp2_with fail
  refine (must_ok g s k 1 (by omega) (by omega) _ H.out).mono ?_
  rintro e w1 ⟨rfl, h1, g1⟩
  have H1 := Lib.hid h1
  have G1 := Lib.hid ((GB.drew g w).trans g1)
  clear h1 g1
  go_wp2_with fail
  go_end0
  exact ⟨rfl, H1.out, G1.out⟩
end Go.Proofs.YtifnpclcnlgecaaDoor
