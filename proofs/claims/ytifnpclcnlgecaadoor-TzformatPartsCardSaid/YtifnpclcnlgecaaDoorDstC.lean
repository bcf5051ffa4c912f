/- The parser's step 'dst' at the end of the text: there is no offset and no comma. -/
import Derived.Test.YtifnpclcnlgecaaDoorDst
set_option linter.unusedVariables false
namespace Go.Proofs.YtifnpclcnlgecaaDoor
open Go Go.RowKit

set_option maxHeartbeats 4000000 in
set_option maxRecDepth 100000 in
theorem dst_no (g : Nat) (s : ByteArray) (k n k1 : Nat) (std : ByteArray) (off : Int) (ho : -100000 < off ∧ off < 100000) (hk : k ≤ s.size) (hk2 : s.size < 1000000)
    (hl : Letters (s.extract k s.size) n) (e1 : k + n = k1) (l1 : k1 ≤ s.size) (l2 : s.size ≤ k1) (w : World) (h : PS g s k w) :
    Calls Tryd.prog 28 #[.pointer (some ⟨g, 0, none⟩), .agg (rcells std off false .empty 0 0 0 0 0 0 0 0 0 0 0 0 0)] w fun e w' =>
      e = .panicked [{ v := .iface 61 (.agg #[.int .i64 k1]), recovered := false }] ∧ GB g w w' := by
  have CN := Lib.hid (pname_calls g s k n hk (by omega) hl)
  have CP : Hid (∀ w, Calls Tryd.prog 35 #[.string (s.extract k1 s.size)] w fun e w' => e = .returned (.tuple #[.int .i64 0, .int .i64 0, .bool false]) ∧ Below w.heap.size w w') := by
    have e : s.extract k1 s.size = .empty := by
      apply ByteArray.ext
      obtain rfl : k1 = s.size := by omega
      simp
    rw [e]
    have cp := hms_parse .empty (by decide) (by decide)
    exact Lib.hid cp
  have CC1 := Lib.hid (pcomma_no g s k1 l2 hk2)
  obtain ⟨o0, o1⟩ := ho
  have hgs : g < w.heap.size := (Array.getElem?_eq_some_iff.1 h).1
  have HZ := Lib.hid (DS.start (cs := rcells std off false .empty 0 0 0 0 0 0 0 0 0 0 0 0 0) h).drew
  have wo : IntKind.i64.wrap (off + 3600) = off + 3600 := IntWalk.i64_in _ (by omega)
  have E1 : ((k : Int) + n) = k1 := by omega
  rw [E1] at CN
  generalize (s.extract k s.size).extract 0 n = nm at *
  clear hl h e1 E1 l2
  go_enter Tryd.func28, Tryd.ntmps28
  go_upto_region 1 with fail
  go_cut [] (fun wc => Hid (DS g s k1 (rcells std off true nm (off + 3600) 0 0 0 0 0 0 0 0 0 0 0 0) w wc))
  case first =>
    go_region_with (first
      | (go_at_call 26; refine (CN.out _ HZ.out.ps).mono ?_; rintro e w1 ⟨rfl, h1, g1⟩
         have D1 := Lib.hid (HZ.out.step hgs h1 g1)
         clear h1 g1
         have c1 := D1.out.c 1
         have c2 := D1.out.c 2
         have c3 := D1.out.c 3
         have c4 := D1.out.c 4
         simp at c1 c2 c3 c4
         have f2 := D1.out.f 2
         have f3 := D1.out.f 3
         have f4 := D1.out.f 4))
    all_goals
      go_wp2_with fail
      go_meet
      exact ((D1.out.store hgs 2 (.bool true) rfl).store hgs 3 (.string nm) rfl).store hgs 4 (.int .i64 (off + 3600)) rfl
  case rest =>
    clear wo HZ
    have D1 := hcut
    clear hcut
    go_upto_region 2 with fail
    go_cut [7] (fun v7 wc => v7 = .bool false ∧ Hid (DS g s k1 (rcells std off true nm (off + 3600) 0 0 0 0 0 0 0 0 0 0 0 0) w wc))
    case first =>
      have c0 := D1.out.drew.ps.c0
      have c1 := D1.out.drew.ps.c1
      go_region_with (first
        | (go_at_call 35; refine (CP.out _).mono ?_; rintro e w1 ⟨rfl, hb1⟩
           have D2 := Lib.hid (D1.out.drew.step hgs (D1.out.drew.ps.below hb1) (GB.of_below hb1))
           clear hb1))
      all_goals
        go_wp2_with fail
        go_meet
        exact ⟨rfl, D2⟩
    case rest =>
      obtain ⟨rfl, D2⟩ := hcut
      clear D1 CP
      go_wp2_with fail
      refine (CC1.out _ D2.out.ps).mono ?_
      rintro e w3 ⟨rfl, g3⟩
      exact ⟨rfl, rfl, D2.out.gb.trans g3⟩
end Go.Proofs.YtifnpclcnlgecaaDoor
