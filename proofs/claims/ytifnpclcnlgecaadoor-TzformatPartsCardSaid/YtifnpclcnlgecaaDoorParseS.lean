/- posixtz.Parse at "EST5EDT". -/
import Derived.Test.YtifnpclcnlgecaaDoorPt
set_option linter.unusedVariables false
set_option linter.unusedSimpArgs false
namespace Go.Proofs.YtifnpclcnlgecaaDoor
open Go Go.RowKit

set_option maxHeartbeats 4000000 in
set_option maxRecDepth 100000 in
theorem parse_short (w : World) :
    Calls Tryd.prog 18 #[.string short] w fun e w' => e = .returned (.tuple #[.agg rzero, .int .i64 14, .int .i64 7]) ∧ Below w.heap.size w w' := by
  have hmf : ∀ (fn : Fn) (first cap : Array Value) (w : World), (Instr.makeFunc fn first cap).run Tryd.prog w = .ok (.func fn first cap) w := fun _ _ _ _ => rfl
  have P0 := Lib.hid (PT.start short w)
  have CN := Lib.hid (pname_calls (w.heap.size + 3) short 0 3 (by decide) (by decide) short_name)
  have CO := Lib.hid (poffset_calls (w.heap.size + 3) short 3 18000 ((1 : Nat) : Int) (by decide) (by decide) short_pre short_off (by decide) (by decide))
  have CD := Lib.hid (dst_no (w.heap.size + 3) short 4 3 7 ⟨#[69, 83, 84]⟩ (-18000) (by decide) (by decide) (by decide) short_dst rfl (by decide) (by decide))
  rw [short_std] at CN
  have hsz : (short.size : Int) = 7 := rfl
  have hs : short.size = 7 := rfl
  generalize short = s at *
  go_enter_defers Tryd.func18, Tryd.ntmps18
  go_wp2_with fail
  refine (CN.out _ P0.out.ps).mono ?_
  rintro e w1 ⟨rfl, h1, g1⟩
  have P1 := Lib.hid (P0.out.step h1 g1)
  clear h1 g1 P0
  have c0 := P1.out.c 0
  have f0 := P1.out.f 0
  simp at c0
  go_wp2_with fail
  have P2 := Lib.hid (P1.out.store 0 (.string ⟨#[69, 83, 84]⟩) (rset0 ..))
  clear c0 f0 P1
  generalize World.setCell _ _ _ = w2 at *
  refine (CO.out _ P2.out.ps).mono ?_
  rintro e w3 ⟨rfl, h1, g1⟩
  have P3 := Lib.hid (P2.out.step h1 g1)
  clear h1 g1 P2
  have c1 := P3.out.c 1
  have f1 := P3.out.f 1
  simp at c1
  have P4 := Lib.hid (P3.out.store 1 (.int .i64 (-18000)) (rset1 ..))
  have p1 := P4.out.ps.c1
  have c0' := P4.out.c 0
  have c1' := P4.out.c 1
  have c2' := P4.out.c 2
  have c3' := P4.out.c 3
  have c4' := P4.out.c 4
  have c5' := P4.out.c 5
  have c6' := P4.out.c 6
  have c7' := P4.out.c 7
  have c8' := P4.out.c 8
  have c9' := P4.out.c 9
  have c10' := P4.out.c 10
  have c11' := P4.out.c 11
  have c12' := P4.out.c 12
  have c13' := P4.out.c 13
  have c14' := P4.out.c 14
  have c15' := P4.out.c 15
  have c16' := P4.out.c 16
  simp at c0' c1' c2' c3' c4' c5' c6' c7' c8' c9' c10' c11' c12' c13' c14' c15' c16'
  have hlt : ((3 : Nat) : Int) + ((1 : Nat) : Int) = 4 := rfl
  rw [hlt] at p1
  go_wp2_with fail
  refine (CD.out _ (P4.out.ps.at rfl)).mono ?_
  rintro e w5 ⟨rfl, g1⟩
  obtain ⟨r5, b5⟩ := P4.out.gone g1
  refine leaves_cons (f := 25) (args := #[.pointer (some ⟨w.heap.size, 0, none⟩), .pointer (some ⟨w.heap.size + 1, 0, none⟩), .pointer (some ⟨w.heap.size + 2, 0, none⟩)]) (by simp) (by simp [go_sem]) ?_
  refine (catch_stop w.heap.size _ ⟨#[69, 83, 84]⟩ (-18000) w5 r5 []).mono ?_
  rintro e u' w6 ⟨rfl, rfl, r6, b6⟩
  exact ⟨_, res18 _ _ w.heap.size _ _ _ _ _ _ _ _ _ _ _ _ _ _ _ _ _ _ _ rfl rfl rfl r6, rfl, b5.trans b6⟩
end Go.Proofs.YtifnpclcnlgecaaDoor
