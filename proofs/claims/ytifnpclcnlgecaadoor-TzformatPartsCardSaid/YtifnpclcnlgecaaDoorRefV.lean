/- The reference's validity of a rule. -/
import Derived.Test.YtifnpclcnlgecaaDoorRef
import Derived.Laws.StructEq
set_option linter.unusedVariables false
set_option linter.unusedSimpArgs false
namespace Go.Proofs.YtifnpclcnlgecaaDoor
open Go Go.RowKit

/-- A day whose numbers fit. -/
structure DayIn (d : RDay) : Prop where
  d0 : -9223372036854775808 ≤ d.day
  d1 : d.day ≤ 9223372036854775807
  m0 : -9223372036854775808 ≤ d.month
  m1 : d.month ≤ 9223372036854775807
  k0 : -9223372036854775808 ≤ d.week
  k1 : d.week ≤ 9223372036854775807
  w0 : -9223372036854775808 ≤ d.wday
  w1 : d.wday ≤ 9223372036854775807
theorem DayIn.ok {d : RDay} (h : DayIn d) (t : -604799 ≤ d.time ∧ d.time ≤ 604799) : DayOk d :=
  ⟨h.d0, h.d1, h.m0, h.m1, h.k0, h.k1, h.w0, h.w1, by omega, by omega⟩

/-- What the law needs of a rule that the reference accepts. -/
def Good (r : RRule) : Prop := r.hasDst = true → RuleOk r ∧ 0 < r.dst.size
theorem tellsB_no {F : Prop} {w w' : World} (h : Below w.heap.size w w') : TellsB F w (.returned (.bool false)) w' := ⟨false, rfl, fun h => absurd h (by decide), h⟩
theorem tellsB_yes {F : Prop} {w w' : World} (b : Bool) (hf : F) (h : Below w.heap.size w w') : TellsB F w (.returned (.bool b)) w' := ⟨b, rfl, fun _ => hf, h⟩

set_option maxHeartbeats 4000000 in
set_option maxRecDepth 100000 in
theorem rvalid_calls (r : RRule) (z1 : r.std.size < 4611686018427387904) (z2 : r.dst.size < 4611686018427387904) (i1 : DayIn r.start) (i2 : DayIn r.fin) (w : World) :
    Calls Tryd.prog 5 #[.agg r.cells] w (TellsB (Good r) w) := by
  have X0 := Lib.hid (new_blk w (.cells r.cells 25))
  have B0 := Lib.hid (below_alloc' w (.cells r.cells 25))
  have CN := Lib.hid (rname_calls r.std z1)
  have CN2 := Lib.hid (rname_calls r.dst z2)
  have CI := Lib.hid rin_calls
  have CD := Lib.hid rday_calls
  have I1 := Lib.hid i1
  have I2 := Lib.hid i2
  have HG : Hid (r.hasDst = false → Good r) := Lib.hid (fun h q => by rw [h] at q; cases q)
  clear z1 z2 i1 i2
  go_enter Tryd.func5, Tryd.ntmps5
  go_upto_region 1 with fail
  generalize w.alloc (.cells r.cells 25) = w1 at *
  have c0 := Lib.cell_of_heap X0.out 0
  have c1 := Lib.cell_of_heap X0.out 1
  have c2 := Lib.cell_of_heap X0.out 2
  simp at c0 c1 c2
  go_wp2_with fail
  refine (CN.out _).mono ?_
  rintro e w' ⟨b, rfl, hb, rfl⟩
  have HB := Lib.hid hb
  clear hb
  cases b with
  | false =>
    go_wp2_with fail
    go_ret
    exact tellsB_no B0.out
  | true =>
    go_wp2_with fail
    refine (CI.out _ _).mono ?_
    rintro e w' ⟨b, rfl, hb, rfl⟩
    have HI := Lib.hid hb
    clear hb
    cases b with
    | false =>
      go_wp2_with fail
      go_ret
      exact tellsB_no B0.out
    | true =>
      go_upto_region 4 with fail
      have XZ := Lib.hid (new_blk w1 (.cells #[Value.int IntKind.i64 0, Value.int IntKind.i64 0, Value.int IntKind.i64 0, Value.int IntKind.i64 0, Value.int IntKind.i64 0, Value.int IntKind.i64 0] 23))
      have bz := below_alloc' w1 (.cells #[Value.int IntKind.i64 0, Value.int IntKind.i64 0, Value.int IntKind.i64 0, Value.int IntKind.i64 0, Value.int IntKind.i64 0, Value.int IntKind.i64 0] 23)
      have B2 := Lib.hid (B0.out.trans (bz.mono B0.out.size))
      have X2 := Lib.hid (blk_keep bz X0.out)
      have Z2 := Lib.hid (show w1.heap.size < (w1.alloc (.cells #[Value.int IntKind.i64 0, Value.int IntKind.i64 0, Value.int IntKind.i64 0, Value.int IntKind.i64 0, Value.int IntKind.i64 0, Value.int IntKind.i64 0] 23)).heap.size by simp)
      generalize w1.alloc (.cells #[Value.int IntKind.i64 0, Value.int IntKind.i64 0, Value.int IntKind.i64 0, Value.int IntKind.i64 0, Value.int IntKind.i64 0, Value.int IntKind.i64 0] 23) = w2 at *
      generalize w1.heap.size = gz at *
      clear bz c0 c1 c2 B0 X0
      have c2 := Lib.cell_of_heap X2.out 2
      have c3 := Lib.cell_of_heap X2.out 3
      have c4 := Lib.cell_of_heap X2.out 4
      have c5 := Lib.cell_of_heap X2.out 5
      have c6 := Lib.cell_of_heap X2.out 6
      have c7 := Lib.cell_of_heap X2.out 7
      have c8 := Lib.cell_of_heap X2.out 8
      have c9 := Lib.cell_of_heap X2.out 9
      have c10 := Lib.cell_of_heap X2.out 10
      have c11 := Lib.cell_of_heap X2.out 11
      have c12 := Lib.cell_of_heap X2.out 12
      have c13 := Lib.cell_of_heap X2.out 13
      have c14 := Lib.cell_of_heap X2.out 14
      have c15 := Lib.cell_of_heap X2.out 15
      have c16 := Lib.cell_of_heap X2.out 16
      simp at c2 c3 c4 c5 c6 c7 c8 c9 c10 c11 c12 c13 c14 c15 c16
      cases hd : r.hasDst with
      | false =>
        have HF := Lib.hid (HG.out hd)
        rw [hd] at c2
        clear hd
        have z0 := Lib.cell_of_heap XZ.out 0
        have z1 := Lib.cell_of_heap XZ.out 1
        have z2 := Lib.cell_of_heap XZ.out 2
        have z3 := Lib.cell_of_heap XZ.out 3
        have z4 := Lib.cell_of_heap XZ.out 4
        have z5 := Lib.cell_of_heap XZ.out 5
        simp at z0 z1 z2 z3 z4 z5
        go_wp2_with fail
        all_goals
          go_ret
          exact tellsB_yes _ HF.out B2.out
      | true =>
        have HD := Lib.hid hd
        rw [hd] at c2
        clear hd
        go_wp2_with fail
        refine (CN2.out _).mono ?_
        rintro e w' ⟨b, rfl, hb, rfl⟩
        have HB2 := Lib.hid hb
        clear hb
        cases b with
        | false =>
          go_wp2_with fail
          go_ret
          exact tellsB_no B2.out
        | true =>
          go_wp2_with fail
          refine (CI.out _ _).mono ?_
          rintro e w' ⟨b, rfl, hb, rfl⟩
          have HI2 := Lib.hid hb
          clear hb
          cases b with
          | false =>
            go_wp2_with fail
            go_ret
            exact tellsB_no B2.out
          | true =>
            go_wp2_with fail
            refine (CD.out r.start _).mono ?_
            rintro e w3 ⟨b, rfl, hb, b3⟩
            have B3 := Lib.hid (B2.out.trans (b3.mono B2.out.size))
            have X3 := Lib.hid (blk_keep b3 X2.out)
            have HD1 := Lib.hid hb
            clear hb b3 c2 c3 c4 c5 c6 c7 c8 c9 c10 c11 c12 c13 c14 c15 c16
            cases b with
            | false =>
              go_wp2_with fail
              go_ret
              exact tellsB_no B3.out
            | true =>
              have c11 := Lib.cell_of_heap X3.out 11
              have c12 := Lib.cell_of_heap X3.out 12
              have c13 := Lib.cell_of_heap X3.out 13
              have c14 := Lib.cell_of_heap X3.out 14
              have c15 := Lib.cell_of_heap X3.out 15
              have c16 := Lib.cell_of_heap X3.out 16
              simp at c11 c12 c13 c14 c15 c16
              go_wp2_with fail
              refine (CD.out r.fin _).mono ?_
              rintro e w4 ⟨b, rfl, hb, b4⟩
              have B4 := Lib.hid (B3.out.trans (b4.mono B3.out.size))
              have HD2 := Lib.hid hb
              clear hb b4
              go_wp2_with fail
              go_ret
              refine ⟨b, rfl, fun hb => ?_, B4.out⟩
              obtain ⟨s3, s255, sa⟩ := HB.out trivial
              obtain ⟨t3, t255, ta⟩ := HB2.out trivial
              have o1 := HI.out trivial
              have o2 := HI2.out trivial
              intro _
              exact ⟨⟨⟨sa, by omega⟩, by omega, by omega, fun _ => ⟨⟨ta, by omega⟩, by omega, by omega, I1.out.ok (HD1.out trivial), I2.out.ok (HD2.out hb)⟩⟩, by omega⟩
end Go.Proofs.YtifnpclcnlgecaaDoor
