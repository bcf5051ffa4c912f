/- The law: true at every rule. -/
import Derived.Test.YtifnpclcnlgecaaDoorRefV
import Derived.Test.YtifnpclcnlgecaaDoorAwake
set_option linter.unusedVariables false
set_option linter.unusedSimpArgs false
namespace Go.Proofs.YtifnpclcnlgecaaDoor
open Go Go.RowKit

/-- The rule's standard part, as a rule of its own. -/
abbrev RRule.part (r : RRule) : RRule := ⟨r.std, r.stdOff, false, ⟨#[]⟩, 0, ⟨0, 0, 0, 0, 0, 0⟩, ⟨0, 0, 0, 0, 0, 0⟩⟩
theorem part_ok {r : RRule} (h : RuleOk r) : RuleOk r.part := ⟨h.std, h.s0, h.s1, fun q => by cases q⟩
theorem part_fmt (r : RRule) : fmtStd r.part = fmtStd r := rfl

theorem fmtDst_pos (r : RRule) (h : 0 < r.dst.size) : 0 < (fmtDst r).length := by
  have hl : r.dst.data.toList ≠ [] := by
    intro q
    have h2 : r.dst.data.toList.length = 0 := by rw [q]; rfl
    rw [Array.length_toList] at h2
    have : r.dst.size = 0 := h2
    omega
  have := List.length_pos_iff.2 (fmtName_ne _ hl)
  unfold fmtDst
  rw [List.length_append]
  omega

theorem fmtStd_len (r : RRule) (h : RuleOk r) : (fmtStd r).length ≤ 1000000 := by
  have ls := fmtName_len r.std.data.toList
  have lh := fmtHms_len (-r.stdOff) (by have := h.s1; omega) (by have := h.s0; omega)
  have hsz : r.std.data.toList.length ≤ 1000 := by have := h.std.size; rw [Array.length_toList]; exact this
  unfold fmtStd
  rw [List.length_append]
  omega
theorem fmtDst_len (r : RRule) (h : RuleOk r) (hd : r.hasDst = true) : (fmtDst r).length ≤ 1000000 := by
  obtain ⟨hn, d0, d1, _, _⟩ := h.dst hd
  have ls := fmtName_len r.dst.data.toList
  have lh := fmtHms_len (-r.dstOff) (by omega) (by omega)
  have hsz : r.dst.data.toList.length ≤ 1000 := by have := hn.size; rw [Array.length_toList]; exact this
  unfold fmtDst
  rw [List.length_append]
  split
  · simp; omega
  · omega
theorem tail_eq (a b : List UInt8) : ((⟨#[44]⟩ : ByteArray) ++ ⟨a.toArray⟩ ++ ⟨#[44]⟩ ++ ⟨b.toArray⟩) = ⟨((44 :: a) ++ (44 :: b)).toArray⟩ := by
  show ((⟨[44].toArray⟩ : ByteArray) ++ ⟨a.toArray⟩ ++ ⟨[44].toArray⟩ ++ ⟨b.toArray⟩) = _
  rw [ba_append, ba_append, ba_append]
  simp

theorem slices (fr fs md tl : List UInt8) (er : fr = fs ++ md ++ tl) (hm : 0 < md.length) (h1 : fs.length ≤ 1000000) (h2 : tl.length ≤ 1000000) (h3 : md.length ≤ 1000000) (S A T : ByteArray) (hS : S = ⟨fr.toArray⟩) (hA : A = ⟨fs.toArray⟩) (hT : T = ⟨tl.toArray⟩) :
    A.size + T.size < S.size ∧ A.size ≤ 1000000 ∧ T.size ≤ 1000000 ∧ S.size ≤ 3000000 ∧ S.extract 0 A.size = A ∧ S.extract (S.size - T.size) S.size = T := by
  have zS : S.size = fs.length + md.length + tl.length := by subst hS; show fr.toArray.size = _; rw [er]; simp; omega
  have zA : A.size = fs.length := by subst hA; show fs.toArray.size = _; simp
  have zT : T.size = tl.length := by subst hT; show tl.toArray.size = _; simp
  refine ⟨by omega, by omega, by omega, by omega, ?_, ?_⟩
  · rw [zA]
    subst hS hA
    apply ByteArray.ext
    rw [ByteArray.data_extract]
    apply Array.ext'
    rw [Array.toList_extract]
    subst er
    simp
  · rw [zS, zT]
    subst hS hT
    apply ByteArray.ext
    rw [ByteArray.data_extract]
    apply Array.ext'
    rw [Array.toList_extract]
    subst er
    have : fs.length + md.length + tl.length - tl.length = (fs ++ md).length := by simp
    rw [this]
    simp

set_option maxHeartbeats 4000000 in
set_option maxRecDepth 100000 in
theorem law_calls (r : RRule) (z1 : r.std.size < 4611686018427387904) (z2 : r.dst.size < 4611686018427387904) (i1 : DayIn r.start) (i2 : DayIn r.fin) (w : World) (ht : Tab w) :
    Calls Tryd.prog 3 #[.agg r.cells] w fun e w' => e = .returned (.bool true) ∧ Below w.heap.size w w' := by
  have X0 := Lib.hid (new_blk w (.cells r.cells 25))
  have b0 := below_alloc' w (.cells r.cells 25)
  have T0 := Lib.hid (tab_below ht b0)
  have B0 := Lib.hid b0
  have CA := Lib.hid awake_calls
  have CV := Lib.hid (rvalid_calls r z1 z2 i1 i2)
  have hsz : r.cells.size = 17 := rfl
  obtain ⟨u, hu⟩ := st25
  have hi := size25
  clear ht b0 z1 z2 i1 i2
  go_enter Tryd.func3, Tryd.ntmps3
  go_upto_region 1 with fail
  generalize w.alloc (.cells r.cells 25) = w1 at *
  go_wp2_with fail
  refine (CA.out _ T0.out).mono ?_
  rintro e w2 ⟨rfl, b1⟩
  have T1 := Lib.hid (tab_below T0.out b1)
  have X1 := Lib.hid (blk_keep b1 X0.out)
  have B1 := Lib.hid (B0.out.trans (b1.mono B0.out.size))
  clear b1 B0 X0 T0
  simp only []
  go_step
  repeat (first
    | (refine BigFrame.wpList_want rfl fun K hK => wp_load_row 25 (.tmp 1) rfl w.heap.size rfl 25 r.cells (0, 0) _ X1.out hu rfl (by rw [hi, hsz]) (hK _ _ ?_))
    | go_values | go_skip | go_guarded | go_step | go_upon | (go_values <;> (try go_simp)))
  refine (CV.out _).mono ?_
  rintro e w3 ⟨b, rfl, hb, b1⟩
  have HB := Lib.hid hb
  have T2 := Lib.hid (tab_below T1.out b1)
  have X2 := Lib.hid (blk_keep b1 X1.out)
  have B2 := Lib.hid (B1.out.trans (b1.mono B1.out.size))
  clear b1 B1 X1 T1 hb
  have c2 := Lib.cell_of_heap X2.out 2
  simp at c2
  cases b with
  | false =>
    go_wp2_with fail
    refine (CA.out _ T2.out).mono ?_
    rintro e w4 ⟨rfl, b1⟩
    have B3 := Lib.hid (B2.out.trans (b1.mono B2.out.size))
    clear b1
    go_wp2_with fail
    go_ret
    exact ⟨rfl, B3.out⟩
  | true =>
    cases hd : r.hasDst with
    | false =>
      rw [hd] at c2
      go_wp2_with fail
      refine (CA.out _ T2.out).mono ?_
      rintro e w4 ⟨rfl, b1⟩
      have B3 := Lib.hid (B2.out.trans (b1.mono B2.out.size))
      clear b1
      go_wp2_with fail
      go_ret
      exact ⟨rfl, B3.out⟩
    | true =>
      obtain ⟨hok, hne⟩ := HB.out rfl hd
      have HD := Lib.hid hd
      rw [hd] at c2
      clear hd HB
      have FR := Lib.hid (format_dst r hok HD.out)
      have FS : Hid (∀ (w : World), Tab w → Calls Tryd.prog 6 #[.agg r.part.cells] w (Gives w (fmtStd r))) := Lib.hid (fun (w : World) (ht : Tab w) => format_std r.part (part_ok hok) rfl w ht)
      obtain ⟨_, _, _, hds, hdf⟩ := hok.dst HD.out
      have D1 := Lib.hid (fday_calls r.start hds)
      have D2 := Lib.hid (fday_calls r.fin hdf)
      have LT := Lib.hid (And.intro (fmtDay_len r.start hds) (fmtDay_len r.fin hdf))
      have hm := fmtDst_pos r hne
      have HM := Lib.hid hm
      have LS := Lib.hid (And.intro (fmtStd_len r hok) (fmtDst_len r hok HD.out))
      have ER := Lib.hid (show fmtRule r = fmtStd r ++ fmtDst r ++ ((44 :: fmtDay r.start) ++ (44 :: fmtDay r.fin)) from fmtRule_dst r HD.out)
      clear hok hne hds hdf hm
      generalize fmtRule r = fr at *
      generalize fmtStd r = fs at *
      generalize fmtDst r = md at *
      generalize fmtDay r.start = f1 at *
      generalize fmtDay r.fin = f2 at *
      simp only [Bool.cond_eq_ite, Bool.false_eq_true, if_false]
      repeat (first
        | (refine BigFrame.wpList_want rfl fun K hK => wp_load_row 25 (.tmp 1) rfl w.heap.size rfl 25 r.cells (0, 0) _ X2.out hu rfl (by rw [hi, hsz]) (hK _ _ ?_))
        | go_values | go_skip | go_guarded | go_step | go_upon | (go_values <;> (try go_simp)))
      refine (FR.out _ T2.out).mono ?_
      rintro e w4 ⟨rfl, b1⟩
      have T3 := Lib.hid (tab_below T2.out b1)
      have X3 := Lib.hid (blk_keep b1 X2.out)
      have B3 := Lib.hid (B2.out.trans (b1.mono B2.out.size))
      clear b1 B2 X2 T2 c2
      have c0 := Lib.cell_of_heap X3.out 0
      have c1 := Lib.cell_of_heap X3.out 1
      simp at c0 c1
      go_wp2_with fail
      refine (FS.out _ T3.out).mono ?_
      rintro e w5 ⟨rfl, b1⟩
      have T4 := Lib.hid (tab_below T3.out b1)
      have X4 := Lib.hid (blk_keep b1 X3.out)
      have B4 := Lib.hid (B3.out.trans (b1.mono B3.out.size))
      clear b1 B3 X3 T3 c0 c1
      go_upto_region 5 with fail
      go_cut [5] (fun v5 wc => v5 = .string ⟨((44 :: f1) ++ (44 :: f2)).toArray⟩ ∧ Hid (Below w.heap.size w wc))
      case first =>
        obtain ⟨ld1, ld2⟩ := LT.out
        have T5 := Lib.hid (tab_below T4.out (Below.refl w5.heap.size w5).drew)
        have X5 := Lib.hid (blk_keep (Below.refl w5.heap.size w5).drew X4.out)
        have B5 := Lib.hid B4.out.drew
        have c5 := Lib.cell_of_heap X5.out 5
        have c6 := Lib.cell_of_heap X5.out 6
        have c7 := Lib.cell_of_heap X5.out 7
        have c8 := Lib.cell_of_heap X5.out 8
        have c9 := Lib.cell_of_heap X5.out 9
        have c10 := Lib.cell_of_heap X5.out 10
        have c11 := Lib.cell_of_heap X5.out 11
        have c12 := Lib.cell_of_heap X5.out 12
        have c13 := Lib.cell_of_heap X5.out 13
        have c14 := Lib.cell_of_heap X5.out 14
        have c15 := Lib.cell_of_heap X5.out 15
        have c16 := Lib.cell_of_heap X5.out 16
        simp at c5 c6 c7 c8 c9 c10 c11 c12 c13 c14 c15 c16
        go_region_with (first
          | (go_at_call_of 7 (Value.int IntKind.i64 r.start.kind); refine (D1.out _ T5.out).mono ?_; rintro e w6 ⟨rfl, b1⟩; have T6 := Lib.hid (tab_below T5.out b1); have X6 := Lib.hid (blk_keep b1 X5.out); have B6 := Lib.hid (B5.out.trans (b1.mono B5.out.size)); clear b1; have c11 := Lib.cell_of_heap X6.out 11; have c12 := Lib.cell_of_heap X6.out 12; have c13 := Lib.cell_of_heap X6.out 13; have c14 := Lib.cell_of_heap X6.out 14; have c15 := Lib.cell_of_heap X6.out 15; have c16 := Lib.cell_of_heap X6.out 16; simp at c11 c12 c13 c14 c15 c16)
          | (go_at_call_of 7 (Value.int IntKind.i64 r.fin.kind); refine (D2.out _ T6.out).mono ?_; rintro e w7 ⟨rfl, b1⟩; have B7 := Lib.hid (B6.out.trans (b1.mono B6.out.size)); clear b1))
        all_goals
          go_wp2_with fail
          go_meet
          exact ⟨congrArg Value.string (tail_eq f1 f2), B7⟩
      case rest =>
        obtain ⟨rfl, B7⟩ := hcut
        obtain ⟨S, hS⟩ : ∃ S : ByteArray, S = ⟨fr.toArray⟩ := ⟨_, rfl⟩
        obtain ⟨A, hA⟩ : ∃ A : ByteArray, A = ⟨fs.toArray⟩ := ⟨_, rfl⟩
        obtain ⟨T, hT⟩ : ∃ T : ByteArray, T = ⟨((44 :: f1) ++ (44 :: f2)).toArray⟩ := ⟨_, rfl⟩
        obtain ⟨n1, n2, n3, n6, n4, n5⟩ := slices fr fs md ((44 :: f1) ++ (44 :: f2)) ER.out HM.out LS.out.1 (by have := LT.out; simp; omega) LS.out.2 S A T hS hA hT
        rw [← hS, ← hA, ← hT]
        clear hS hA hT ER HM LS LT FR FS D1 D2 CA CV
        have m1 : ¬ ((S.size : Int) ≤ A.size + T.size) := by omega
        have m2 : wrap64 ((S.size : Int) - T.size) = ((S.size - T.size : Nat) : Int) := by rw [IntWalk.wrap64_in _ (by omega)]; omega
        go_wp2_with fail
        go_ret
        exact ⟨rfl, B7.out⟩
end Go.Proofs.YtifnpclcnlgecaaDoor
