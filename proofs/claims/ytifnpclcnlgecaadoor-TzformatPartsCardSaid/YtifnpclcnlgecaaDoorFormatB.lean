/- What tzformat.Format returns for a rule with daylight saving time. -/
import Derived.Test.YtifnpclcnlgecaaDoorFormat
set_option linter.unusedVariables false
namespace Go.Proofs.YtifnpclcnlgecaaDoor
open Go Go.RowKit

set_option maxHeartbeats 4000000 in
set_option maxRecDepth 100000 in
theorem format_dst (r : RRule) (hr : RuleOk r) (hd : r.hasDst = true) (w : World) (ht : Tab w) : Calls Tryd.prog 6 #[.agg r.cells] w (Gives w (fmtRule r)) := by
  have H := Lib.hid (st_fresh w (w.alloc (.cells r.cells 25)) (w.heap.size + 1) (by simp) (below_alloc' _ _) ht)
  have HB := Lib.hid (boxed_rule r w)
  clear ht
  have HR := Lib.hid hr
  clear hr
  have ls := fmtName_len r.std.data.toList
  have lh := fmtHms_len (-r.stdOff) (by have := HR.out.s1; omega) (by have := HR.out.s0; omega)
  have cn := name_gives r.std HR.out.std
  have ch := fun (w : World) (ht : Tab w) => hms_calls (-r.stdOff) (by have := HR.out.s1; omega) (by have := HR.out.s0; omega) w ht
  have es : fmtStd r = fmtName r.std.data.toList ++ fmtHms (-r.stdOff) := rfl
  have hsz : r.std.data.toList.length ≤ 1000 := by have := HR.out.std.size; rw [Array.length_toList]; exact this
  have hne : fmtStd r ≠ [] := by rw [es]; unfold fmtHms fmtPos; split <;> simp [decDigits_ne]
  have b0 : -100000 < r.stdOff := HR.out.s0
  have b1 : r.stdOff < 100000 := HR.out.s1
  obtain ⟨hdn, d0, d1, hds, hdf⟩ := HR.out.dst hd
  have ls2 := fmtName_len r.dst.data.toList
  have lh2 := fmtHms_len (-r.dstOff) (by omega) (by omega)
  have cn2 := name_gives r.dst hdn
  have ch2 := fun (w : World) (ht : Tab w) => hms_calls (-r.dstOff) (by omega) (by omega) w ht
  have hsz2 : r.dst.data.toList.length ≤ 1000 := by have := hdn.size; rw [Array.length_toList]; exact this
  have er : fmtRule r = fmtStd r ++ (fmtName r.dst.data.toList ++ if r.dstOff = r.stdOff + 3600 then [] else fmtHms (-r.dstOff)) ++ ((44 :: fmtDay r.start) ++ (44 :: fmtDay r.fin)) := fmtRule_dst r hd
  have lds := fmtDay_len r.start hds
  have ldf := fmtDay_len r.fin hdf
  have cds := wday_calls w (w.heap.size + 1) (d := r.start) (hd := hds)
  have cdf := wday_calls w (w.heap.size + 1) (d := r.fin) (hd := hdf)
  generalize fmtStd r = sd at *
  generalize fmtName r.std.data.toList = nm at *
  generalize fmtHms (-r.stdOff) = hm at *
  generalize fmtName r.dst.data.toList = fd at *
  generalize fmtHms (-r.dstOff) = fh at *
  generalize fmtDay r.start = fs at *
  generalize fmtDay r.fin = ff at *
  generalize fmtRule r = fr at *
  have WN := Lib.hid (show IntKind.i64.wrap (-r.stdOff) = -r.stdOff from IntWalk.i64_in _ (by omega))
  have CN := Lib.hid cn
  have CH := Lib.hid ch
  have CN2 := Lib.hid cn2
  have CH2 := Lib.hid ch2
  have CDS := Lib.hid cds
  have CDF := Lib.hid cdf
  have ES := Lib.hid es
  have ER := Lib.hid er
  have DD := Lib.hid hd
  have les : sd.length = nm.length + hm.length := by rw [es]; simp
  clear cn ch cn2 ch2 cds cdf es er hd hds hdf hdn
  go_enter Tryd.func6, Tryd.ntmps6
  go_upto_region 2 with fail
  go_cut [] (fun wc => Hid (St w (w.heap.size + 1) sd wc) ∧ Hid (Boxed (w.heap.size + 1) w.heap.size r.cells 25 wc))
  case first =>
    go_region_with (first
      | (go_at_call 14; refine (CN.out _).mono ?_; rintro e w2 ⟨rfl, hb2⟩; have H2 := Lib.hid (H.out.drew.calm hb2); have B2 := Lib.hid ((HB.out.keep (keep_drew _ _)).keep (Keep.of_below hb2)); have c1 := B2.out.cell 1; simp at c1; clear hb2)
      | (go_at_call 15; rw [WN.out]; refine (CH.out _ H2.out.tab.tab).mono ?_; rintro e w3 ⟨rfl, hb3⟩; have H3 := Lib.hid (H2.out.calm hb3); have B3 := Lib.hid (B2.out.keep (Keep.of_below hb3)); clear hb3)
      | (go_at_call 13; refine (H3.out.write sd _ (by rw [ES.out, ba_append]) (by rw [ES.out]; simp; omega)).mono ?_; rintro e w4 ⟨rfl, h4, k4⟩; have H4 := Lib.hid h4; have B4 := Lib.hid (B3.out.keep k4); clear h4 k4))
    all_goals (go_wp2_with fail; go_meet; exact ⟨by simpa using H4, B4⟩)
  case rest =>
    obtain ⟨H4, B4⟩ := hcut
    have c2 := B4.out.cell 2
    simp at c2
    rw [DD.out] at c2
    have c3 := B4.out.cell 3
    simp at c3
    go_wp2_with fail
    refine (CN2.out _).mono ?_
    rintro e w5 ⟨rfl, hb5⟩
    have H5 := Lib.hid (H4.out.calm hb5)
    have B5 := Lib.hid (B4.out.keep (Keep.of_below hb5))
    clear hb5 c2 c3
    go_wp2_with fail
    refine (H5.out.write fd _ rfl (by omega)).mono ?_
    rintro e w6 ⟨rfl, h6, k6⟩
    have H6 := Lib.hid h6
    have B6 := Lib.hid (B5.out.keep k6)
    clear h6 k6
    have c1 := B6.out.cell 1
    simp at c1
    have c4 := B6.out.cell 4
    simp at c4
    go_upto_if 31 with fail
    go_cut [] (fun wd => ∃ md : List UInt8, Hid (fr = md ++ ((44 :: fs) ++ (44 :: ff))) ∧ md.length ≤ 4000 ∧ Hid (St w (w.heap.size + 1) md wd) ∧ Hid (Boxed (w.heap.size + 1) w.heap.size r.cells 25 wd))
    case first =>
      by_cases hq : r.dstOff = r.stdOff + 3600
      · have tq : (r.dstOff != r.stdOff + 3600) = false := by simpa using hq
        have HQ := Lib.hid hq
        clear hq
        go_wp2_with fail
        go_meet
        exact ⟨sd ++ fd, by rw [ER.out, if_pos HQ.out]; unfold Hid; simp, by simp; omega, H6, B6⟩
      · have tq : (r.dstOff != r.stdOff + 3600) = true := by simpa using hq
        have HQ := Lib.hid hq
        clear hq
        go_wp2_with fail
        refine (CH2.out _ H6.out.tab.tab).mono ?_
        rintro e w7 ⟨rfl, hb7⟩
        have H7 := Lib.hid (H6.out.calm hb7)
        have B7 := Lib.hid (B6.out.keep (Keep.of_below hb7))
        clear hb7
        go_wp2_with fail
        refine (H7.out.write fh _ rfl (by simp; omega)).mono ?_
        rintro e w8 ⟨rfl, h8, k8⟩
        have H8 := Lib.hid h8
        have B8 := Lib.hid (B7.out.keep k8)
        clear h8 k8
        go_wp2_with fail
        go_meet
        exact ⟨sd ++ fd ++ fh, by rw [ER.out, if_neg HQ.out]; unfold Hid; simp, by simp; omega, H8, B8⟩
    case rest =>
      obtain ⟨md, EM, hmd, H8, B8⟩ := hcut
      have c5 := B8.out.cell 5
      have c6 := B8.out.cell 6
      have c7 := B8.out.cell 7
      have c8 := B8.out.cell 8
      have c9 := B8.out.cell 9
      have c10 := B8.out.cell 10
      have c11 := B8.out.cell 11
      have c12 := B8.out.cell 12
      have c13 := B8.out.cell 13
      have c14 := B8.out.cell 14
      have c15 := B8.out.cell 15
      have c16 := B8.out.cell 16
      simp at c5 c6 c7 c8 c9 c10 c11 c12 c13 c14 c15 c16
      go_wp2_with fail
      have H9 := Lib.hid (H8.out.calm (below_alloc' _ (.cells (r.start.cells ++ r.fin.cells) 23)))
      have A9 := Lib.hid (boxed_new H8.out (r.start.cells ++ r.fin.cells) 23 (by decide))
      have H10 := Lib.hid (H9.out.calm (below_alloc' _ (.cells r.start.cells 23)))
      have A10 := Lib.hid (A9.out.keep (keep_alloc _ _ (.cells r.start.cells 23)))
      have D10 := Lib.hid (boxed_new H9.out r.start.cells 23 (by decide))
      clear c5 c6 c7 c8 c9 c10 c11 c12 c13 c14 c15 c16
      refine wp_loop_rounds 3 ?_
      rw [rounds_succ]
      go_wp2_with fail
      refine (H10.out.write [44] _ rfl (by simp; omega)).mono ?_
      rintro e w11 ⟨rfl, h11, k11⟩
      have H11 := Lib.hid h11
      have A11 := Lib.hid (A10.out.keep k11)
      have D11 := Lib.hid (D10.out.keep k11)
      clear h11 k11
      have c0 := D11.out.cell 0
      have c1 := D11.out.cell 1
      have c2 := D11.out.cell 2
      have c3 := D11.out.cell 3
      have c4 := D11.out.cell 4
      have c5 := D11.out.cell 5
      simp at c0 c1 c2 c3 c4 c5
      go_wp2_with fail
      refine (CDS.out _ _ H11.out (by simp; omega)).mono ?_
      rintro e w12 ⟨rfl, h12, k12⟩
      have H12 := Lib.hid h12
      have A12 := Lib.hid (A11.out.keep k12)
      clear h12 k12 c0 c1 c2 c3 c4 c5
      have c0 := A12.out.cell 6
      have c1 := A12.out.cell 7
      have c2 := A12.out.cell 8
      have c3 := A12.out.cell 9
      have c4 := A12.out.cell 10
      have c5 := A12.out.cell 11
      simp at c0 c1 c2 c3 c4 c5
      have H13 := Lib.hid (H12.out.calm (below_alloc' _ (.cells r.fin.cells 23)))
      have D13 := Lib.hid (boxed_new H12.out r.fin.cells 23 (by decide))
      go_wp2_with fail
      rw [rounds_succ]
      go_wp2_with fail
      refine (H13.out.write [44] _ rfl (by simp; omega)).mono ?_
      rintro e w14 ⟨rfl, h14, k14⟩
      have H14 := Lib.hid h14
      have D14 := Lib.hid (D13.out.keep k14)
      clear h14 k14 c0 c1 c2 c3 c4 c5
      have c0 := D14.out.cell 0
      have c1 := D14.out.cell 1
      have c2 := D14.out.cell 2
      have c3 := D14.out.cell 3
      have c4 := D14.out.cell 4
      have c5 := D14.out.cell 5
      simp at c0 c1 c2 c3 c4 c5
      go_wp2_with fail
      refine (CDF.out _ _ H14.out (by simp; omega)).mono ?_
      rintro e w15 ⟨rfl, h15, k15⟩
      have H15 := Lib.hid (show St w (w.heap.size + 1) fr w15 from by rw [EM.out]; simpa using h15)
      clear h15 k15 c0 c1 c2 c3 c4 c5
      go_wp2_with fail
      rw [rounds_succ]
      go_wp2_with fail
      refine (H15.out.string (by rw [EM.out]; simp)).mono ?_
      rintro e w16 ⟨rfl, hb⟩
      have HBB := Lib.hid hb
      clear hb
      go_wp2_with fail
      go_ret
      exact ⟨rfl, HBB.out⟩
end Go.Proofs.YtifnpclcnlgecaaDoor
