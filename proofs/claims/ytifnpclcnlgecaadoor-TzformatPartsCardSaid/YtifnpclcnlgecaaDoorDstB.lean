/- The parser's step 'dst', where the text holds an offset and two days. -/
import Derived.Test.YtifnpclcnlgecaaDoorDst
set_option linter.unusedVariables false
namespace Go.Proofs.YtifnpclcnlgecaaDoor
open Go Go.RowKit

set_option maxHeartbeats 4000000 in
set_option maxRecDepth 100000 in
theorem dst_yes (g : Nat) (s : ByteArray) (k n k1 k2 k3 k4 k5 k6 : Nat) (v m1 wk1 d1 t1 m2 wk2 d2 t2 : Int) (std : ByteArray) (off : Int) (ho : -100000 < off ∧ off < 100000) (hk : k ≤ s.size) (hk2 : s.size < 1000000)
    (hl : Letters (s.extract k s.size) n) (e1 : k + n = k1) (l1 : k1 ≤ s.size) (hp : Lib.hasPrefix (s.extract k1 s.size).data.toList [45] = false) (n1 : Nat) (hv : hmsF (s.extract k1 s.size) = (v, (n1 : Int), true)) (hv1 : -89999 ≤ v ∧ v ≤ 89999)
    (e2 : k1 + n1 = k2) (h44 : byteAt s k2 = 44) (e3 : k2 + 1 = k3) (l3 : k3 ≤ s.size) (n2 : Nat) (hd1 : IsDay (s.extract k3 s.size) m1 wk1 d1 t1 n2) (ho1 : mOk m1 wk1 d1 t1) (e4 : k3 + n2 = k4)
    (h44' : byteAt s k4 = 44) (e5 : k4 + 1 = k5) (l5 : k5 ≤ s.size) (n3 : Nat) (hd2 : IsDay (s.extract k5 s.size) m2 wk2 d2 t2 n3) (ho2 : mOk m2 wk2 d2 t2) (e6 : k5 + n3 = k6) (l6 : k6 ≤ s.size) (w : World) (h : PS g s k w) :
    Calls Tryd.prog 28 #[.pointer (some ⟨g, 0, none⟩), .agg (rcells std off false .empty 0 0 0 0 0 0 0 0 0 0 0 0 0)] w fun e w' =>
      e = .returned (.agg (rcells std off true ((s.extract k s.size).extract 0 n) (-v) 3 0 m1 wk1 d1 t1 3 0 m2 wk2 d2 t2)) ∧ PS g s k6 w' ∧ GB g w w' := by
  have k4s := byteAt_in h44' (by decide)
  have k2s := byteAt_in h44 (by decide)
  have CN := Lib.hid (pname_calls g s k n hk (by omega) hl)
  have CO := Lib.hid (poffset_calls g s k1 v n1 l1 hk2 hp hv hv1 (by omega))
  have CP : Hid (∀ w, Calls Tryd.prog 35 #[.string (s.extract k1 s.size)] w fun e w' => e = .returned (.tuple #[.int .i64 v, .int .i64 n1, .bool true]) ∧ Below w.heap.size w w') := by
    have cp := hms_parse (s.extract k1 s.size) (by simp; omega) hp
    rw [hv] at cp
    exact Lib.hid cp
  have CC1 := Lib.hid (pcomma_yes g s k2 hk2 h44)
  have CD1 := Lib.hid (pday g s k3 m1 wk1 d1 t1 n2 l3 hk2 hd1 ho1 (by omega))
  have CC2 := Lib.hid (pcomma_yes g s k4 hk2 h44')
  have CD2 := Lib.hid (pday g s k5 m2 wk2 d2 t2 n3 l5 hk2 hd2 ho2 (by omega))
  obtain ⟨o0, o1⟩ := ho
  have hgs : g < w.heap.size := (Array.getElem?_eq_some_iff.1 h).1
  have HZ := Lib.hid (DS.start (cs := rcells std off false .empty 0 0 0 0 0 0 0 0 0 0 0 0 0) h).drew
  have wo : IntKind.i64.wrap (off + 3600) = off + 3600 := IntWalk.i64_in _ (by omega)
  have E1 : ((k : Int) + n) = k1 := by omega
  have E2 : ((k1 : Int) + n1) = k2 := by omega
  have E3 : ((k2 : Int) + 1) = k3 := by omega
  have E4 : ((k3 : Int) + n2) = k4 := by omega
  have E5 : ((k4 : Int) + 1) = k5 := by omega
  have E6 : ((k5 : Int) + n3) = k6 := by omega
  rw [E1] at CN; rw [E2] at CO; rw [E3] at CC1; rw [E4] at CD1; rw [E5] at CC2; rw [E6] at CD2
  generalize (s.extract k s.size).extract 0 n = nm at *
  clear hl h hp hv hv1 h44 h44' hd1 hd2 ho1 ho2 e1 e2 e3 e4 e5 e6 E1 E2 E3 E4 E5 E6 l3 l5 l6 k4s k2s
  go_enter Tryd.func28, Tryd.ntmps28
  go_upto_region 1 with fail
  go_cut [] (fun wc => Hid (DS g s k1 (rcells std off true nm (off + 3600) 0 0 0 0 0 0 0 0 0 0 0 0) w wc))
  case first =>
    go_region_with (first
      | (go_at_call 26; refine (CN.out _ HZ.out.ps).mono ?_; rintro e w1 ⟨rfl, h1, g1⟩
         have D1 := Lib.hid (HZ.out.step hgs h1 g1)
         clear h1 g1
         have c1 := D1.out.c 1
         have c2 := D1.out.c 2
         have c3 := D1.out.c 3
         have c4 := D1.out.c 4
         simp at c1 c2 c3 c4
         have f2 := D1.out.f 2
         have f3 := D1.out.f 3
         have f4 := D1.out.f 4))
    all_goals
      go_wp2_with fail
      go_meet
      exact ((D1.out.store hgs 2 (.bool true) rfl).store hgs 3 (.string nm) rfl).store hgs 4 (.int .i64 (off + 3600)) rfl
  case rest =>
    clear wo HZ
    have D1 := hcut
    clear hcut
    go_upto_region 2 with fail
    go_cut [7] (fun v7 wc => v7 = .bool true ∧ Hid (DS g s k1 (rcells std off true nm (off + 3600) 0 0 0 0 0 0 0 0 0 0 0 0) w wc))
    case first =>
      have c0 := D1.out.drew.ps.c0
      have c1 := D1.out.drew.ps.c1
      go_region_with (first
        | (go_at_call 35; refine (CP.out _).mono ?_; rintro e w1 ⟨rfl, hb1⟩
           have D2 := Lib.hid (D1.out.drew.step hgs (D1.out.drew.ps.below hb1) (GB.of_below hb1))
           clear hb1))
      all_goals
        go_wp2_with fail
        go_meet
        exact ⟨rfl, D2⟩
    case rest =>
      obtain ⟨rfl, D2⟩ := hcut
      clear D1 CP
      go_wp2_with fail
      refine (CO.out _ D2.out.ps).mono ?_
      rintro e w3 ⟨rfl, h3, g3⟩
      have D3 := Lib.hid (D2.out.step hgs h3 g3)
      clear h3 g3
      have c4 := D3.out.c 4
      have f4 := D3.out.f 4
      simp at c4
      go_wp2_with fail
      have D4 := Lib.hid (D3.out.store hgs 4 (.int .i64 (-v)) (rset4 ..))
      refine (CC1.out _ D4.out.ps).mono ?_
      rintro e w4 ⟨rfl, h4, g4⟩
      have D5 := Lib.hid (D4.out.step hgs h4 g4)
      clear h4 g4 c4 f4
      go_wp2_with fail
      refine (CD1.out _ D5.out.ps).mono ?_
      rintro e w5 ⟨rfl, h5, g5⟩
      have D6 := Lib.hid (D5.out.step hgs h5 g5)
      clear h5 g5
      have c5 := D6.out.c 5
      have c6 := D6.out.c 6
      have c7 := D6.out.c 7
      have c8 := D6.out.c 8
      have c9 := D6.out.c 9
      have c10 := D6.out.c 10
      have f5 := D6.out.f 5
      have f6 := D6.out.f 6
      have f7 := D6.out.f 7
      have f8 := D6.out.f 8
      have f9 := D6.out.f 9
      have f10 := D6.out.f 10
      simp at c5 c6 c7 c8 c9 c10
      go_wp2_with fail
      have D7 := Lib.hid (D6.out.day hgs 5 (.int .i64 3) (.int .i64 0) (.int .i64 m1) (.int .i64 wk1) (.int .i64 d1) (.int .i64 t1) (rsetS ..))
      clear c5 c6 c7 c8 c9 c10 f5 f6 f7 f8 f9 f10
      refine (CC2.out _ D7.out.ps).mono ?_
      rintro e w6 ⟨rfl, h6, g6⟩
      have D8 := Lib.hid (D7.out.step hgs h6 g6)
      clear h6 g6
      go_wp2_with fail
      refine (CD2.out _ D8.out.ps).mono ?_
      rintro e w7 ⟨rfl, h7, g7⟩
      have D9 := Lib.hid (D8.out.step hgs h7 g7)
      clear h7 g7
      have c11 := D9.out.c 11
      have c12 := D9.out.c 12
      have c13 := D9.out.c 13
      have c14 := D9.out.c 14
      have c15 := D9.out.c 15
      have c16 := D9.out.c 16
      have f11 := D9.out.f 11
      have f12 := D9.out.f 12
      have f13 := D9.out.f 13
      have f14 := D9.out.f 14
      have f15 := D9.out.f 15
      have f16 := D9.out.f 16
      simp at c11 c12 c13 c14 c15 c16
      clear D2 D3 D4 D5 D6 D7 D8
      go_upto_region 9 with fail
      have DA := Lib.hid (D9.out.day hgs 11 (.int .i64 3) (.int .i64 0) (.int .i64 m2) (.int .i64 wk2) (.int .i64 d2) (.int .i64 t2) (rsetE ..))
      clear c11 c12 c13 c14 c15 c16 f11 f12 f13 f14 f15 f16
      generalize ((((((w7.setCell _ _).setCell _ _).setCell _ _).setCell _ _).setCell _ _).setCell _ _) = w8 at *
      obtain ⟨u, hu⟩ : ∃ fs, Tryd.prog.underlying 25 = some (.struct fs) := ⟨_, rfl⟩
      have hi : (Tryd.prog.info? 25).map (·.size) = some 17 := by kernel_rfl
      obtain ⟨r1, r2, r3⟩ := DA.out.res28 hgs (rcells std off true nm (-v) 3 0 m1 wk1 d1 t1 3 0 m2 wk2 d2 t2)
      have hbox := DA.out.box
      have hres := DA.out.res
      have R := Lib.hid (And.intro r1 r2)
      have hsz : (rcells std off true nm (-v) 3 0 m1 wk1 d1 t1 3 0 m2 wk2 d2 t2).size = 17 := rfl
      have h1 : (rcells std off true nm (-v) 3 0 m1 wk1 d1 t1 3 0 m2 wk2 d2 t2).all (·.oneCell') = true := rcells_one ..
      clear r1 r2
      generalize hRC : rcells std off true nm (-v) 3 0 m1 wk1 d1 t1 3 0 m2 wk2 d2 t2 = RC at *
      refine wp_region_list ?_
      refine wpList_load_row rfl 25 (.tmp 3) rfl w.heap.size rfl 25 RC (0, 0) _ hbox hu rfl (by rw [hi, hsz]) ?_
      refine wpList_store_row rfl 25 (.tmp 4) (.tmp 44) rfl (w.heap.size + 1) RC rfl rfl 25 _ hres (by rw [hi, hsz]) (by rw [hsz]; rfl) h1 ?_
      refine wpList_nil ?_
      clear CO CC1 CC2 CD1 CD2 CN D9 DA
      go_wp2_with fail
      refine bodyPost_ret (results_cell_row (fn := Tryd.f28) (p := 4) (ty := 25) rfl _ _ (w.heap.size + 1) 25 RC (0, 0) _ rfl r3 hu rfl (by rw [hi, hsz])) rfl ⟨by rw [hRC], R.out⟩
end Go.Proofs.YtifnpclcnlgecaaDoor
