/- posixtz.Parse at "EST+5:00EDT4,M03.2.0/02,M11.1.0". -/
import Derived.Test.YtifnpclcnlgecaaDoorLay
import Derived.BigFrame
import Derived.Laws.CopyOwn
import Derived.Laws.CopyOwn
import Derived.BigFrame
set_option linter.unusedVariables false
set_option linter.unusedSimpArgs false
namespace Go.Proofs.YtifnpclcnlgecaaDoor
open Go Go.RowKit

theorem est_alpha : ∀ i (h : i < (⟨#[69, 83, 84]⟩ : ByteArray).size), alpha (⟨#[69, 83, 84]⟩ : ByteArray)[i] = true := by
  intro i h
  have : i = 0 ∨ i = 1 ∨ i = 2 := by have : i < 3 := h; omega
  rcases this with rfl | rfl | rfl <;> (revert h; decide +kernel)
theorem edt_alpha : ∀ i (h : i < (⟨#[69, 68, 84]⟩ : ByteArray).size), alpha (⟨#[69, 68, 84]⟩ : ByteArray)[i] = true := by
  intro i h
  have : i = 0 ∨ i = 1 ∨ i = 2 := by have : i < 3 := h; omega
  rcases this with rfl | rfl | rfl <;> (revert h; decide +kernel)

theorem PT.row {s : ByteArray} {k : Int} {cs : Array Value} {w wc : World} (h : PT s k cs w wc) (cs' : Array Value) : PT s k cs' w (wc.setRow w.heap.size cs') := by
  refine ⟨?_, ⟨setRow_heap _ _ _ _ _ _ h.res.r, ?_, ?_⟩, below_setRow h.bl (Nat.le_refl _) cs', by have := h.sz; rw [size_setRow]; exact this⟩
  · unfold PS; rw [setRow_other _ _ _ _ (by omega)]; exact h.ps
  · rw [setRow_other _ _ _ _ (by omega)]; exact h.res.y
  · rw [setRow_other _ _ _ _ (by omega)]; exact h.res.z

set_option maxHeartbeats 8000000 in
set_option maxRecDepth 100000 in
theorem parse_long (w : World) :
    Calls Tryd.prog 18 #[.string long] w fun e w' => e = .returned (.tuple #[.agg (rcells ⟨#[69, 83, 84]⟩ (-18000) true ⟨#[69, 68, 84]⟩ (-14400) 3 0 3 2 0 7200 3 0 11 1 0 7200), .int .i64 0, .int .i64 0]) ∧ Below w.heap.size w w' := by
  have hmf : ∀ (fn : Fn) (first cap : Array Value) (w : World), (Instr.makeFunc fn first cap).run Tryd.prog w = .ok (.func fn first cap) w := fun _ _ _ _ => rfl
  have P0 := Lib.hid (PT.start long w)
  have CN := Lib.hid (pname_calls (w.heap.size + 3) long 0 3 (by decide) (by decide) long_name)
  have CO := Lib.hid (poffset_calls (w.heap.size + 3) long 3 18000 ((5 : Nat) : Int) (by decide) (by decide) long_pre long_off (by decide) (by decide))
  have CD := Lib.hid (dst_yes (w.heap.size + 3) long 8 3 11 12 13 23 24 31 14400 3 2 0 7200 11 1 0 7200 ⟨#[69, 83, 84]⟩ (-18000) (by decide) (by decide) (by decide) long_dst rfl (by decide) long_pre2 1 long_off2 (by decide) rfl long_c1 rfl (by decide) 10 long_d1 long_o1 rfl long_c2 rfl (by decide) 7 long_d2 long_o2 rfl (by decide))
  have CV : Hid (∀ w, Calls Tryd.prog 30 #[.agg (rcells ⟨#[69, 83, 84]⟩ (-18000) true ⟨#[69, 68, 84]⟩ (-14400) 3 0 3 2 0 7200 3 0 11 1 0 7200)] w fun e w' => e = .returned (.bool true) ∧ Below w.heap.size w w') := Lib.hid (valid_yes ⟨#[69, 83, 84]⟩ ⟨#[69, 68, 84]⟩ (-18000) (-14400) 3 2 0 7200 11 1 0 7200 est_alpha (by decide) edt_alpha (by decide) (by decide) (by decide) long_o1 long_o2)
  have CM := Lib.hid (must_ok (w.heap.size + 3) long 31 0 (by decide) (by decide))
  rw [long_std] at CN
  rw [long_dstn] at CD
  have hsz : (long.size : Int) = 31 := rfl
  have hs : long.size = 31 := rfl
  generalize long = s at *
  go_enter_defers Tryd.func18, Tryd.ntmps18
  go_wp2_with fail
  refine (CN.out _ P0.out.ps).mono ?_
  rintro e w1 ⟨rfl, h1, g1⟩
  have P1 := Lib.hid (P0.out.step h1 g1)
  clear h1 g1 P0
  have c0 := P1.out.c 0
  have f0 := P1.out.f 0
  simp at c0
  go_wp2_with fail
  have P2 := Lib.hid (P1.out.store 0 (.string ⟨#[69, 83, 84]⟩) (rset0 ..))
  clear c0 f0 P1
  generalize World.setCell _ _ _ = w2 at *
  refine (CO.out _ P2.out.ps).mono ?_
  rintro e w3 ⟨rfl, h1, g1⟩
  have P3 := Lib.hid (P2.out.step h1 g1)
  clear h1 g1 P2
  have c1 := P3.out.c 1
  have f1 := P3.out.f 1
  simp at c1
  have P4 := Lib.hid (P3.out.store 1 (.int .i64 (-18000)) (rset1 ..))
  have p1 := P4.out.ps.c1
  have hlt : ((3 : Nat) : Int) + ((5 : Nat) : Int) = 8 := rfl
  rw [hlt] at p1
  go_upto_region 6 with fail
  obtain ⟨u, hu⟩ : ∃ fs, Tryd.prog.underlying 25 = some (.struct fs) := ⟨_, rfl⟩
  have hi : (Tryd.prog.info? 25).map (·.size) = some 17 := by kernel_rfl
  have hr := P4.out.res.r
  refine wp_region_list ?_
  refine wpList_plain rfl fun K hK => BigFrame.wp_move (.tmp 5) rfl (hK _ _ ?_)
  refine wpList_load_row rfl 25 (.tmp 2) rfl w.heap.size rfl 25 _ (0, 0) _ hr hu rfl (by rw [hi]; rfl) ?_
  go_wp2_with fail
  refine (CD.out _ (P4.out.ps.at rfl)).mono ?_
  rintro e w5 ⟨rfl, h1, g1⟩
  have P5 := Lib.hid (P4.out.step h1 g1)
  clear h1 g1 P4 P3 p1 c1 f1 hr
  have hr := P5.out.res.r
  simp only []
  go_step
  have hsz2 : (rcells ⟨#[69, 83, 84]⟩ (-18000) true ⟨#[69, 68, 84]⟩ (-14400) 3 0 3 2 0 7200 3 0 11 1 0 7200).size = 17 := rfl
  have hone := rcells_one ⟨#[69, 83, 84]⟩ (-18000) true ⟨#[69, 68, 84]⟩ (-14400) 3 0 3 2 0 7200 3 0 11 1 0 7200
  generalize hRC : rcells ⟨#[69, 83, 84]⟩ (-18000) true ⟨#[69, 68, 84]⟩ (-14400) 3 0 3 2 0 7200 3 0 11 1 0 7200 = RC at *
  refine wpList_store_row rfl 25 (.tmp 2) (.tmp 25) rfl w.heap.size RC rfl rfl 25 _ hr (by rw [hi, hsz2]) (by rw [hsz2]; rfl) hone ?_
  have P6 := Lib.hid (P5.out.row RC)
  clear P5 hr CN CO CD
  generalize World.setRow _ _ _ = w6 at *
  have p1 := P6.out.ps.c1
  have hr := P6.out.res.r
  repeat (first
    | (refine BigFrame.wpList_want rfl fun K hK => wp_load_row 25 (.tmp 2) rfl w.heap.size rfl 25 RC (0, 0) _ hr hu rfl (by rw [hi, hsz2]) (hK _ _ ?_))
    | go_values | go_skip | go_guarded | go_step | go_upon | go_back)
  refine (CV.out _).mono ?_
  rintro e w7 ⟨rfl, b7⟩
  have P7 := Lib.hid (P6.out.below b7)
  clear b7 hr
  go_wp2_with fail
  refine (CM.out _ (P7.out.ps.at rfl)).mono ?_
  rintro e w8 ⟨rfl, h1, g1⟩
  have P8 := Lib.hid (P7.out.step h1 g1)
  clear h1 g1 P7 P6 p1
  go_upto_region 8 with fail
  have cy := Lib.cell_of_heap P8.out.res.y 0
  have fy := Lib.frozen_of_heap P8.out.res.y 0
  have cz := Lib.cell_of_heap P8.out.res.z 0
  have fz := Lib.frozen_of_heap P8.out.res.z 0
  simp at cy cz
  have P9 := Lib.hid P8.out.yz
  have hr := P8.out.res.r
  have hrs := setRow_self _ _ _ _ _ hr
  refine wp_region_list ?_
  refine wpList_load_row rfl 25 (.tmp 2) rfl w.heap.size rfl 25 RC (0, 0) _ hr hu rfl (by rw [hi, hsz2]) ?_
  refine wpList_store_row rfl 25 (.tmp 2) (.tmp 39) rfl w.heap.size RC rfl rfl 25 _ hr (by rw [hi, hsz2]) rfl hone ?_
  rw [hrs]
  go_wp2_with fail
  refine leaves_cons (f := 25) (args := #[.pointer (some ⟨w.heap.size, 0, none⟩), .pointer (some ⟨w.heap.size + 1, 0, none⟩), .pointer (some ⟨w.heap.size + 2, 0, none⟩)]) (by simp) (by simp [go_sem]) ?_
  refine (catch_idle w.heap.size _).mono ?_
  rintro e u' w6 ⟨rfl, rfl, rfl⟩
  have p9 := P9.out
  rw [← hRC] at p9
  exact ⟨_, res18 _ _ w.heap.size _ _ _ _ _ _ _ _ _ _ _ _ _ _ _ _ _ _ _ rfl rfl rfl p9.1, by rw [hRC], p9.2⟩
end Go.Proofs.YtifnpclcnlgecaaDoor
