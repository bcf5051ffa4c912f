/- What tzformat.Day and tzformat.Format return. -/
import Derived.Test.YtifnpclcnlgecaaDoorDay
import Derived.Test.YtifnpclcnlgecaaDoorName
import Derived.LoopN
import Derived.IntWalk
import Derived.Deep.DeepMust
import Derived.Deep.DeepCutAuto
set_option linter.unusedVariables false
namespace Go.Proofs.YtifnpclcnlgecaaDoor
open Go Go.RowKit

/-- The rule as a value. -/
abbrev RRule.cells (r : RRule) : Array Value := #[.string r.std, .int .i64 r.stdOff, .bool r.hasDst, .string r.dst, .int .i64 r.dstOff,
  .int .i64 r.start.kind, .int .i64 r.start.day, .int .i64 r.start.month, .int .i64 r.start.week, .int .i64 r.start.wday, .int .i64 r.start.time,
  .int .i64 r.fin.kind, .int .i64 r.fin.day, .int .i64 r.fin.month, .int .i64 r.fin.week, .int .i64 r.fin.wday, .int .i64 r.fin.time]

structure NameOk (s : ByteArray) : Prop where
  ascii : ∀ i (h : i < s.size), (s[i]).toNat < 128
  size : s.size ≤ 1000

structure RuleOk (r : RRule) : Prop where
  std : NameOk r.std
  s0 : -100000 < r.stdOff
  s1 : r.stdOff < 100000
  dst : r.hasDst = true → NameOk r.dst ∧ -100000 < r.dstOff ∧ r.dstOff < 100000 ∧ DayOk r.start ∧ DayOk r.fin

/-- A fresh writer. -/
theorem st_fresh (w W : World) (b : Nat) (hW : W.heap.size = b) (hb : Below w.heap.size w W) (ht : Tab w) : St w b [] (W.alloc (.cells #[.pointer none, .slice none 0 0] 40)) := by
  subst hW
  refine ⟨?_, (tabB_of w ht).below (hb.trans ((below_alloc' _ _).mono hb.size)), hb.trans ((below_alloc' _ _).mono hb.size)⟩
  rcases Lib.fresh_isBuilder 40 5 W with h | h
  · obtain ⟨h1, v, h2, h3, h4⟩ := h
    exact .inl ⟨hb.size, v, h2, ⟨h3.1, h3.2.imp id (fun ⟨g, cap, cur, e, hg, r⟩ => ⟨g, cap, cur, e, Nat.le_trans hb.size hg, r⟩)⟩, h4⟩
  · obtain ⟨h1, v, h2, h3, h4⟩ := h
    exact .inr ⟨hb.size, v, h2, ⟨h3.1, h3.2.imp id (fun ⟨g, cap, cur, e, hg, r⟩ => ⟨g, cap, cur, e, Nat.le_trans hb.size hg, r⟩)⟩, h4⟩

theorem St.string {w0 w : World} {b : Nat} {l : List UInt8} (h : St w0 b l w) (hl : l ≠ []) :
    Calls Tryd.prog 16 #[.pointer (some ⟨b, 0, none⟩)] w (Gives w0 l) :=
  (string_calls w0.heap.size b l w h.isw hl).mono fun _ _ ⟨he, hb⟩ => ⟨he, h.below.trans hb⟩

theorem fmtDay_ne (d : RDay) : fmtDay d ≠ [] := by
  unfold fmtDay fmtDate
  have hi : Lib.itoa d.day ≠ [] := by unfold Lib.itoa; split <;> simp [decDigits_ne]
  split
  · simp
  · split
    · simp [hi]
    · simp

set_option maxHeartbeats 1000000 in
theorem fday_calls (d : RDay) (hd : DayOk d) (w : World) (ht : Tab w) : Calls Tryd.prog 7 #[.agg d.cells] w (Gives w (fmtDay d)) := by
  have H := Lib.hid (st_fresh w (w.alloc (.cells d.cells 23)) (w.heap.size + 1) (by simp) (below_alloc' _ _) ht)
  have hne := fmtDay_ne d
  clear ht
  go_enter Tryd.func7, Tryd.ntmps7
  go_wp2_with fail
  refine (wday_calls w _ [] d hd _ H.out (by simp)).mono ?_
  rintro e w1 ⟨rfl, h1, _⟩
  have H1 := Lib.hid h1
  clear h1
  go_wp2_with fail
  refine (H1.out.string (by simpa using hne)).mono ?_
  rintro e w2 ⟨rfl, hb⟩
  have HB := Lib.hid hb
  clear hb
  go_wp2_with fail
  go_ret
  exact ⟨rfl, HB.out⟩


theorem name_gives (s : ByteArray) (h : NameOk s) (w : World) : Calls Tryd.prog 14 #[.string s] w (Gives w (fmtName s.data.toList)) :=
  name_calls s h.ascii (by have := h.size; omega) w

theorem boxed_rule (r : RRule) (w : World) : Boxed (w.heap.size + 1) w.heap.size r.cells 25 ((w.alloc (.cells r.cells 25)).alloc (.cells #[.pointer none, .slice none 0 0] 40)) :=
  ⟨by omega, by decide, by
    rw [Below.heap_alloc _ _ _ (by simp)]
    show (w.heap.push _)[w.heap.size]? = _
    simp⟩

set_option maxHeartbeats 2000000 in
set_option maxRecDepth 100000 in
theorem format_std (r : RRule) (hr : RuleOk r) (hd : r.hasDst = false) (w : World) (ht : Tab w) : Calls Tryd.prog 6 #[.agg r.cells] w (Gives w (fmtStd r)) := by
  have H := Lib.hid (st_fresh w (w.alloc (.cells r.cells 25)) (w.heap.size + 1) (by simp) (below_alloc' _ _) ht)
  have HB := Lib.hid (boxed_rule r w)
  clear ht
  have HR := Lib.hid hr
  clear hr
  have ls := fmtName_len r.std.data.toList
  have lh := fmtHms_len (-r.stdOff) (by have := HR.out.s1; omega) (by have := HR.out.s0; omega)
  have cn := name_gives r.std HR.out.std
  have ch := fun (w : World) (ht : Tab w) => hms_calls (-r.stdOff) (by have := HR.out.s1; omega) (by have := HR.out.s0; omega) w ht
  have es : fmtStd r = fmtName r.std.data.toList ++ fmtHms (-r.stdOff) := rfl
  have hsz : r.std.data.toList.length ≤ 1000 := by have := HR.out.std.size; rw [Array.length_toList]; exact this
  have hne : fmtStd r ≠ [] := by rw [es]; unfold fmtHms fmtPos; split <;> simp [decDigits_ne]
  have b0 : -100000 < r.stdOff := HR.out.s0
  have b1 : r.stdOff < 100000 := HR.out.s1
  generalize fmtStd r = sd at *
  generalize fmtName r.std.data.toList = nm at *
  generalize fmtHms (-r.stdOff) = hm at *
  have WN := Lib.hid (show IntKind.i64.wrap (-r.stdOff) = -r.stdOff from IntWalk.i64_in _ (by omega))
  have CN := Lib.hid cn
  have CH := Lib.hid ch
  have ES := Lib.hid es
  have DD := Lib.hid hd
  clear cn ch es hd
  go_enter Tryd.func6, Tryd.ntmps6
  go_upto_region 2 with fail
  go_cut [] (fun wc => Hid (St w (w.heap.size + 1) sd wc) ∧ Hid (Boxed (w.heap.size + 1) w.heap.size r.cells 25 wc))
  case first =>
    go_region_with (first
      | (go_at_call 14; refine (CN.out _).mono ?_; rintro e w2 ⟨rfl, hb2⟩; have H2 := Lib.hid (H.out.drew.calm hb2); have B2 := Lib.hid ((HB.out.keep (keep_drew _ _)).keep (Keep.of_below hb2)); have c1 := B2.out.cell 1; simp at c1; clear hb2)
      | (go_at_call 15; rw [WN.out]; refine (CH.out _ H2.out.tab.tab).mono ?_; rintro e w3 ⟨rfl, hb3⟩; have H3 := Lib.hid (H2.out.calm hb3); have B3 := Lib.hid (B2.out.keep (Keep.of_below hb3)); clear hb3)
      | (go_at_call 13; refine (H3.out.write sd _ (by rw [ES.out, ba_append]) (by rw [ES.out]; simp; omega)).mono ?_; rintro e w4 ⟨rfl, h4, k4⟩; have H4 := Lib.hid h4; have B4 := Lib.hid (B3.out.keep k4); clear h4 k4))
    all_goals (go_wp2_with fail; go_meet; exact ⟨by simpa using H4, B4⟩)
  case rest =>
    obtain ⟨H4, B4⟩ := hcut
    have c2 := B4.out.cell 2
    simp at c2
    rw [DD.out] at c2
    go_wp2_with fail
    refine (H4.out.string hne).mono ?_
    rintro e w5 ⟨rfl, hb⟩
    have HB5 := Lib.hid hb
    clear hb
    go_wp2_with fail
    go_ret
    exact ⟨rfl, HB5.out⟩

end Go.Proofs.YtifnpclcnlgecaaDoor
