/- What the writer's number and day write. -/
import Derived.Test.YtifnpclcnlgecaaDoorBld
import Derived.Deep.RegionWith
import Derived.BigRegion
set_option linter.unusedVariables false
namespace Go.Proofs.YtifnpclcnlgecaaDoor
open Go Go.RowKit

/-- The table lies below B. -/
structure TabB (B : Nat) (w : World) : Prop where
  tab : Tab w
  lt : ∀ g, Tryd.prog.globalNamed "internal/strconv.uint64pow10" = some g → g < B

theorem TabB.below {B : Nat} {w w' : World} (h : TabB B w) (hb : Below B w w') : TabB B w' := by
  refine ⟨?_, h.lt⟩
  have ht := h.tab
  unfold Tab Lib.TabIs World.var? at ht ⊢
  cases hg : Tryd.prog.globalNamed "internal/strconv.uint64pow10" with
  | none => simp [hg] at ht
  | some g =>
    simp only [hg, Option.bind_some] at ht ⊢
    rw [hb.block g (h.lt g hg)]; exact ht

theorem tabB_of (w : World) (h : Tab w) : TabB w.heap.size w := by
  refine ⟨h, fun g hg => ?_⟩
  unfold Tab Lib.TabIs World.var? at h
  simp only [hg, Option.bind_some] at h
  cases hw : w.heap[g]? with
  | none => simp [hw] at h
  | some o => exact (Array.getElem?_eq_some_iff.1 hw).1

/-- The writer, the table, and what was there when the call began. -/
structure St (w0 : World) (b : Nat) (l : List UInt8) (w : World) : Prop where
  isw : IsW w0.heap.size b l w
  tab : TabB w0.heap.size w
  below : Below w0.heap.size w0 w

theorem St.after {w0 w w' : World} {b : Nat} {l l' : List UInt8} (h : St w0 b l w) (hw : IsW w0.heap.size b l' w') (hb : Below w0.heap.size w w') : St w0 b l' w' :=
  ⟨hw, h.tab.below hb, h.below.trans hb⟩

theorem isW_below {B b : Nat} {l : List UInt8} {w w' : World} (h : IsW B b l w) (hb : Below w.heap.size w w') : IsW B b l w' := by
  have key : ∀ p, Lib.BuilderAt 40 5 B b p (Lib.byteCells l) w → Lib.BuilderAt 40 5 B b p (Lib.byteCells l) w' := by
    intro p hp
    have hlt := hp.lt
    obtain ⟨hB, v, hk, hown, hne⟩ := hp
    refine ⟨hB, v, by rw [hb.block b hlt]; exact hk, ?_, hne⟩
    exact hown.kept (row := none) ⟨hb.os, hb.tape, hb.output, hb.size, fun i hi _ => hb.block i hi⟩ (by
      by_cases hv : v.ownBlock = none
      · exact .inl hv
      · exact .inr hv)
  rcases h with h | h
  · exact .inl (key _ h)
  · exact .inr (key _ h)

/-- A call that makes memory of its own leaves the writer as it is. -/
theorem St.calm {w0 w w' : World} {b : Nat} {l : List UInt8} (h : St w0 b l w) (hb : Below w.heap.size w w') : St w0 b l w' :=
  h.after (isW_below h.isw hb) (hb.mono h.below.size)

theorem below_alloc' (w : World) (o : Obj) : Below w.heap.size w (w.alloc o) := (Below.refl _ _).alloc (Nat.le_refl _) o

theorem St.drew {w0 w : World} {b : Nat} {l : List UInt8} (h : St w0 b l w) : St w0 b l w.drew :=
  h.calm ⟨rfl, rfl, rfl, Nat.le_refl _, fun _ _ => rfl⟩

theorem St.write {w0 w : World} {b : Nat} {l : List UInt8} (h : St w0 b l w) (m : List UInt8) (s : ByteArray) (hs : s = ⟨m.toArray⟩) (hlen : l.length + m.length ≤ 100000) :
    Calls Tryd.prog 13 #[.pointer (some ⟨b, 0, none⟩), .string s] w fun e w' => e = .returned (.tuple #[.int .i64 m.length, .nilIface]) ∧ St w0 b (l ++ m) w' ∧ Keep b w w' :=
  (write_calls w0.heap.size b l m s hs w h.isw hlen h.below.size).mono fun _ _ ⟨he, hw, hb, hk⟩ => ⟨he, h.after hw hb, hk⟩

theorem keep_drew (b : Nat) (w : World) : Keep b w w.drew := fun _ _ _ _ _ _ e => e

set_option maxHeartbeats 1000000 in
theorem number_calls (w0 : World) (b : Nat) (l p : List UInt8) (s : ByteArray) (hs : s = ⟨p.toArray⟩) (n : Int) (h0 : -9223372036854775808 ≤ n) (h1 : n ≤ 9223372036854775807) (w : World) (h : St w0 b l w) (hlen : l.length + p.length ≤ 90000) :
    Calls Tryd.prog 24 #[.pointer (some ⟨b, 0, none⟩), .string s, .int .i64 n] w fun e w' => e = .returned (.tuple #[]) ∧ St w0 b (l ++ (p ++ Lib.itoa n)) w' ∧ Keep b w w' := by
  have hl := itoa_len n h0 h1
  have ci := fun (w : World) (ht : Tab w) => itoa_calls n h0 h1 w ht
  generalize Lib.itoa n = m at *
  have CI := Lib.hid ci
  have HS := Lib.hid hs
  have H := Lib.hid h
  clear ci hs h
  go_enter Tryd.func24, Tryd.ntmps24
  go_wp2_with fail
  refine (H.out.write p s HS.out (by omega)).mono ?_
  rintro e w1 ⟨rfl, h1, k1⟩
  have H1 := Lib.hid h1
  have K1 := Lib.hid k1
  clear h1 k1
  go_wp2_with fail
  go_region_with (first
    | (go_at_call 22; refine (CI.out _ H1.out.drew.tab.tab).mono ?_; rintro e w2 ⟨rfl, hb2⟩; have H2 := Lib.hid (H1.out.drew.calm hb2); have K2 := Lib.hid (K1.out.trans ((keep_drew b w1).trans (Keep.of_below hb2))); clear hb2)
    | (go_at_call 13; refine (H2.out.write m _ rfl (by simp; omega)).mono ?_; rintro e w3 ⟨rfl, h3, k3⟩; have H3 := Lib.hid h3; have K3 := Lib.hid (K2.out.trans k3); clear h3 k3))
  all_goals
    go_end0
    exact ⟨rfl, by have := H3.out; simpa using this, K3.out⟩

/-- The boxed rule day. -/
structure Boxed (b x : Nat) (cs : Array Value) (T : TypeId) (w : World) : Prop where
  ne : x ≠ b
  hT : T ≠ 5
  at_ : w.heap[x]? = some (.cells cs T (0, 0))

theorem Boxed.keep {b x : Nat} {cs : Array Value} {T : TypeId} {w w' : World} (h : Boxed b x cs T w) (k : Keep b w w') : Boxed b x cs T w' := ⟨h.ne, h.hT, k x cs T (0, 0) h.ne h.hT h.at_⟩
theorem Boxed.cell {b x : Nat} {cs : Array Value} {T : TypeId} {w : World} (h : Boxed b x cs T w) (j : Nat) : w.cell? ⟨x, j, none⟩ = cs[j]? := Lib.cell_of_heap h.at_ j

theorem St.lt {w0 w : World} {b : Nat} {l : List UInt8} (h : St w0 b l w) : b < w.heap.size := by
  rcases h.isw with h | h <;> exact h.lt

theorem boxed_new {w0 w : World} {b : Nat} {l : List UInt8} (h : St w0 b l w) (cs : Array Value) (T : TypeId) (hT : T ≠ 5) : Boxed b w.heap.size cs T (w.alloc (.cells cs T)) :=
  ⟨by have := h.lt; omega, hT, by show (w.heap.push _)[w.heap.size]? = _; simp⟩

theorem keep_alloc (b : Nat) (w : World) (o : Obj) : Keep b w (w.alloc o) := Keep.of_below (below_alloc' w o)

theorem fmtDate_len (d : RDay) (l0 : (Lib.itoa d.day).length ≤ 21) (l1 : (Lib.itoa d.month).length ≤ 21) (l2 : (Lib.itoa d.week).length ≤ 21) (l3 : (Lib.itoa d.wday).length ≤ 21) : (fmtDate d).length ≤ 66 := by
  unfold fmtDate
  split
  · simp; omega
  · split
    · omega
    · simp; omega

/-- A rule day whose numbers are of their kinds, the time below a million. -/
structure DayOk (d : RDay) : Prop where
  d0 : -9223372036854775808 ≤ d.day
  d1 : d.day ≤ 9223372036854775807
  m0 : -9223372036854775808 ≤ d.month
  m1 : d.month ≤ 9223372036854775807
  k0 : -9223372036854775808 ≤ d.week
  k1 : d.week ≤ 9223372036854775807
  w0 : -9223372036854775808 ≤ d.wday
  w1 : d.wday ≤ 9223372036854775807
  t0 : -1000000 < d.time
  t1 : d.time < 1000000

theorem fmtDay_len (d : RDay) (h : DayOk d) : (fmtDay d).length ≤ 100 := by
  have h1 := fmtDate_len d (itoa_len _ h.d0 h.d1) (itoa_len _ h.m0 h.m1) (itoa_len _ h.k0 h.k1) (itoa_len _ h.w0 h.w1)
  have h2 := fmtHms_len d.time h.t0 h.t1
  unfold fmtDay
  split <;> simp <;> omega

/-- The rule day as a value. -/
abbrev RDay.cells (d : RDay) : Array Value := #[.int .i64 d.kind, .int .i64 d.day, .int .i64 d.month, .int .i64 d.week, .int .i64 d.wday, .int .i64 d.time]

set_option maxHeartbeats 2000000 in
set_option maxRecDepth 100000 in
theorem wday_calls (w0 : World) (b : Nat) (l : List UInt8) (d : RDay) (hd : DayOk d) (w : World) (h : St w0 b l w) (hlen : l.length ≤ 80000) :
    Calls Tryd.prog 17 #[.pointer (some ⟨b, 0, none⟩), .agg d.cells] w fun e w' => e = .returned (.tuple #[]) ∧ St w0 b (l ++ fmtDay d) w' ∧ Keep b w w' := by
  obtain ⟨k, dd, m, wk, wd, t⟩ := d
  have hfd := fmtDate_len ⟨k, dd, m, wk, wd, t⟩ (itoa_len _ hd.d0 hd.d1) (itoa_len _ hd.m0 hd.m1) (itoa_len _ hd.k0 hd.k1) (itoa_len _ hd.w0 hd.w1)
  have HD := Lib.hid hd
  clear hd
  have e1 : (k == 1) = true → fmtDate ⟨k, dd, m, wk, wd, t⟩ = [74] ++ Lib.itoa dd := fun h => by unfold fmtDate; rw [if_pos (by simpa using h)]; rfl
  have e2 : (k == 1) = false → (k == 2) = true → fmtDate ⟨k, dd, m, wk, wd, t⟩ = [] ++ Lib.itoa dd := fun h h' => by unfold fmtDate; rw [if_neg (by simpa using h), if_pos (by simpa using h')]; rfl
  have e3 : (k == 1) = false → (k == 2) = false → fmtDate ⟨k, dd, m, wk, wd, t⟩ = ([77] ++ Lib.itoa m) ++ ([46] ++ Lib.itoa wk) ++ ([46] ++ Lib.itoa wd) := fun h h' => by unfold fmtDate; rw [if_neg (by simpa using h), if_neg (by simpa using h')]; rfl
  have eD : fmtDay ⟨k, dd, m, wk, wd, t⟩ = fmtDate ⟨k, dd, m, wk, wd, t⟩ ++ if t = 7200 then [] else 47 :: fmtHms t := rfl
  have l4 := fmtHms_len t HD.out.t0 HD.out.t1
  have ct := fun (w : World) (ht : Tab w) => hms_calls t HD.out.t0 HD.out.t1 w ht
  have l0 := itoa_len dd HD.out.d0 HD.out.d1
  have l1 := itoa_len m HD.out.m0 HD.out.m1
  have l2 := itoa_len wk HD.out.k0 HD.out.k1
  have l3 := itoa_len wd HD.out.w0 HD.out.w1
  generalize fmtDay ⟨k, dd, m, wk, wd, t⟩ = fday at *
  generalize fmtDate ⟨k, dd, m, wk, wd, t⟩ = fdate at *
  generalize fmtHms t = ft at *
  have E1 := Lib.hid e1
  have E2 := Lib.hid e2
  have E3 := Lib.hid e3
  have ED := Lib.hid eD
  have CT := Lib.hid ct
  clear e1 e2 e3 eD ct
  have H := Lib.hid (show St w0 b l (w.alloc (.cells #[.int .i64 k, .int .i64 dd, .int .i64 m, .int .i64 wk, .int .i64 wd, .int .i64 t] 23)) from h.calm (below_alloc' _ _))
  have B := Lib.hid (boxed_new h #[.int .i64 k, .int .i64 dd, .int .i64 m, .int .i64 wk, .int .i64 wd, .int .i64 t] 23 (by decide))
  have K := Lib.hid (keep_alloc b w (.cells #[.int .i64 k, .int .i64 dd, .int .i64 m, .int .i64 wk, .int .i64 wd, .int .i64 t] 23))
  clear h
  go_enter Tryd.func17, Tryd.ntmps17
  go_wp2_with fail
  all_goals first
    | (have hk : (k == 1) = true := by assumption
       refine (number_calls w0 b l [74] _ rfl dd HD.out.d0 HD.out.d1 _ H.out (by simp; omega)).mono ?_
       rintro e w1 ⟨rfl, h1, q1⟩
       rw [← E1.out hk] at h1
       have H1 := Lib.hid h1
       have B1 := Lib.hid (B.out.keep q1)
       have K1 := Lib.hid (K.out.trans q1)
       clear h1 q1
       have c5 := B1.out.cell 5
       simp at c5
       go_wp2_with fail)
    | (have hk : (k == 1) = false := by assumption
       have hk2 : (k == 2) = true := by assumption
       refine (number_calls w0 b l [] _ rfl dd HD.out.d0 HD.out.d1 _ H.out (by simp; omega)).mono ?_
       rintro e w1 ⟨rfl, h1, q1⟩
       rw [← E2.out hk hk2] at h1
       have H1 := Lib.hid h1
       have B1 := Lib.hid (B.out.keep q1)
       have K1 := Lib.hid (K.out.trans q1)
       clear h1 q1
       have c5 := B1.out.cell 5
       simp at c5
       go_wp2_with fail)
    | (have hk : (k == 1) = false := by assumption
       have hk2 : (k == 2) = false := by assumption
       refine (number_calls w0 b l [77] _ rfl m HD.out.m0 HD.out.m1 _ H.out (by simp; omega)).mono ?_
       rintro e w2 ⟨rfl, h2, q2⟩
       have H2 := Lib.hid h2
       have B2 := Lib.hid (B.out.keep q2)
       have K2 := Lib.hid (K.out.trans q2)
       clear h2 q2
       have c3 := B2.out.cell 3
       simp at c3
       go_wp2_with fail
       refine (number_calls w0 b _ [46] _ rfl wk HD.out.k0 HD.out.k1 _ H2.out (by simp; omega)).mono ?_
       rintro e w3 ⟨rfl, h3, q3⟩
       have H3 := Lib.hid h3
       have B3 := Lib.hid (B2.out.keep q3)
       have K3 := Lib.hid (K2.out.trans q3)
       clear h3 q3 c3
       have c4 := B3.out.cell 4
       simp at c4
       go_wp2_with fail
       refine (number_calls w0 b _ [46] _ rfl wd HD.out.w0 HD.out.w1 _ H3.out (by simp; omega)).mono ?_
       rintro e w1 ⟨rfl, h1, q1⟩
       rw [show l ++ ([77] ++ Lib.itoa m) ++ ([46] ++ Lib.itoa wk) ++ ([46] ++ Lib.itoa wd) = l ++ fdate from by rw [E3.out hk hk2]; simp] at h1
       have H1 := Lib.hid h1
       have B1 := Lib.hid (B3.out.keep q1)
       have K1 := Lib.hid (K3.out.trans q1)
       clear h1 q1 c4
       have c5 := B1.out.cell 5
       simp at c5
       go_wp2_with fail)
  all_goals first
    | (have ht : (t != 7200) = true := by assumption
       have hF : ft.length + 1 ≤ 34 := by omega
       have ED' := Lib.hid (show fday = fdate ++ (47 :: ft) from by rw [ED.out, if_neg (by simpa using ht)])
       go_region_with (first
         | (go_at_call 15; refine (CT.out _ H1.out.drew.tab.tab).mono ?_; rintro e w5 ⟨rfl, hb5⟩; have H5 := Lib.hid (H1.out.drew.calm hb5); have K5 := Lib.hid (K1.out.trans ((keep_drew b _).trans (Keep.of_below hb5))); clear hb5)
         | (go_at_call 13; refine (H5.out.write (47 :: ft) _ (ba_append [47] ft) (by simp; omega)).mono ?_; rintro e w6 ⟨rfl, h6, k6⟩; have H6 := Lib.hid h6; have K6 := Lib.hid (K5.out.trans k6); clear h6 k6))
       all_goals (go_end0; exact ⟨rfl, by rw [ED'.out]; have := H6.out; simpa using this, K6.out⟩))
    | (have ht : (t != 7200) = false := by assumption
       have ED' := Lib.hid (show fday = fdate from by rw [ED.out, if_pos (by simpa using ht)]; simp)
       go_end0
       exact ⟨rfl, by rw [ED'.out]; exact H1.out, K1.out⟩)
end Go.Proofs.YtifnpclcnlgecaaDoor
