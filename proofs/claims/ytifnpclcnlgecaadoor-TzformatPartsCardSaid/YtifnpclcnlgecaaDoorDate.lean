/- What posixtz.date and Day compute at a day of the form Mm.w.d. -/
import Derived.Test.YtifnpclcnlgecaaDoorNumber
import Derived.Laws.Strings
set_option linter.unusedVariables false
namespace Go.Proofs.YtifnpclcnlgecaaDoor
open Go Go.RowKit

/-- A text that begins with Mm.w.d; behind it stands place k. -/
structure IsM (s : ByteArray) (m wk d : Int) (k : Nat) where
  size : s.size < 1000000
  a : Nat
  b : Nat
  c : Nat
  m0 : byteAt s 0 = 77
  nm : Num (s.extract 1 s.size) m a
  d1 : byteAt s (a + 1) = 46
  nw : Num (s.extract (a + 1 + 1) s.size) wk b
  d2 : byteAt s (a + 1 + 1 + b) = 46
  nd : Num (s.extract (a + 1 + 1 + b + 1) s.size) d c
  k : k = a + 1 + 1 + b + 1 + c

theorem ret_day {v : Value} {x y : Int} (h : x = y) : Ending.returned (.tuple #[v, .int .i64 x, .bool true]) = .returned (.tuple #[v, .int .i64 y, .bool true]) := by rw [h]

theorem byteAt_in {s : ByteArray} {i c : Nat} (h : byteAt s i = c) (hc : c ≠ 0) : i < s.size := by
  by_cases hi : i < s.size
  · exact hi
  · rw [byteAt_ge s i hi] at h; exact absurd h.symm hc

theorem num_bd {s : ByteArray} {v n : Int} (h : Num s v n) : 0 ≤ v ∧ v ≤ 99 ∧ 1 ≤ n ∧ n ≤ 2 := by
  cases h with
  | one v h0 h1 => obtain ⟨_, _, a, b⟩ := dig_yes h0; omega
  | two v u h0 h1 h2 => obtain ⟨_, _, a, b⟩ := dig_yes h0; obtain ⟨_, _, a', b'⟩ := dig_yes h1; omega

set_option maxHeartbeats 2000000 in
set_option maxRecDepth 100000 in
theorem date_calls (s : ByteArray) (m wk d : Int) (k : Nat) (h : IsM s m wk d k) (w : World) :
    Calls Tryd.prog 57 #[.string s] w fun e w' => e = .returned (.tuple #[.agg #[.int .i64 3, .int .i64 0, .int .i64 m, .int .i64 wk, .int .i64 d, .int .i64 0], .int .i64 k, .bool true]) ∧ Below w.heap.size w w' := by
  obtain ⟨hz, a, b, c, m0, nm, d1, nw, d2, nd, hk⟩ := h
  have i0 := byteAt_in m0 (by decide)
  have i1 := byteAt_in d1 (by decide)
  have i2 := byteAt_in d2 (by decide)
  have bm := num_bd nm
  have bw := num_bd nw
  have bd := num_bd nd
  have c1 := number_calls' _ _ _ nm
  have c2 := after_calls s ((a : Int) + 1) (a + 1) (by omega) i1 hz d1 wk b nw
  have c3 := after_calls s ((a : Int) + 1 + 1 + b) (a + 1 + 1 + b) (by omega) i2 hz d2 d c nd
  have C1 := Lib.hid c1
  have C2 := Lib.hid c2
  have C3 := Lib.hid c3
  have HK := Lib.hid hk
  rw [byteAt_lt s 0 i0] at m0
  have t1 : (((s[0]).toNat : Int) == 74) = false := by rw [m0]; rfl
  have t2 : (((s[0]).toNat : Int) == 77) = true := by rw [m0]; rfl
  have t0 : s.toList.isEmpty = false := by
    rw [ByteArray.toList_eq]
    cases hl : s.data.toList with
    | nil =>
      have h2 : s.size = s.data.toList.length := (Array.length_toList ..).symm
      rw [hl] at h2
      exact absurd h2 (by simp only [List.length_nil]; omega)
    | cons x l => rfl
  clear c1 c2 c3 nm nw nd d1 d2 m0 hk
  go_enter Tryd.func57, Tryd.ntmps57
  go_wp2_with fail
  refine (C1.out _).mono ?_
  rintro e w1 ⟨rfl, rfl⟩
  go_wp2_with fail
  refine (C2.out _).mono ?_
  rintro e w1 ⟨rfl, rfl⟩
  go_wp2_with fail
  refine (C3.out _).mono ?_
  rintro e w1 ⟨rfl, rfl⟩
  go_wp2_with fail
  refine bodyPost_ret (v := .tuple #[.agg #[.int .i64 3, .int .i64 0, .int .i64 m, .int .i64 wk, .int .i64 d, .int .i64 0], .int .i64 ((a : Int) + 1 + 1 + b + 1 + c), .bool true]) (by simp [results, Tryd.results57, go_sem]) rfl ⟨ret_day (by have := HK.out; omega), below_alloc' _ _⟩

/-- ruleday.Valid at a day of the form Mm.w.d. -/
def mOk (m wk d t : Int) : Prop := 1 ≤ m ∧ m ≤ 12 ∧ 1 ≤ wk ∧ wk ≤ 5 ∧ 0 ≤ d ∧ d < 7 ∧ -604799 ≤ t ∧ t ≤ 604799

set_option maxHeartbeats 1000000 in
theorem dvalid_calls (m wk d t : Int) (h : mOk m wk d t) (w : World) :
    Calls Tryd.prog 40 #[.agg #[.int .i64 3, .int .i64 0, .int .i64 m, .int .i64 wk, .int .i64 d, .int .i64 t]] w fun e w' => e = .returned (.bool true) ∧ Below w.heap.size w w' := by
  obtain ⟨h1, h2, h3, h4, h5, h6, h7, h8⟩ := h
  go_enter Tryd.func40, Tryd.ntmps40
  go_wp2
  all_goals
    go_ret
    exact ⟨rfl, below_alloc' _ _⟩

/-- A text that begins with a whole day: Mm.w.d, and a time behind '/' or none. -/
inductive IsDay (s : ByteArray) (m wk d t : Int) : Int → Prop
  | bare (k : Nat) : IsM s m wk d k → byteAt s k ≠ 47 → t = 7200 → IsDay s m wk d t k
  | timed (k : Nat) (n : Int) : IsM s m wk d k → byteAt s k = 47 → Lib.hasPrefix (s.extract (k + 1) s.size).data.toList [45] = false → hmsF (s.extract (k + 1) s.size) = (t, n, true) → 0 ≤ n ∧ n < 100 → IsDay s m wk d t (k + 1 + n)

abbrev zdays (k a b c d e : Int) : Array Value := #[.int .i64 k, .int .i64 a, .int .i64 b, .int .i64 c, .int .i64 d, .int .i64 e]

theorem blk_new {w w2 : World} {o : Obj} (h : Below (w.alloc o).heap.size (w.alloc o) w2) : w2.heap[w.heap.size]? = some o := by
  rw [h.block _ (by simp)]
  show (w.heap.push _)[w.heap.size]? = _
  simp

theorem blk_old {w w2 : World} {o o' : Obj} {b : Nat} (h : Below (w.alloc o).heap.size (w.alloc o) w2) (hb : w.heap[b]? = some o') : w2.heap[b]? = some o' := by
  have hlt := (Array.getElem?_eq_some_iff.1 hb).1
  rw [h.block _ (by simp; omega), Below.heap_alloc _ _ _ hlt]
  exact hb

theorem blk_keep {w w2 : World} {o : Obj} {b : Nat} (h : Below w.heap.size w w2) (hb : w.heap[b]? = some o) : w2.heap[b]? = some o := by
  rw [h.block _ (Array.getElem?_eq_some_iff.1 hb).1]
  exact hb

theorem blk_set {w : World} {g : Nat} {t : TypeId} {cs : Array Value} (h : w.heap[g]? = some (.cells cs t (0, 0))) (i : Nat) (u : Value) : (w.setCell ⟨g, i, none⟩ u).heap[g]? = some (.cells (cs.setIfInBounds i u) t (0, 0)) := by
  simp [World.setCell, Array.getElem?_modify, h]

theorem blk_six {w : World} {g : Nat} {k a b c d e : Int} (h : w.heap[g]? = some (.cells (zdays 0 0 0 0 0 0) 23 (0, 0))) :
    ((((((w.setCell ⟨g, 0, none⟩ (.int .i64 k)).setCell ⟨g, 1, none⟩ (.int .i64 a)).setCell ⟨g, 2, none⟩ (.int .i64 b)).setCell ⟨g, 3, none⟩ (.int .i64 c)).setCell ⟨g, 4, none⟩ (.int .i64 d)).setCell ⟨g, 5, none⟩ (.int .i64 e)).heap[g]? = some (.cells (zdays k a b c d e) 23 (0, 0)) :=
  blk_set (blk_set (blk_set (blk_set (blk_set (blk_set h 0 _) 1 _) 2 _) 3 _) 4 _) 5 _

theorem below_six {B : Nat} {w0 w : World} {g : Nat} {k a b c d e : Value} (h : Below B w0 w) (hg : B ≤ g) :
    Below B w0 ((((((w.setCell ⟨g, 0, none⟩ k).setCell ⟨g, 1, none⟩ a).setCell ⟨g, 2, none⟩ b).setCell ⟨g, 3, none⟩ c).setCell ⟨g, 4, none⟩ d).setCell ⟨g, 5, none⟩ e) :=
  (((((h.setCell (p := ⟨g, 0, none⟩) hg _).setCell (p := ⟨g, 1, none⟩) hg _).setCell (p := ⟨g, 2, none⟩) hg _).setCell (p := ⟨g, 3, none⟩) hg _).setCell (p := ⟨g, 4, none⟩) hg _).setCell (p := ⟨g, 5, none⟩) hg _

/-- One more block, and what a call makes behind it. -/
theorem below_next {w0 w w' : World} {o : Obj} (h : Below w0.heap.size w0 w) (k : Below (w.alloc o).heap.size (w.alloc o) w') : Below w0.heap.size w0 w' :=
  (h.alloc h.size o).trans (k.mono (by have := h.size; simp; omega))

theorem res47 (tmps : Array Value) (W : World) (g : Nat) (k a b c d e x : Int) (o : Bool) (h2 : tmps[2]?.getD undef = .pointer (some ⟨g, 0, none⟩)) (h3 : tmps[3]?.getD undef = .int .i64 x) (h4 : tmps[4]?.getD undef = .bool o)
    (hb : W.heap[g]? = some (.cells (zdays k a b c d e) 23 (0, 0))) : (results Tryd.f47 tmps).run Tryd.prog W = .ok (.tuple #[.agg (zdays k a b c d e), .int .i64 x, .bool o]) W := by
  have c0 := Lib.cell_of_heap hb 0
  have c1 := Lib.cell_of_heap hb 1
  have c2 := Lib.cell_of_heap hb 2
  have c3 := Lib.cell_of_heap hb 3
  have c4 := Lib.cell_of_heap hb 4
  have c5 := Lib.cell_of_heap hb 5
  simp at c0 c1 c2 c3 c4 c5
  simp [results, Tryd.results47, go_sem, h2, h3, h4, c0, c1, c2, c3, c4, c5]

set_option maxHeartbeats 2000000 in
set_option maxRecDepth 100000 in
theorem pday_calls (s : ByteArray) (m wk d t x : Int) (h : IsDay s m wk d t x) (ho : mOk m wk d t) (w : World) :
    Calls Tryd.prog 47 #[.string s] w fun e w' => e = .returned (.tuple #[.agg #[.int .i64 3, .int .i64 0, .int .i64 m, .int .i64 wk, .int .i64 d, .int .i64 t], .int .i64 x, .bool true]) ∧ Below w.heap.size w w' := by
  have cv := dvalid_calls m wk d t ho
  have CV := Lib.hid cv
  clear cv ho
  cases h with
  | bare k hm hb ht =>
    subst ht
    have hz := hm.size
    have hkz : k < 1000010 := by have := hm.k; have := byteAt_in hm.d2 (by decide); have := num_bd hm.nd; omega
    have c1 := date_calls s m wk d k hm
    have C1 := Lib.hid c1
    clear c1 hm
    by_cases hk : k < s.size
    · rw [byteAt_lt s k hk] at hb
      have t1 : (((s[k]).toNat : Int) == 47) = false := by simpa using (fun h => hb (by omega))
      clear hb
      go_enter Tryd.func47, Tryd.ntmps47
      go_wp2_with fail
      refine (C1.out _).mono ?_
      rintro e w1 ⟨rfl, hb1⟩
      have HB1 := Lib.hid hb1
      clear hb1
      have g0 := blk_new HB1.out
      have hlt := HB1.out.size
      go_wp2_with fail
      refine (CV.out _).mono ?_
      rintro e w2 ⟨rfl, hb2⟩
      have k1 := blk_new hb2
      have k0 := blk_old hb2 g0
      have HB2 := Lib.hid hb2
      clear hb2
      have c0 := Lib.cell_of_heap k1 0
      have c1 := Lib.cell_of_heap k1 1
      have c2 := Lib.cell_of_heap k1 2
      have c3 := Lib.cell_of_heap k1 3
      have c4 := Lib.cell_of_heap k1 4
      have c5 := Lib.cell_of_heap k1 5
      have z0 := Lib.cell_of_heap k0 0
      have z1 := Lib.cell_of_heap k0 1
      have z2 := Lib.cell_of_heap k0 2
      have z3 := Lib.cell_of_heap k0 3
      have z4 := Lib.cell_of_heap k0 4
      have z5 := Lib.cell_of_heap k0 5
      simp at c0 c1 c2 c3 c4 c5 z0 z1 z2 z3 z4 z5
      have f0 := Lib.frozen_of_heap k0 0
      have f1 := Lib.frozen_of_heap k0 1
      have f2 := Lib.frozen_of_heap k0 2
      have f3 := Lib.frozen_of_heap k0 3
      have f4 := Lib.frozen_of_heap k0 4
      have f5 := Lib.frozen_of_heap k0 5
      have K0 := Lib.hid k0
      clear k0 k1 g0
      go_wp2_with fail
      exact bodyPost_ret (res47 _ _ _ _ _ _ _ _ _ _ _ rfl rfl rfl (blk_six K0.out)) rfl ⟨rfl, below_six (below_next (below_next (Below.refl _ _) HB1.out) HB2.out) (Nat.le_refl _)⟩
    · clear hb
      go_enter Tryd.func47, Tryd.ntmps47
      go_wp2_with fail
      refine (C1.out _).mono ?_
      rintro e w1 ⟨rfl, hb1⟩
      have HB1 := Lib.hid hb1
      clear hb1
      have g0 := blk_new HB1.out
      have hlt := HB1.out.size
      go_wp2_with fail
      refine (CV.out _).mono ?_
      rintro e w2 ⟨rfl, hb2⟩
      have k1 := blk_new hb2
      have k0 := blk_old hb2 g0
      have HB2 := Lib.hid hb2
      clear hb2
      have c0 := Lib.cell_of_heap k1 0
      have c1 := Lib.cell_of_heap k1 1
      have c2 := Lib.cell_of_heap k1 2
      have c3 := Lib.cell_of_heap k1 3
      have c4 := Lib.cell_of_heap k1 4
      have c5 := Lib.cell_of_heap k1 5
      have z0 := Lib.cell_of_heap k0 0
      have z1 := Lib.cell_of_heap k0 1
      have z2 := Lib.cell_of_heap k0 2
      have z3 := Lib.cell_of_heap k0 3
      have z4 := Lib.cell_of_heap k0 4
      have z5 := Lib.cell_of_heap k0 5
      simp at c0 c1 c2 c3 c4 c5 z0 z1 z2 z3 z4 z5
      have f0 := Lib.frozen_of_heap k0 0
      have f1 := Lib.frozen_of_heap k0 1
      have f2 := Lib.frozen_of_heap k0 2
      have f3 := Lib.frozen_of_heap k0 3
      have f4 := Lib.frozen_of_heap k0 4
      have f5 := Lib.frozen_of_heap k0 5
      have K0 := Lib.hid k0
      clear k0 k1 g0
      go_wp2_with fail
      exact bodyPost_ret (res47 _ _ _ _ _ _ _ _ _ _ _ rfl rfl rfl (blk_six K0.out)) rfl ⟨rfl, below_six (below_next (below_next (Below.refl _ _) HB1.out) HB2.out) (Nat.le_refl _)⟩
  | timed k n hm hb hp ht hn =>
    obtain ⟨hn0, hn1⟩ := hn
    have hz := hm.size
    have hk := byteAt_in hb (by decide)
    have c1 := date_calls s m wk d k hm
    have hxs : (s.extract (k + 1) s.size).size < 1000000 := by simp; omega
    have cp := hms_parse _ hxs hp
    rw [ht] at cp
    have C1 := Lib.hid c1
    have CP := Lib.hid cp
    rw [byteAt_lt s k hk] at hb
    have t1 : (((s[k]).toNat : Int) == 47) = true := by rw [hb]; rfl
    clear c1 cp hm hb hp ht hxs
    go_enter Tryd.func47, Tryd.ntmps47
    go_wp2_with fail
    refine (C1.out _).mono ?_
    rintro e w1 ⟨rfl, hb1⟩
    have HB1 := Lib.hid hb1
    clear hb1
    have g0 := blk_new HB1.out
    have hlt := HB1.out.size
    go_wp2_with fail
    refine (CP.out _).mono ?_
    rintro e w2 ⟨rfl, hb2⟩
    have k1 := blk_new hb2
    have k0 := blk_old hb2 g0
    have HB2 := Lib.hid hb2
    clear hb2
    have k2 := blk_set k1 5 (.int .i64 t)
    have k3 : (w2.setCell ⟨w1.heap.size, 5, none⟩ (.int .i64 t)).heap[w.heap.size]? = some (.cells (zdays 0 0 0 0 0 0) 23) := by
      rw [Below.heap_setCell _ _ _ _ (by simp at hlt; simp; omega)]; exact k0
    have HS := Lib.hid (below_next (below_next (Below.refl _ _) HB1.out) HB2.out |>.setCell (p := ⟨w1.heap.size, 5, none⟩) (by simp at hlt; simp; omega) (.int .i64 t))
    have K2 := Lib.hid k2
    have K3 := Lib.hid k3
    have z5 := Lib.cell_of_heap k1 5
    have f5 := Lib.frozen_of_heap k1 5
    have c0 := Lib.cell_of_heap k1 0
    have c1 := Lib.cell_of_heap k1 1
    have c2 := Lib.cell_of_heap k1 2
    have c3 := Lib.cell_of_heap k1 3
    have c4 := Lib.cell_of_heap k1 4
    simp at c0 c1 c2 c3 c4 z5
    clear k0 k1 k2 k3 g0
    go_wp2_with fail
    refine (CV.out _).mono ?_
    rintro e w3 ⟨rfl, hb3⟩
    have k1 : w3.heap[w1.heap.size]? = some (.cells (zdays 3 0 m wk d t) 23) := blk_keep hb3 K2.out
    have k0 := blk_keep hb3 K3.out
    have HB3 := Lib.hid (HS.out.trans (hb3.mono HS.out.size))
    clear hb3 c0 c1 c2 c3 c4 z5 f5
    have c0 := Lib.cell_of_heap k1 0
    have c1 := Lib.cell_of_heap k1 1
    have c2 := Lib.cell_of_heap k1 2
    have c3 := Lib.cell_of_heap k1 3
    have c4 := Lib.cell_of_heap k1 4
    have c5 := Lib.cell_of_heap k1 5
    have z0 := Lib.cell_of_heap k0 0
    have z1 := Lib.cell_of_heap k0 1
    have z2 := Lib.cell_of_heap k0 2
    have z3 := Lib.cell_of_heap k0 3
    have z4 := Lib.cell_of_heap k0 4
    have z5 := Lib.cell_of_heap k0 5
    simp at c0 c1 c2 c3 c4 c5 z0 z1 z2 z3 z4 z5
    have f0 := Lib.frozen_of_heap k0 0
    have f1 := Lib.frozen_of_heap k0 1
    have f2 := Lib.frozen_of_heap k0 2
    have f3 := Lib.frozen_of_heap k0 3
    have f4 := Lib.frozen_of_heap k0 4
    have f5 := Lib.frozen_of_heap k0 5
    have K0 := Lib.hid k0
    clear k0 k1
    go_wp2_with fail
    exact bodyPost_ret (res47 _ _ _ _ _ _ _ _ _ _ _ rfl rfl rfl (blk_six K0.out)) rfl ⟨rfl, below_six HB3.out (Nat.le_refl _)⟩
end Go.Proofs.YtifnpclcnlgecaaDoor
