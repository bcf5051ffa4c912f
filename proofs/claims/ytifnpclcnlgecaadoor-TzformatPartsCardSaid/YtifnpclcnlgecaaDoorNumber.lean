/- What posixtz.number, after, date and Day compute at texts whose digits are known; tzname.Valid and Parse at letters. -/
import Derived.Test.YtifnpclcnlgecaaDoorParse
set_option linter.unusedVariables false
namespace Go.Proofs.YtifnpclcnlgecaaDoor
open Go Go.RowKit

theorem dig_yes {s : ByteArray} {i : Nat} {v : Int} (h : dig s i = (v, true)) : ∃ hi : i < s.size, ((s[i]).toNat : Int) = v + 48 ∧ 0 ≤ v ∧ v ≤ 9 := by
  have hi := dig_lt s i (by rw [h])
  refine ⟨hi, ?_⟩
  unfold dig at h
  rw [byteAt_lt s i hi] at h
  split at h
  · simp only [Prod.mk.injEq, and_true] at h
    omega
  · simp at h

theorem dig_no {s : ByteArray} {i : Nat} (h : (dig s i).2 = false) (hi : i < s.size) : ¬ (48 ≤ (s[i]).toNat ∧ (s[i]).toNat ≤ 57) := by
  unfold dig at h
  rw [byteAt_lt s i hi] at h
  split at h
  · simp at h
  · assumption

theorem ret_num {x y z u : Int} (h : x = z) (k : y = u) : Ending.returned (.tuple #[.int .i64 x, .int .i64 y, .bool true]) = .returned (.tuple #[.int .i64 z, .int .i64 u, .bool true]) := by rw [h, k]

/-- How many digits begin the text, one or two, and their number. -/
inductive Num (s : ByteArray) : Int → Int → Prop
  | one (v : Int) : dig s 0 = (v, true) → (dig s 1).2 = false → Num s v 1
  | two (v u : Int) : dig s 0 = (v, true) → dig s 1 = (u, true) → (dig s 2).2 = false → Num s (v * 10 + u) 2

set_option maxHeartbeats 1000000 in
set_option maxRecDepth 100000 in
theorem number_calls' (s : ByteArray) (v n : Int) (h : Num s v n) (w : World) :
    Calls Tryd.prog 64 #[.string s] w fun e w' => e = .returned (.tuple #[.int .i64 v, .int .i64 n, .bool true]) ∧ w = w' := by
  cases h with
  | one v h0 h1 =>
    obtain ⟨i0, e0, a0, b0⟩ := dig_yes h0
    have p0 : 48 ≤ ((s[0]).toNat : Int) := by omega
    have q0 : ((s[0]).toNat : Int) ≤ 57 := by omega
    have E0 := Lib.hid e0
    clear e0 h0
    by_cases i1 : 1 < s.size
    · have n1 := dig_no h1 i1
      clear h1
      go_enter Tryd.func64, Tryd.ntmps64
      go_wp2_with fail
      refine wp_loop_rounds 2 ?_
      rw [rounds_succ]
      go_wp2_with fail
      rw [rounds_succ]
      go_wp2_with fail
      all_goals
        go_ret3
        exact ⟨ret_num (by have := E0.out; omega) rfl, rfl⟩
    · clear h1
      go_enter Tryd.func64, Tryd.ntmps64
      go_wp2_with fail
      refine wp_loop_rounds 2 ?_
      rw [rounds_succ]
      go_wp2_with fail
      rw [rounds_succ]
      go_wp2_with fail
      all_goals
        go_ret3
        exact ⟨ret_num (by have := E0.out; omega) rfl, rfl⟩
  | two v u h0 h1 h2 =>
    obtain ⟨i0, e0, a0, b0⟩ := dig_yes h0
    obtain ⟨i1, e1, a1, b1⟩ := dig_yes h1
    have p0 : 48 ≤ ((s[0]).toNat : Int) := by omega
    have q0 : ((s[0]).toNat : Int) ≤ 57 := by omega
    have p1 : 48 ≤ ((s[1]).toNat : Int) := by omega
    have q1 : ((s[1]).toNat : Int) ≤ 57 := by omega
    have E0 := Lib.hid e0
    have E1 := Lib.hid e1
    clear e0 h0 e1 h1
    by_cases i2 : 2 < s.size
    · have n2 := dig_no h2 i2
      clear h2
      go_enter Tryd.func64, Tryd.ntmps64
      go_wp2_with fail
      refine wp_loop_rounds 3 ?_
      rw [rounds_succ]
      go_wp2_with fail
      rw [rounds_succ]
      go_wp2_with fail
      rw [rounds_succ]
      go_wp2_with fail
      all_goals
        go_ret3
        exact ⟨ret_num (by have := E0.out; have := E1.out; omega) rfl, rfl⟩
    · clear h2
      go_enter Tryd.func64, Tryd.ntmps64
      go_wp2_with fail
      refine wp_loop_rounds 3 ?_
      rw [rounds_succ]
      go_wp2_with fail
      rw [rounds_succ]
      go_wp2_with fail
      rw [rounds_succ]
      go_wp2_with fail
      all_goals
        go_ret3
        exact ⟨ret_num (by have := E0.out; have := E1.out; omega) rfl, rfl⟩

set_option maxHeartbeats 1000000 in
theorem after_calls (s : ByteArray) (x : Int) (k : Nat) (hx : x = k) (hk : k < s.size) (hz : s.size < 1000000) (hs : byteAt s k = 46) (v n : Int) (h : Num (s.extract (k + 1) s.size) v n) (w : World) :
    Calls Tryd.prog 65 #[.string s, .int .i64 x, .int .u8 46] w fun e w' => e = .returned (.tuple #[.int .i64 v, .int .i64 (x + 1 + n), .bool true]) ∧ w = w' := by
  subst hx
  have hn : 0 ≤ n ∧ n ≤ 2 := by cases h <;> omega
  obtain ⟨n0, n1⟩ := hn
  have c := number_calls' _ v n h
  have C := Lib.hid c
  rw [byteAt_lt s k hk] at hs
  have t1 : (((s[k]).toNat : Int) != 46) = false := by rw [hs]; rfl
  clear hs h c
  go_enter Tryd.func65, Tryd.ntmps65
  go_wp2_with fail
  refine (C.out _).mono ?_
  rintro e w1 ⟨rfl, rfl⟩
  go_wp2_with fail
  go_ret3
  exact ⟨rfl, rfl⟩
end Go.Proofs.YtifnpclcnlgecaaDoor
