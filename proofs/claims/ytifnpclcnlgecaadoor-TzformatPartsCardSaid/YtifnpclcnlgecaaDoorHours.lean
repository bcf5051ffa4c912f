/- What hms.digit, hours, fields and Parse compute. -/
import Derived.Test.YtifnpclcnlgecaaDoorName
import Derived.LoopN
set_option linter.unusedVariables false
namespace Go.Proofs.YtifnpclcnlgecaaDoor
open Go Go.RowKit

theorem ret_ib {x : Int} {b : Bool} {p : Int × Bool} (h : p = (x, b)) : Ending.returned (.tuple #[.int .i64 x, .bool b]) = .returned (.tuple #[.int .i64 p.1, .bool p.2]) := by rw [h]

/-- The byte at a place, 0 outside. -/
def byteAt (s : ByteArray) (i : Nat) : Nat := if h : i < s.size then (s[i]).toNat else 0

/-- The digit at a place. -/
def dig (s : ByteArray) (i : Nat) : Int × Bool := if 48 ≤ byteAt s i ∧ byteAt s i ≤ 57 then ((byteAt s i : Int) - 48, true) else (0, false)

theorem dig_bd (s : ByteArray) (i : Nat) : 0 ≤ (dig s i).1 ∧ (dig s i).1 ≤ 9 := by
  unfold dig; split <;> simp <;> omega

theorem byteAt_lt (s : ByteArray) (i : Nat) (h : i < s.size) : byteAt s i = (s[i]).toNat := by unfold byteAt; rw [dif_pos h]
theorem byteAt_ge (s : ByteArray) (i : Nat) (h : ¬ i < s.size) : byteAt s i = 0 := by unfold byteAt; rw [dif_neg h]
theorem byteAt_byte (s : ByteArray) (i : Nat) : byteAt s i < 256 := by
  unfold byteAt; split
  · exact UInt8.toNat_lt _
  · omega

set_option maxHeartbeats 400000 in
theorem digit_nat (s : ByteArray) (i : Nat) (w : World) :
    Calls Tryd.prog 56 #[.string s, .int .i64 i] w fun e w' => e = .returned (.tuple #[.int .i64 (dig s i).1, .bool (dig s i).2]) ∧ w = w' := by
  by_cases hi : i < s.size
  · have hb := byteAt_lt s i hi
    have h256 := byteAt_byte s i
    have ed : dig s i = if 48 ≤ byteAt s i ∧ byteAt s i ≤ 57 then ((byteAt s i : Int) - 48, true) else (0, false) := rfl
    generalize dig s i = dd at *
    rw [hb] at ed h256
    clear hb
    have ED := Lib.hid ed
    clear ed
    go_enter Tryd.func56, Tryd.ntmps56
    go_wp2
    all_goals
      go_ret2
      refine ⟨ret_ib ?_, rfl⟩
      rw [ED.out]
      first
        | (rw [if_neg (by omega)]; done)
        | (rw [if_pos (by omega)]; done)
        | (rw [if_pos (by omega)]; congr 1; done)
  · have ed : dig s i = (0, false) := by unfold dig; rw [byteAt_ge s i hi]; rfl
    rw [ed]
    go_enter Tryd.func56, Tryd.ntmps56
    go_wp2
    go_ret2
    exact ⟨rfl, rfl⟩

theorem digit_calls (s : ByteArray) (i : Int) (h : 0 ≤ i) (k : Nat) (hk : i = k) (d : Int × Bool) (hd : dig s k = d) (w : World) :
    Calls Tryd.prog 56 #[.string s, .int .i64 i] w fun e w' => e = .returned (.tuple #[.int .i64 d.1, .bool d.2]) ∧ w = w' := by
  subst hk; subst hd; exact digit_nat s k w

/-- Hours: up to three digits. -/
def hoursF (s : ByteArray) (k : Nat) : Int × Int × Bool :=
  let d0 := dig s k
  let d1 := dig s (k + 1)
  let d2 := dig s (k + 2)
  let d3 := dig s (k + 3)
  if d0.2 then
    if d1.2 then
      if d2.2 then
        if d3.2 then (0, 0, false)
        else ((d0.1 * 10 + d1.1) * 10 + d2.1, k + 3, decide ((d0.1 * 10 + d1.1) * 10 + d2.1 ≤ 167))
      else (d0.1 * 10 + d1.1, k + 2, decide (d0.1 * 10 + d1.1 ≤ 167))
    else (d0.1, k + 1, decide (d0.1 ≤ 167))
  else (0, k, false)

theorem ret_iib {x y : Int} {b : Bool} {p : Int × Int × Bool} (h : p = (x, y, b)) : Ending.returned (.tuple #[.int .i64 x, .int .i64 y, .bool b]) = .returned (.tuple #[.int .i64 p.1, .int .i64 p.2.1, .bool p.2.2]) := by rw [h]

set_option maxHeartbeats 2000000 in
theorem hours_calls (s : ByteArray) (k : Nat) (hk : k < 1000000) (w : World) :
    Calls Tryd.prog 45 #[.string s, .int .i64 k] w fun e w' => e = .returned (.tuple #[.int .i64 (hoursF s k).1, .int .i64 (hoursF s k).2.1, .bool (hoursF s k).2.2]) ∧ w = w' := by
  have b0 := dig_bd s k
  have b1 := dig_bd s (k + 1)
  have b2 := dig_bd s (k + 2)
  have q0 := digit_calls s k (by omega) k rfl _ rfl
  have q1 := digit_calls s (k + 1) (by omega) (k + 1) rfl _ rfl
  have q2 := digit_calls s (k + 1 + 1) (by omega) (k + 2) rfl _ rfl
  have q3 := digit_calls s (k + 1 + 1 + 1) (by omega) (k + 3) rfl _ rfl
  obtain ⟨hh, eH⟩ : ∃ hh, hoursF s k = hh := ⟨_, rfl⟩
  rw [eH]
  unfold hoursF at eH
  generalize dig s k = d0 at *
  generalize dig s (k + 1) = d1 at *
  generalize dig s (k + 2) = d2 at *
  generalize dig s (k + 3) = d3 at *
  obtain ⟨v0, o0⟩ := d0
  obtain ⟨v1, o1⟩ := d1
  obtain ⟨v2, o2⟩ := d2
  obtain ⟨v3, o3⟩ := d3
  simp only at b0 b1 b2 eH
  obtain ⟨b00, b01⟩ := b0
  obtain ⟨b10, b11⟩ := b1
  obtain ⟨b20, b21⟩ := b2
  have Q0 := Lib.hid q0
  have Q1 := Lib.hid q1
  have Q2 := Lib.hid q2
  have Q3 := Lib.hid q3
  have EH := Lib.hid eH
  clear q0 q1 q2 q3 eH
  cases o0 with
  | false =>
    go_enter Tryd.func45, Tryd.ntmps45
    go_wp2_with fail
    refine (Q0.out _).mono ?_
    rintro e w1 ⟨rfl, rfl⟩
    go_wp2_with fail
    refine wp_loop_rounds 1 ?_
    rw [rounds_succ]
    go_wp2_with fail
    all_goals
      go_ret3
      refine ⟨ret_iib ?_, rfl⟩
      rw [← EH.out]
      simp <;> omega
  | true =>
  cases o1 with
  | false =>
    go_enter Tryd.func45, Tryd.ntmps45
    go_wp2_with fail
    refine (Q0.out _).mono ?_
    rintro e w1 ⟨rfl, rfl⟩
    go_wp2_with fail
    refine wp_loop_rounds 2 ?_
    rw [rounds_succ]
    go_wp2_with fail
    refine (Q1.out _).mono ?_
    rintro e w1 ⟨rfl, rfl⟩
    go_wp2_with fail
    rw [rounds_succ]
    go_wp2_with fail
    all_goals
      go_ret3
      refine ⟨ret_iib ?_, rfl⟩
      rw [← EH.out]
      simp <;> omega
  | true =>
  cases o2 with
  | false =>
    go_enter Tryd.func45, Tryd.ntmps45
    go_wp2_with fail
    refine (Q0.out _).mono ?_
    rintro e w1 ⟨rfl, rfl⟩
    go_wp2_with fail
    refine wp_loop_rounds 3 ?_
    rw [rounds_succ]
    go_wp2_with fail
    refine (Q1.out _).mono ?_
    rintro e w1 ⟨rfl, rfl⟩
    go_wp2_with fail
    rw [rounds_succ]
    go_wp2_with fail
    refine (Q2.out _).mono ?_
    rintro e w1 ⟨rfl, rfl⟩
    go_wp2_with fail
    rw [rounds_succ]
    go_wp2_with fail
    all_goals
      go_ret3
      refine ⟨ret_iib ?_, rfl⟩
      rw [← EH.out]
      simp <;> omega
  | true =>
  cases o3 with
  | false =>
    go_enter Tryd.func45, Tryd.ntmps45
    go_wp2_with fail
    refine (Q0.out _).mono ?_
    rintro e w1 ⟨rfl, rfl⟩
    go_wp2_with fail
    refine wp_loop_rounds 4 ?_
    rw [rounds_succ]
    go_wp2_with fail
    refine (Q1.out _).mono ?_
    rintro e w1 ⟨rfl, rfl⟩
    go_wp2_with fail
    rw [rounds_succ]
    go_wp2_with fail
    refine (Q2.out _).mono ?_
    rintro e w1 ⟨rfl, rfl⟩
    go_wp2_with fail
    rw [rounds_succ]
    go_wp2_with fail
    refine (Q3.out _).mono ?_
    rintro e w1 ⟨rfl, rfl⟩
    go_wp2_with fail
    rw [rounds_succ]
    go_wp2_with fail
    all_goals
      go_ret3
      refine ⟨ret_iib ?_, rfl⟩
      rw [← EH.out]
      simp <;> omega
  | true =>
    go_enter Tryd.func45, Tryd.ntmps45
    go_wp2_with fail
    refine (Q0.out _).mono ?_
    rintro e w1 ⟨rfl, rfl⟩
    go_wp2_with fail
    refine wp_loop_rounds 4 ?_
    rw [rounds_succ]
    go_wp2_with fail
    refine (Q1.out _).mono ?_
    rintro e w1 ⟨rfl, rfl⟩
    go_wp2_with fail
    rw [rounds_succ]
    go_wp2_with fail
    refine (Q2.out _).mono ?_
    rintro e w1 ⟨rfl, rfl⟩
    go_wp2_with fail
    rw [rounds_succ]
    go_wp2_with fail
    refine (Q3.out _).mono ?_
    rintro e w1 ⟨rfl, rfl⟩
    go_wp2_with fail
    rw [rounds_succ]
    go_wp2_with fail
    all_goals
      go_ret3
      refine ⟨ret_iib ?_, rfl⟩
      rw [← EH.out]
      simp <;> omega
end Go.Proofs.YtifnpclcnlgecaaDoor
