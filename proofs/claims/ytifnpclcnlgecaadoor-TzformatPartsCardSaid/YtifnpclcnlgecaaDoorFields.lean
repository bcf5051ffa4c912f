/- What hms.fields and Parse compute. -/
import Derived.Test.YtifnpclcnlgecaaDoorHours
set_option linter.unusedVariables false
namespace Go.Proofs.YtifnpclcnlgecaaDoor
open Go Go.RowKit

/-- ':' at a place. -/
def colon (s : ByteArray) (k : Nat) : Bool := Lib.hasPrefix (s.extract k s.size).data.toList [58]

/-- One field: its value, or -1. -/
def fieldF (s : ByteArray) (k : Nat) : Int :=
  if colon s k && (dig s (k + 1)).2 && (dig s (k + 2)).2 then
    if (dig s (k + 1)).1 * 10 + (dig s (k + 2)).1 < 60 then (dig s (k + 1)).1 * 10 + (dig s (k + 2)).1 else -1
  else -1

def fieldsF (s : ByteArray) (k : Nat) : Int × Int :=
  if fieldF s k < 0 then (0, k) else if fieldF s (k + 3) < 0 then (60 * fieldF s k, k + 3) else (60 * fieldF s k + fieldF s (k + 3), k + 6)

theorem ret_ii {x y : Int} {p : Int × Int} (h : p = (x, y)) : Ending.returned (.tuple #[.int .i64 x, .int .i64 y]) = .returned (.tuple #[.int .i64 p.1, .int .i64 p.2]) := by rw [h]

theorem ext_min (s : ByteArray) (k : Nat) : s.extract (min (k : Int) (s.size : Int)).toNat s.size = s.extract k s.size := by
  by_cases h : k ≤ s.size
  · rw [show (min (k : Int) (s.size : Int)).toNat = k from by omega]
  · rw [show (min (k : Int) (s.size : Int)).toNat = s.size from by omega]
    apply ByteArray.ext
    simp
    omega

theorem colon_calls (s : ByteArray) (x : Int) (k : Nat) (hx : x = k) (o : Bool) (ho : colon s k = o) (w : World) :
    Calls Tryd.prog 44 #[.string (s.extract (min x (s.size : Int)).toNat s.size), .string { data := #[58] }] w fun e w' => e = .returned (.bool o) ∧ w = w' := by
  subst hx; subst ho
  rw [ext_min]
  exact (Tryd.strings_HasPrefix _ _ w).mono fun e w' ⟨he, hw⟩ => ⟨he, hw.symm⟩

/-- What one round of the loop needs. -/
structure Fld (s : ByteArray) (x : Int) (k : Nat) where
  v1 : Int
  o1 : Bool
  v2 : Int
  o2 : Bool
  o : Bool
  b1 : 0 ≤ v1 ∧ v1 ≤ 9
  b2 : 0 ≤ v2 ∧ v2 ≤ 9
  q1 : Hid (∀ w, Calls Tryd.prog 56 #[.string s, .int .i64 (x + 1)] w fun e w' => e = .returned (.tuple #[.int .i64 v1, .bool o1]) ∧ w = w')
  q2 : Hid (∀ w, Calls Tryd.prog 56 #[.string s, .int .i64 (x + 2)] w fun e w' => e = .returned (.tuple #[.int .i64 v2, .bool o2]) ∧ w = w')
  q : Hid (∀ w, Calls Tryd.prog 44 #[.string (s.extract (min x (s.size : Int)).toNat s.size), .string { data := #[58] }] w fun e w' => e = .returned (.bool o) ∧ w = w')
  e : Hid (fieldF s k = if o && o1 && o2 then if v1 * 10 + v2 < 60 then v1 * 10 + v2 else -1 else -1)

theorem fld (s : ByteArray) (x : Int) (k : Nat) (hx : x = k) : Nonempty (Fld s x k) :=
  ⟨⟨(dig s (k + 1)).1, (dig s (k + 1)).2, (dig s (k + 2)).1, (dig s (k + 2)).2, colon s k, dig_bd _ _, dig_bd _ _,
    digit_calls s (x + 1) (by omega) (k + 1) (by omega) _ rfl, digit_calls s (x + 2) (by omega) (k + 2) (by omega) _ rfl, colon_calls s x k hx _ rfl, rfl⟩⟩

set_option maxHeartbeats 2000000 in
theorem fields_calls (s : ByteArray) (k : Nat) (hk : k ≤ s.size) (hk2 : k < 1000000) (b : Nat) (w : World)
    (hc0 : w.cell? ⟨b, 0, none⟩ = some (.int .i64 60)) (hc1 : w.cell? ⟨b, 1, none⟩ = some (.int .i64 1)) :
    Calls Tryd.prog 46 #[.string s, .int .i64 k, .slice (some ⟨b, 0, none⟩) 2 2] w fun e w' => e = .returned (.tuple #[.int .i64 (fieldsF s k).1, .int .i64 (fieldsF s k).2]) ∧ w = w' := by
  obtain ⟨v1, o1, v2, o2, o, b1, b2, Q1, Q2, Q, E⟩ := fld s k k rfl
  obtain ⟨z1, p1, z2, p2, p, c1, c2, R1, R2, R, F⟩ := fld s ((k : Int) + 3) (k + 3) (by omega)
  obtain ⟨hh, eH⟩ : ∃ hh, fieldsF s k = hh := ⟨_, rfl⟩
  rw [eH]
  unfold fieldsF at eH
  have EH := Lib.hid eH
  clear eH
  obtain ⟨b10, b11⟩ := b1
  obtain ⟨b20, b21⟩ := b2
  obtain ⟨c10, c11⟩ := c1
  obtain ⟨c20, c21⟩ := c2
  go_enter Tryd.func46, Tryd.ntmps46
  go_wp2_with fail
  refine wp_loop_rounds 3 ?_
  rw [rounds_succ]
  go_wp2_with fail
  refine (Q1.out _).mono ?_
  rintro e w1 ⟨rfl, rfl⟩
  go_wp2_with fail
  refine (Q2.out _).mono ?_
  rintro e w1 ⟨rfl, rfl⟩
  go_wp2_with fail
  refine (Q.out _).mono ?_
  rintro e w1 ⟨rfl, rfl⟩
  go_wp2_with fail
  rotate_left
  · have hE : fieldF s k = v1 * 10 + v2 := by (rw [E.out]; (repeat' split) <;> first | rfl | (exfalso; omega) | simp_all)
    have HE := Lib.hid hE
    clear hE
    rw [rounds_succ]
    go_wp2_with fail
    refine (R1.out _).mono ?_
    rintro e w1 ⟨rfl, rfl⟩
    go_wp2_with fail
    refine (R2.out _).mono ?_
    rintro e w1 ⟨rfl, rfl⟩
    go_wp2_with fail
    refine (R.out _).mono ?_
    rintro e w1 ⟨rfl, rfl⟩
    go_wp2_with fail
    rotate_left
    · have hF : fieldF s (k + 3) = z1 * 10 + z2 := by (rw [F.out]; (repeat' split) <;> first | rfl | (exfalso; omega) | simp_all)
      have HF := Lib.hid hF
      clear hF
      rw [rounds_succ]
      go_wp2_with fail
      go_ret2
      refine ⟨ret_ii ?_, rfl⟩
      rw [← EH.out, HE.out, HF.out, if_neg (by omega), if_neg (by omega)]
      simp
      omega
    all_goals
      have hF : fieldF s (k + 3) = -1 := by (rw [F.out]; (repeat' split) <;> first | rfl | (exfalso; omega) | simp_all)
      go_ret2
      refine ⟨ret_ii ?_, rfl⟩
      rw [← EH.out, HE.out, hF, if_neg (by omega), if_pos (by omega)]
  all_goals
    have hE : fieldF s k = -1 := by (rw [E.out]; (repeat' split) <;> first | rfl | (exfalso; omega) | simp_all)
    go_ret2
    refine ⟨ret_ii ?_, rfl⟩
    rw [← EH.out, hE, if_pos (by omega)]
end Go.Proofs.YtifnpclcnlgecaaDoor
