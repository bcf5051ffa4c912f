/- What tzname.IsAlpha, bare, Format and Valid compute, at names of ASCII bytes. -/
import Derived.Test.YtifnpclcnlgecaaDoorHms
import Derived.Laws.RangeString
import Derived.Laws.Runes
import Derived.Laws.RangeAny
import Derived.LoopTactic
import Derived.Scope
set_option linter.unusedVariables false
namespace Go.Proofs.YtifnpclcnlgecaaDoor
open Go Go.RowKit

theorem ret_bool {a b : Bool} (h : a = b) : Ending.returned (.bool a) = .returned (.bool b) := by rw [h]
theorem below_iter (w : World) (s : ByteArray) (p : Nat) : Below w.heap.size w (w.iter s p) := (Below.refl _ _).alloc (Nat.le_refl _) _

def alphaI (c : Int) : Bool := (decide (97 ≤ c) && decide (c ≤ 122)) || (decide (65 ≤ c) && decide (c ≤ 90))

theorem alphaI_byte (c : UInt8) : alphaI (c.toNat : Int) = alpha c := by
  unfold alphaI alpha
  simp only [UInt8.le_iff_toNat_le]
  rw [Bool.eq_iff_iff]
  simp only [Bool.or_eq_true, Bool.and_eq_true, decide_eq_true_eq, show (97 : UInt8).toNat = 97 from rfl, show (122 : UInt8).toNat = 122 from rfl, show (65 : UInt8).toNat = 65 from rfl, show (90 : UInt8).toNat = 90 from rfl]
  omega

set_option maxHeartbeats 400000 in
theorem isAlpha_calls (c : Int) (w : World) : Calls Tryd.prog 32 #[.int .u8 c] w fun e w' => e = .returned (.bool (alphaI c)) ∧ w = w' := by
  go_enter Tryd.func32, Tryd.ntmps32
  go_wp2
  all_goals
    go_ret
    refine ⟨congrArg (fun b => Ending.returned (.bool b)) ?_, rfl⟩
    unfold alphaI
    rw [Bool.eq_iff_iff]
    simp
    omega

set_option maxHeartbeats 400000 in
set_option maxRecDepth 100000 in
theorem bare_calls (s : ByteArray) (hs : ∀ i (h : i < s.size), (s[i]).toNat < 128) (w : World) :
    Calls Tryd.prog 21 #[.string s] w fun e w' => e = .returned (.bool (s.data.toList.all alpha)) ∧ Below w.heap.size w w' := by
  go_enter Tryd.func21, Tryd.ntmps21
  go_wp2
  go_loopw [] (fun w' => ∃ pos : Nat, pos ≤ s.size ∧ w' = w.iter s pos ∧ Hid ((s.data.toList.take pos).all alpha = true)) (fun w' => s.size - w'.iterPos w.heap.size)
  case atStart => exact ⟨0, Nat.zero_le _, rfl, rfl⟩
  case round =>
    obtain ⟨pos, hpos, rfl, hall⟩ := hrel
    by_cases hp : pos < s.size
    · have hnx := fun ty => run_next_ascii (P := Tryd.prog) w s pos ty hp (hs pos hp)
      have hlt := hs pos hp
      have hc : s.data.toList[pos]? = some s[pos] := by
        rw [List.getElem?_eq_getElem (by simpa using hp)]; rfl
      have hnext : (s.data.toList.take (pos + 1)).all alpha = ((s.data.toList.take pos).all alpha && alpha s[pos]) := by
        rw [List.take_add_one, hc, List.all_append]; simp
      have hall' : ¬ alpha s[pos] = true → s.data.toList.all alpha = false := by
        intro h
        rw [List.all_eq_false]
        exact ⟨s[pos], List.mem_of_getElem? hc, h⟩
      generalize s[pos] = c at *
      have HC := Lib.hid hc
      have HN := Lib.hid hnext
      have HF := Lib.hid hall'
      clear hc hnext hall'
      have ea := alphaI_byte c
      by_cases ha : alpha c = true
      · have hb : alphaI (c.toNat : Int) = true := ea.trans ha
        clear ea
        go_wp2_with (go_at_call 32; refine (isAlpha_calls _ _).mono ?_; rintro e w' ⟨rfl, rfl⟩)
        go_roundw
        case rel => exact ⟨pos + 1, hp, rfl, by unfold Hid; rw [HN.out, hall.out, ha]; rfl⟩
        case measure => simp; omega
      · have hb : alphaI (c.toNat : Int) = false := by rw [ea]; simpa using ha
        clear ea
        have hf := HF.out ha
        clear ha
        go_wp2_with (go_at_call 32; refine (isAlpha_calls _ _).mono ?_; rintro e w' ⟨rfl, rfl⟩)
        go_ret
        exact ⟨ret_bool hf.symm, below_iter _ _ _⟩
    · have hnx := fun ty => run_next_end (P := Tryd.prog) w s pos ty hp
      have hall' : s.data.toList.all alpha = true := by
        have := hall.out
        rwa [List.take_of_length_le (by simp; show s.size ≤ pos; omega)] at this
      have H := Lib.hid hall'
      clear hall'
      go_wp2_with fail
      go_ret
      exact ⟨ret_bool H.out.symm, below_iter _ _ _⟩

set_option maxHeartbeats 400000 in
theorem name_calls (s : ByteArray) (hs : ∀ i (h : i < s.size), (s[i]).toNat < 128) (hz : s.size ≤ 1000000) (w : World) :
    Calls Tryd.prog 14 #[.string s] w (Gives w (fmtName s.data.toList)) := by
  have hb := bare_calls s hs
  have e1 : s.data.toList.all alpha = true → fmtName s.data.toList = s.data.toList := fun h => by unfold fmtName; rw [if_pos h]
  have e2 : s.data.toList.all alpha = false → fmtName s.data.toList = 60 :: (s.data.toList ++ [62]) := fun h => by unfold fmtName; rw [if_neg (by simp [h])]
  have hB := Lib.hid hb
  have E1 := Lib.hid e1
  have E2 := Lib.hid e2
  clear hb e1 e2
  cases hc : s.data.toList.all alpha with
  | true =>
    have HC := Lib.hid hc
    clear hc
    go_enter Tryd.func14, Tryd.ntmps14
    go_wp2_with fail
    refine (hB.out _).mono ?_
    rintro e w' ⟨rfl, hb⟩
    rw [HC.out]
    have HB := Lib.hid hb
    clear hb
    go_wp2_with fail
    go_ret
    exact ⟨ret_str (by rw [E1.out HC.out]), HB.out⟩
  | false =>
    have HC := Lib.hid hc
    clear hc
    go_enter Tryd.func14, Tryd.ntmps14
    go_wp2_with fail
    refine (hB.out _).mono ?_
    rintro e w' ⟨rfl, hb⟩
    rw [HC.out]
    have HB := Lib.hid hb
    clear hb
    go_wp2_with fail
    go_ret
    refine ⟨ret_str ?_, HB.out⟩
    rw [E2.out HC.out]
    show ((⟨[60].toArray⟩ ++ ⟨s.data.toList.toArray⟩) ++ ⟨[62].toArray⟩ : ByteArray) = _
    rw [ba_append, ba_append]
    simp
end Go.Proofs.YtifnpclcnlgecaaDoor
