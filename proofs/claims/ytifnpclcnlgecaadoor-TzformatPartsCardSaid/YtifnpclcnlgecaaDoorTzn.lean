/- tzname.Valid and Parse at a text that begins with letters. -/
import Derived.Test.YtifnpclcnlgecaaDoorName
import Derived.LoopTactic
set_option linter.unusedVariables false
namespace Go.Proofs.YtifnpclcnlgecaaDoor
open Go Go.RowKit

theorem alpha_lt (c : UInt8) (h : alpha c = true) : c.toNat < 128 := by
  unfold alpha at h
  simp only [UInt8.le_iff_toNat_le, Bool.or_eq_true, Bool.and_eq_true, decide_eq_true_eq, show (122 : UInt8).toNat = 122 from rfl, show (90 : UInt8).toNat = 90 from rfl] at h
  omega

set_option maxHeartbeats 1000000 in
theorem allowed_calls (c : Int) (h0 : 0 ≤ c) (h1 : c < 128) (h : alphaI c = true) (w : World) : Calls Tryd.prog 48 #[.int .i32 c] w fun e w' => e = .returned (.bool true) ∧ w = w' := by
  have H := Lib.hid h
  clear h
  go_enter Tryd.func48, Tryd.ntmps48
  go_wp2_with fail
  refine (isAlpha_calls _ _).mono ?_
  rintro e w1 ⟨rfl, rfl⟩
  rw [H.out]
  go_wp2_with fail
  go_ret
  exact ⟨rfl, rfl⟩

set_option maxHeartbeats 1000000 in
set_option maxRecDepth 100000 in
theorem nvalid_calls (s : ByteArray) (hs : ∀ i (h : i < s.size), alpha s[i] = true) (h3 : 3 ≤ s.size) (h255 : s.size ≤ 255) (w : World) :
    Calls Tryd.prog 39 #[.string s] w fun e w' => e = .returned (.bool true) ∧ Below w.heap.size w w' := by
  go_enter Tryd.func39, Tryd.ntmps39
  go_wp2
  go_loopw [] (fun w' => ∃ pos : Nat, pos ≤ s.size ∧ w' = w.iter s pos) (fun w' => s.size - w'.iterPos w.heap.size)
  case atStart => exact ⟨0, Nat.zero_le _, rfl⟩
  case round =>
    obtain ⟨pos, hpos, rfl⟩ := hrel
    by_cases hp : pos < s.size
    · have ha := hs pos hp
      have hlt := alpha_lt _ ha
      have hnx := fun ty => run_next_ascii (P := Tryd.prog) w s pos ty hp hlt
      have ea := alphaI_byte s[pos]
      generalize s[pos] = c at *
      have HA := Lib.hid (ea.trans ha)
      clear ea ha
      go_wp2_with (go_at_call 48; refine (allowed_calls _ (by omega) (by omega) HA.out _).mono ?_; rintro e w' ⟨rfl, rfl⟩)
      go_roundw
      case rel => exact ⟨pos + 1, hp, rfl⟩
      case measure => simp; omega
    · have hnx := fun ty => run_next_end (P := Tryd.prog) w s pos ty hp
      go_wp2_with fail
      go_ret
      exact ⟨ret_bool (by simp; try omega), below_iter _ _ _⟩

theorem ext_zero (s : ByteArray) (b i : Nat) (h : i < (s.extract 0 b).size) (h2 : i < s.size) : (s.extract 0 b)[i] = s[i] := by
  rw [ByteArray.getElem_extract]
  simp

/-- A text that begins with n letters and no more. -/
structure Letters (s : ByteArray) (n : Nat) : Prop where
  h3 : 3 ≤ n
  h255 : n ≤ 255
  le : n ≤ s.size
  size : s.size < 1000000
  all : ∀ i (h : i < s.size), i < n → alpha s[i] = true
  stop : ∀ h : n < s.size, alpha s[n] = false
  pre : Lib.hasPrefix s.data.toList [60] = false

set_option maxHeartbeats 2000000 in
set_option maxRecDepth 100000 in
theorem nparse_calls (s : ByteArray) (n : Nat) (h : Letters s n) (w : World) :
    Calls Tryd.prog 34 #[.string s] w fun e w' => e = .returned (.tuple #[.string (s.extract 0 n), .int .i64 n, .bool true]) ∧ Below w.heap.size w w' := by
  obtain ⟨h3, h255, hle, hz, hall, hstop, hpre⟩ := h
  have cp := Tryd.strings_CutPrefix s ⟨[60].toArray⟩
  have e60 : (⟨[60].toArray⟩ : ByteArray).data.toList = [60] := rfl
  rw [e60, hpre] at cp
  have cv := nvalid_calls (s.extract 0 n) (by
    intro i hi
    have hi' : i < n := by simp at hi; omega
    have := hall i (by omega) hi'
    rw [ext_zero s n i hi (by omega)]
    exact this) (by simp; omega) (by simp; omega)
  have CP := Lib.hid cp
  have CV := Lib.hid cv
  have HA := Lib.hid hall
  have HS := Lib.hid hstop
  clear cp cv hall hstop hpre e60
  go_enter Tryd.func34, Tryd.ntmps34
  go_wp2_with fail
  refine (CP.out _).mono ?_
  rintro e w1 ⟨rfl, rfl⟩
  go_wp2_with fail
  go_loop [6] (fun t => ∃ u : Nat, u ≤ n ∧ t = .int .i64 u) (fun t => n - (intOf t).toNat)
  case atStart => exact ⟨0, Nat.zero_le _, rfl⟩
  case round =>
    obtain ⟨u, hu, rfl⟩ := hrel
    by_cases hlt : u < n
    · have hus : u < s.size := by omega
      have ha := HA.out u hus hlt
      have ea := alphaI_byte s[u]
      rw [ha] at ea
      have EA := Lib.hid ea
      clear ea ha
      go_wp2_with (go_at_call 32; refine (isAlpha_calls _ _).mono ?_; rintro e w' ⟨rfl, rfl⟩; rw [EA.out])
      go_round
      case rel => exact ⟨u + 1, hlt, by go_num⟩
      case measure => simp [intOf]; omega
    · obtain rfl : u = n := by omega
      by_cases hus : u < s.size
      · have ha := HS.out hus
        have ea := alphaI_byte s[u]
        rw [ha] at ea
        have EA := Lib.hid ea
        clear ea ha
        go_wp2_with (go_at_call 32; refine (isAlpha_calls _ _).mono ?_; rintro e w' ⟨rfl, rfl⟩; rw [EA.out])
        refine (CV.out _).mono ?_
        rintro e w2 ⟨rfl, hb⟩
        have HB := Lib.hid hb
        clear hb
        go_wp2_with fail
        go_ret3
        exact ⟨rfl, HB.out⟩
      · go_wp2_with fail
        refine (CV.out _).mono ?_
        rintro e w2 ⟨rfl, hb⟩
        have HB := Lib.hid hb
        clear hb
        go_wp2_with fail
        go_ret3
        exact ⟨rfl, HB.out⟩
end Go.Proofs.YtifnpclcnlgecaaDoor
