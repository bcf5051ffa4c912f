/- The reference's validity: what a rule that it accepts looks like. -/
import Derived.Test.YtifnpclcnlgecaaDoorExt
set_option linter.unusedVariables false
set_option linter.unusedSimpArgs false
namespace Go.Proofs.YtifnpclcnlgecaaDoor
open Go Go.RowKit

set_option maxHeartbeats 1000000 in
theorem ralpha_calls (c : Int) (w : World) : Calls Tryd.prog 19 #[.int .u8 c] w fun e w' => e = .returned (.bool (alphaI c)) ∧ w = w' := by
  go_enter Tryd.func19, Tryd.ntmps19
  go_wp2
  all_goals
    go_ret
    refine ⟨congrArg (fun b => Ending.returned (.bool b)) ?_, rfl⟩
    unfold alphaI
    rw [Bool.eq_iff_iff]
    simp
    omega

theorem alphaI_lt (c : Int) (h : alphaI c = true) : c < 128 := by
  unfold alphaI at h
  simp only [Bool.or_eq_true, Bool.and_eq_true, decide_eq_true_eq] at h
  omega

/-- A Boolean that is true only where the fact holds; the world as it was. -/
def Tells (F : Prop) (w : World) (e : Ending) (w' : World) : Prop := ∃ b, e = .returned (.bool b) ∧ (b = true → F) ∧ w = w'
theorem tells_no {F : Prop} {w : World} : Tells F w (.returned (.bool false)) w := ⟨false, rfl, fun h => absurd h (by decide), rfl⟩
theorem tells_yes {F : Prop} {w : World} (b : Bool) (h : F) : Tells F w (.returned (.bool b)) w := ⟨b, rfl, fun _ => h, rfl⟩

set_option maxHeartbeats 2000000 in
set_option maxRecDepth 100000 in
theorem rname_calls (s : ByteArray) (hz : s.size < 4611686018427387904) (w : World) :
    Calls Tryd.prog 10 #[.string s] w (Tells (3 ≤ s.size ∧ s.size ≤ 255 ∧ ∀ i (h : i < s.size), (s[i]).toNat < 128) w) := by
  go_enter Tryd.func10, Tryd.ntmps10
  go_wp2_with fail
  go_loop [3] (fun t => ∃ u : Nat, u ≤ s.size ∧ t = .int .i64 u ∧ Hid (∀ i (h : i < s.size), i < u → (s[i]).toNat < 128)) (fun t => s.size - (intOf t).toNat)
  case atStart => exact ⟨0, Nat.zero_le _, rfl, Lib.hid (fun i h hi => absurd hi (by omega))⟩
  case round =>
    obtain ⟨u, hu, rfl, hall⟩ := hrel
    by_cases hlt : u < s.size
    · have H : ∀ h : (s[u]).toNat < 128, Hid (∀ i (h : i < s.size), i < u + 1 → (s[i]).toNat < 128) := fun h => Lib.hid (fun i hi hiu => by
        rcases Nat.lt_succ_iff_lt_or_eq.1 hiu with q | q
        · exact hall.out i hi q
        · subst q; exact h)
      have hc := (s[u]).toNat_lt
      generalize hsc : s[u] = c at *
      have HH := Lib.hid H
      have HL := Lib.hid (alphaI_lt (c.toNat : Int))
      clear H
      cases ha : alphaI (c.toNat : Int) with
      | true =>
        have hl := HL.out ha
        have HA := Lib.hid ha
        clear ha
        go_wp2_with (go_at_call 19; refine (ralpha_calls _ _).mono ?_; rintro e w' ⟨rfl, rfl⟩; rw [HA.out])
        all_goals first
          | (go_ret; exact tells_no)
          | exact ⟨⟨u + 1, hlt, by go_num, HH.out (by first | omega | (simp only [bne_eq_false_iff_eq] at *; omega))⟩, by simp [intOf]; omega⟩
          | (go_round; (case rel => exact ⟨u + 1, hlt, by go_num, HH.out (by first | omega | (simp only [bne_eq_false_iff_eq] at *; omega))⟩); (case measure => simp [intOf]; omega))
      | false =>
        have HA := Lib.hid ha
        clear ha
        go_wp2_with (go_at_call 19; refine (ralpha_calls _ _).mono ?_; rintro e w' ⟨rfl, rfl⟩; rw [HA.out])
        all_goals first
          | (go_ret; exact tells_no)
          | exact ⟨⟨u + 1, hlt, by go_num, HH.out (by first | omega | (simp only [bne_eq_false_iff_eq] at *; omega))⟩, by simp [intOf]; omega⟩
          | (go_round; (case rel => exact ⟨u + 1, hlt, by go_num, HH.out (by first | omega | (simp only [bne_eq_false_iff_eq] at *; omega))⟩); (case measure => simp [intOf]; omega))
    · have hq : ∀ i (h : i < s.size), (s[i]).toNat < 128 := fun i h => hall.out i h (by omega)
      have HQ := Lib.hid hq
      clear hq hall
      go_wp2_with fail
      all_goals
        go_ret
        first
          | exact tells_no
          | exact tells_yes _ ⟨by omega, by omega, HQ.out⟩
          | (refine ⟨_, rfl, fun h => ⟨by omega, ?_, HQ.out⟩, rfl⟩; simp at h; omega)

set_option maxHeartbeats 1000000 in
theorem rin_calls (n : Int) (w : World) : Calls Tryd.prog 11 #[.int .i64 n] w (Tells (-89999 ≤ n ∧ n ≤ 89999) w) := by
  go_enter Tryd.func11, Tryd.ntmps11
  go_wp2
  all_goals
    go_ret
    first
      | exact tells_no
      | (refine ⟨_, rfl, fun h => ?_, rfl⟩; simp at h; omega)

/-- A Boolean that is true only where the fact holds; what lies in the world's blocks stays. -/
def TellsB (F : Prop) (w : World) (e : Ending) (w' : World) : Prop := ∃ b, e = .returned (.bool b) ∧ (b = true → F) ∧ Below w.heap.size w w'

set_option maxHeartbeats 4000000 in
set_option maxRecDepth 100000 in
theorem rday_calls (d : RDay) (w : World) : Calls Tryd.prog 12 #[.agg d.cells] w (TellsB (-604799 ≤ d.time ∧ d.time ≤ 604799) w) := by
  have X0 := Lib.hid (new_blk w (.cells d.cells 23))
  have B0 := Lib.hid (below_alloc' w (.cells d.cells 23))
  go_enter Tryd.func12, Tryd.ntmps12
  go_upto_region 1 with fail
  generalize w.alloc (.cells d.cells 23) = w1 at *
  have c0 := Lib.cell_of_heap X0.out 0
  have c1 := Lib.cell_of_heap X0.out 1
  have c2 := Lib.cell_of_heap X0.out 2
  have c3 := Lib.cell_of_heap X0.out 3
  have c4 := Lib.cell_of_heap X0.out 4
  have c5 := Lib.cell_of_heap X0.out 5
  simp at c0 c1 c2 c3 c4 c5
  go_wp2_with fail
  all_goals
    go_ret
    first
      | exact ⟨false, rfl, fun h => absurd h (by decide), B0.out⟩
      | exact ⟨_, rfl, fun _ => by omega, B0.out⟩
end Go.Proofs.YtifnpclcnlgecaaDoor
