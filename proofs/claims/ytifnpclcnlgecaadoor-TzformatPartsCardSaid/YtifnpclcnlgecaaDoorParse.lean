/- What hms.Parse computes at a text that doesn't begin with '-'. -/
import Derived.Test.YtifnpclcnlgecaaDoorFields
import Derived.Test.YtifnpclcnlgecaaDoorDay
set_option linter.unusedVariables false
namespace Go.Proofs.YtifnpclcnlgecaaDoor
open Go Go.RowKit

theorem new_cell (w : World) (cs : Array Value) (T : TypeId) (j : Nat) : (w.alloc (.cells cs T)).cell? ⟨w.heap.size, j, none⟩ = cs[j]? :=
  Lib.cell_of_heap (b := w.heap.size) (cs := cs) (T := T) (fr := (0, 0)) (by show (w.heap.push _)[w.heap.size]? = _; simp) j

theorem dig_lt (s : ByteArray) (i : Nat) (h : (dig s i).2 = true) : i < s.size := by
  by_cases hi : i < s.size
  · exact hi
  · unfold dig at h; rw [byteAt_ge s i hi] at h; simp at h

theorem hoursF_ok (s : ByteArray) (k : Nat) (h : (hoursF s k).2.2 = true) : 0 ≤ (hoursF s k).1 ∧ (hoursF s k).1 ≤ 167 ∧ ∃ n : Nat, (hoursF s k).2.1 = n ∧ n ≤ s.size ∧ n ≤ k + 3 := by
  have b0 := dig_bd s k
  have b1 := dig_bd s (k + 1)
  have b2 := dig_bd s (k + 2)
  have l0 := dig_lt s k
  have l1 := dig_lt s (k + 1)
  have l2 := dig_lt s (k + 2)
  by_cases h0 : (dig s k).2 = true
  · by_cases h1 : (dig s (k + 1)).2 = true
    · by_cases h2 : (dig s (k + 2)).2 = true
      · by_cases h3 : (dig s (k + 3)).2 = true
        · have e : hoursF s k = (0, 0, false) := by unfold hoursF; simp [h0, h1, h2, h3]
          rw [e] at h; simp at h
        · have e : hoursF s k = (((dig s k).1 * 10 + (dig s (k + 1)).1) * 10 + (dig s (k + 2)).1, ((k + 3 : Nat) : Int), decide (((dig s k).1 * 10 + (dig s (k + 1)).1) * 10 + (dig s (k + 2)).1 ≤ 167)) := by
            unfold hoursF; simp [h0, h1, h2, h3]
          rw [e] at h ⊢
          simp only [decide_eq_true_eq] at h
          exact ⟨by simp only; omega, h, k + 3, rfl, by have := l2 h2; omega, by omega⟩
      · have e : hoursF s k = ((dig s k).1 * 10 + (dig s (k + 1)).1, ((k + 2 : Nat) : Int), decide ((dig s k).1 * 10 + (dig s (k + 1)).1 ≤ 167)) := by
          unfold hoursF; simp [h0, h1, h2]
        rw [e] at h ⊢
        simp only [decide_eq_true_eq] at h
        exact ⟨by simp only; omega, h, k + 2, rfl, by have := l1 h1; omega, by omega⟩
    · have e : hoursF s k = ((dig s k).1, ((k + 1 : Nat) : Int), decide ((dig s k).1 ≤ 167)) := by
        unfold hoursF; simp [h0, h1]
      rw [e] at h ⊢
      simp only [decide_eq_true_eq] at h
      exact ⟨by simp only; omega, h, k + 1, rfl, by have := l0 h0; omega, by omega⟩
  · have e : hoursF s k = (0, (k : Int), false) := by unfold hoursF; simp [h0]
    rw [e] at h; simp at h

theorem fieldF_bd (s : ByteArray) (k : Nat) : -1 ≤ fieldF s k ∧ fieldF s k ≤ 59 := by
  have b1 := dig_bd s (k + 1)
  have b2 := dig_bd s (k + 2)
  unfold fieldF
  split
  · split <;> omega
  · omega

theorem fieldsF_bd (s : ByteArray) (k : Nat) : 0 ≤ (fieldsF s k).1 ∧ (fieldsF s k).1 ≤ 3599 := by
  have b1 := fieldF_bd s k
  have b2 := fieldF_bd s (k + 3)
  unfold fieldsF
  split
  · simp
  · split <;> simp <;> omega

/-- A duration that doesn't begin with '-'. -/
def hmsAt (s : ByteArray) : Nat := if Lib.hasPrefix s.data.toList [43] then 1 else 0
def hmsF (s : ByteArray) : Int × Int × Bool :=
  if (hoursF s (hmsAt s)).2.2 then ((hoursF s (hmsAt s)).1 * 3600 + (fieldsF s (hoursF s (hmsAt s)).2.1.toNat).1, (fieldsF s (hoursF s (hmsAt s)).2.1.toNat).2, true) else (0, 0, false)

theorem pre_calls (s : ByteArray) (c : UInt8) (o : Bool) (ho : Lib.hasPrefix s.data.toList [c] = o) (w : World) :
    Calls Tryd.prog 44 #[.string s, .string { data := #[c] }] w fun e w' => e = .returned (.bool o) ∧ w = w' := by
  subst ho
  exact (Tryd.strings_HasPrefix _ _ w).mono fun e w' ⟨he, hw⟩ => ⟨he, hw.symm⟩

theorem pre_first (s : ByteArray) (c : UInt8) (h : Lib.hasPrefix s.data.toList [c] = true) : ∃ h0 : 0 < s.size, s[0] = c := by
  unfold Lib.hasPrefix at h
  cases hl : s.data.toList with
  | nil => rw [hl] at h; simp at h
  | cons x l =>
    rw [hl] at h
    simp only [List.isPrefixOf, Bool.and_eq_true, beq_iff_eq] at h
    have hx : x = c := h.1.symm
    have hs : 0 < s.size := by
      have := congrArg List.length hl
      rw [Array.length_toList] at this
      show 0 < s.data.size
      rw [this]; simp
    refine ⟨hs, ?_⟩
    have h0 : s.data.toList[0]? = some x := by rw [hl]; rfl
    rw [List.getElem?_eq_getElem (by rw [hl]; simp)] at h0
    have : s.data.toList[0]'(by rw [hl]; simp) = x := by simpa using h0
    rw [← hx, ← this]
    rfl

set_option maxHeartbeats 1000000 in
theorem hms_parse (s : ByteArray) (hz : s.size < 1000000) (hm : Lib.hasPrefix s.data.toList [45] = false) (w : World) :
    Calls Tryd.prog 35 #[.string s] w fun e w' => e = .returned (.tuple #[.int .i64 (hmsF s).1, .int .i64 (hmsF s).2.1, .bool (hmsF s).2.2]) ∧ Below w.heap.size w w' := by
  have c45 := pre_calls s 45 _ hm
  have c43 := pre_calls s 43 _ rfl
  have f43 := pre_first s 43
  have ch := hours_calls s (hmsAt s) (by unfold hmsAt; split <;> omega)
  have ok := hoursF_ok s (hmsAt s)
  obtain ⟨hh, eH⟩ : ∃ hh, hmsF s = hh := ⟨_, rfl⟩
  rw [eH]
  unfold hmsF at eH
  have eA : hmsAt s = if Lib.hasPrefix s.data.toList [43] then 1 else 0 := rfl
  generalize hmsAt s = k at *
  generalize hoursF s k = q at *
  obtain ⟨h, n, o⟩ := q
  simp only at eH ok ch
  have EH := Lib.hid eH
  have EA := Lib.hid eA
  have C45 := Lib.hid c45
  have C43 := Lib.hid c43
  have CH := Lib.hid ch
  have F43 := Lib.hid f43
  have OK := Lib.hid ok
  clear eH eA c45 c43 ch f43 ok hm
  cases hp : Lib.hasPrefix s.data.toList [43] with
  | true =>
    rw [hp] at C43
    obtain rfl : k = 1 := by rw [EA.out, hp]; rfl
    obtain ⟨h0, hs0⟩ := F43.out hp
    have t0 : ((s[0].toNat : Int) == 45) = false := by rw [hs0]; rfl
    clear hs0
    clear hp
    cases o with
    | false =>
      go_enter Tryd.func35, Tryd.ntmps35
      go_wp2_with fail
      refine (C45.out _).mono ?_
      rintro e w1 ⟨rfl, rfl⟩
      go_wp2_with fail
      refine (C43.out _).mono ?_
      rintro e w1 ⟨rfl, rfl⟩
      go_wp2_with fail
      refine (CH.out _).mono ?_
      rintro e w1 ⟨rfl, rfl⟩
      go_wp2_with fail
      go_ret3
      exact ⟨ret_iib (by rw [← EH.out]; rfl), Below.refl _ _⟩
    | true =>
      obtain ⟨o1, o2, m, rfl, hms, hmk⟩ := OK.out rfl
      have bf := fieldsF_bd s m
      have cf := fun b w c0 c1 => fields_calls s m hms (by omega) b w c0 c1
      rw [Int.toNat_natCast] at EH
      generalize fieldsF s m = f at *
      obtain ⟨f1, f2⟩ := f
      simp only at bf cf
      obtain ⟨bf0, bf1⟩ := bf
      have CF := Lib.hid cf
      clear cf
      go_enter Tryd.func35, Tryd.ntmps35
      go_wp2_with fail
      refine (C45.out _).mono ?_
      rintro e w1 ⟨rfl, rfl⟩
      go_wp2_with fail
      refine (C43.out _).mono ?_
      rintro e w1 ⟨rfl, rfl⟩
      go_wp2_with fail
      refine (CH.out _).mono ?_
      rintro e w1 ⟨rfl, rfl⟩
      go_wp2_with fail
      refine (CF.out _ _ (new_cell _ _ _ 0) (new_cell _ _ _ 1)).mono ?_
      rintro e w1 ⟨rfl, rfl⟩
      go_wp2_with fail
      go_ret3
      exact ⟨ret_iib (by rw [← EH.out]; rfl), below_alloc' _ _⟩
  | false =>
    rw [hp] at C43
    obtain rfl : k = 0 := by rw [EA.out, hp]; rfl
    clear hp
    cases o with
    | false =>
      go_enter Tryd.func35, Tryd.ntmps35
      go_wp2_with fail
      refine (C45.out _).mono ?_
      rintro e w1 ⟨rfl, rfl⟩
      go_wp2_with fail
      refine (C43.out _).mono ?_
      rintro e w1 ⟨rfl, rfl⟩
      go_wp2_with fail
      refine (CH.out _).mono ?_
      rintro e w1 ⟨rfl, rfl⟩
      go_wp2_with fail
      go_ret3
      exact ⟨ret_iib (by rw [← EH.out]; rfl), Below.refl _ _⟩
    | true =>
      obtain ⟨o1, o2, m, rfl, hms, hmk⟩ := OK.out rfl
      have bf := fieldsF_bd s m
      have cf := fun b w c0 c1 => fields_calls s m hms (by omega) b w c0 c1
      rw [Int.toNat_natCast] at EH
      generalize fieldsF s m = f at *
      obtain ⟨f1, f2⟩ := f
      simp only at bf cf
      obtain ⟨bf0, bf1⟩ := bf
      have CF := Lib.hid cf
      clear cf
      go_enter Tryd.func35, Tryd.ntmps35
      go_wp2_with fail
      refine (C45.out _).mono ?_
      rintro e w1 ⟨rfl, rfl⟩
      go_wp2_with fail
      refine (C43.out _).mono ?_
      rintro e w1 ⟨rfl, rfl⟩
      go_wp2_with fail
      refine (CH.out _).mono ?_
      rintro e w1 ⟨rfl, rfl⟩
      go_wp2_with fail
      refine (CF.out _ _ (new_cell _ _ _ 0) (new_cell _ _ _ 1)).mono ?_
      rintro e w1 ⟨rfl, rfl⟩
      go_wp2_with fail
      go_ret3
      exact ⟨ret_iib (by rw [← EH.out]; rfl), below_alloc' _ _⟩
end Go.Proofs.YtifnpclcnlgecaaDoor
