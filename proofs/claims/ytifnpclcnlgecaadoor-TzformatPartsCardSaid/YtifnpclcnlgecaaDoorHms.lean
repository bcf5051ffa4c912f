/- What strconv.Itoa, hms.two and hms.Format compute. -/
import Derived.Test.YtifnpclcnlgecaaDoorSpec
import Derived.Test.YtifnpclcnlgecaaDoorShelf
import Derived.WalkKit
import Derived.WalkSmall
import Derived.WalkSpells
import Derived.Below
import Derived.KernelRfl
import Derived.Outline
set_option linter.unusedVariables false
namespace Go.Proofs.YtifnpclcnlgecaaDoor
open Go Go.RowKit

/-- The table that strconv reads. -/
def Tab (w : World) : Prop := Lib.TabIs Tryd.prog w "internal/strconv.uint64pow10" .u64 Lib.pow10Tab

theorem below_of_grow (w : World) (k : Nat) (os : Array Obj) : Below w.heap.size w (Sort.grow (w.drewN k) os) :=
  ⟨rfl, rfl, rfl, by simp [Sort.grow], fun i hi => by
    show (w.heap ++ os)[i]? = w.heap[i]?
    rw [Array.getElem?_append_left hi]⟩

theorem tab_below {w w' : World} (h : Tab w) (hb : Below w.heap.size w w') : Tab w' := by
  unfold Tab Lib.TabIs World.var? at h ⊢
  cases hg : Tryd.prog.globalNamed "internal/strconv.uint64pow10" with
  | none => simp [hg] at h
  | some g =>
    simp only [hg, Option.bind_some] at h ⊢
    cases hw : w.heap[g]? with
    | none => simp [hw] at h
    | some o =>
      have hlt : g < w.heap.size := (Array.getElem?_eq_some_iff.1 hw).1
      rw [hb.block g hlt]; exact h

/-- What a call that makes memory of its own leaves: a string, and all that was there as it was. -/
def Gives (w : World) (l : List UInt8) (e : Ending) (w' : World) : Prop := e = .returned (.string ⟨l.toArray⟩) ∧ Below w.heap.size w w'

theorem itoa_calls (n : Int) (h0 : -9223372036854775808 ≤ n) (h1 : n ≤ 9223372036854775807) (w : World) (ht : Tab w) :
    Calls Tryd.prog 22 #[.int .i64 n] w (Gives w (Lib.itoa n)) :=
  (Tryd.strconv_Itoa n h0 h1 w ht).mono fun e w' ⟨he, k, os, hw⟩ => ⟨he, hw ▸ below_of_grow w k os⟩

theorem ret_str {a b : ByteArray} (h : a = b) : Ending.returned (.string a) = .returned (.string b) := by rw [h]

theorem ba_append (a b : List UInt8) : (⟨a.toArray⟩ ++ ⟨b.toArray⟩ : ByteArray) = ⟨(a ++ b).toArray⟩ := by
  apply ByteArray.ext
  simp

theorem itoa_nat (n : Nat) : Lib.itoa (n : Int) = Lib.decDigits n := by
  unfold Lib.itoa; rw [if_neg (by omega)]; rfl

set_option maxHeartbeats 1000000 in
theorem two_calls (n : Nat) (hn : n < 1000000) (w : World) (ht : Tab w) :
    Calls Tryd.prog 23 #[.int .i64 n] w (Gives w (fmtTwo n)) := by
  have HT := Lib.hid ht
  clear ht
  go_enter Tryd.func23, Tryd.ntmps23
  go_wp2_with fail
  refine (itoa_calls _ (by omega) (by omega) _ HT.out).mono ?_
  rintro e w1 ⟨rfl, hb1⟩
  have HB1 := Lib.hid hb1
  clear hb1
  have hl1 := itoa_len ((n : Int) / 10) (by omega) (by omega)
  have e1 : Lib.itoa ((n : Int) / 10) = Lib.decDigits (n / 10) := itoa_nat (n / 10)
  generalize Lib.itoa ((n : Int) / 10) = l1 at *
  have E1 := Lib.hid e1
  clear e1
  go_wp2_with fail
  refine (itoa_calls _ (by omega) (by omega) _ (tab_below HT.out HB1.out)).mono ?_
  rintro e w2 ⟨rfl, hb2⟩
  have HB2 := Lib.hid hb2
  clear hb2
  have hl2 := itoa_len ((n : Int) % 10) (by omega) (by omega)
  have e2 : Lib.itoa ((n : Int) % 10) = Lib.decDigits (n % 10) := itoa_nat (n % 10)
  generalize Lib.itoa ((n : Int) % 10) = l2 at *
  have E2 := Lib.hid e2
  clear e2
  go_wp2_with fail
  go_ret
  refine ⟨ret_str ?_, HB1.out.trans (HB2.out.mono HB1.out.size)⟩
  unfold fmtTwo
  rw [← E1.out, ← E2.out]
  show ((⟨[58].toArray⟩ ++ ⟨l1.toArray⟩) ++ ⟨l2.toArray⟩ : ByteArray) = _
  rw [ba_append, ba_append]
  rfl

theorem gives_mono {w : World} {l l' : List UInt8} {e : Ending} {w' : World} (h : l = l') (hg : Gives w l e w') : Gives w l' e w' := h ▸ hg

theorem two_int (x : Int) (h0 : 0 ≤ x) (hn : x < 1000000) (w : World) (ht : Tab w) :
    Calls Tryd.prog 23 #[.int .i64 x] w (Gives w (fmtTwo x.toNat)) := by
  obtain ⟨n, rfl⟩ := Int.eq_ofNat_of_zero_le h0
  exact two_calls n (by omega) w ht

set_option maxHeartbeats 2000000 in
theorem pos_calls (n : Nat) (hn : n < 1000000) (w : World) (ht : Tab w) :
    Calls Tryd.prog 15 #[.int .i64 n] w (Gives w (fmtPos n)) := by
  have HT := Lib.hid ht
  clear ht
  have e1 : Lib.itoa ((n : Int) / 3600) = Lib.decDigits (n / 3600) := itoa_nat (n / 3600)
  have e2 : fmtTwo ((n : Int) % 3600 / 60).toNat = fmtTwo (n % 3600 / 60) := by rw [show ((n : Int) % 3600 / 60).toNat = n % 3600 / 60 from by omega]
  have e3 : fmtTwo ((n : Int) % 60).toNat = fmtTwo (n % 60) := by rw [show ((n : Int) % 60).toNat = n % 60 from by omega]
  have hl1 := itoa_len ((n : Int) / 3600) (by omega) (by omega)
  have hl2 := fmtTwo_len ((n : Int) % 3600 / 60).toNat (by omega)
  have hl3 := fmtTwo_len ((n : Int) % 60).toNat (by omega)
  have c1 := fun (w : World) (ht : Tab w) => itoa_calls ((n : Int) / 3600) (by omega) (by omega) w ht
  have c2 := fun (w : World) (ht : Tab w) => two_int ((n : Int) % 3600 / 60) (by omega) (by omega) w ht
  have c3 := fun (w : World) (ht : Tab w) => two_int ((n : Int) % 60) (by omega) (by omega) w ht
  generalize Lib.itoa ((n : Int) / 3600) = l1 at *
  generalize fmtTwo ((n : Int) % 3600 / 60).toNat = l2 at *
  generalize fmtTwo ((n : Int) % 60).toNat = l3 at *
  have E1 := Lib.hid e1
  have E2 := Lib.hid e2
  have E3 := Lib.hid e3
  have C1 := Lib.hid c1
  have C2 := Lib.hid c2
  have C3 := Lib.hid c3
  clear e1 e2 e3 c1 c2 c3
  by_cases h1 : n % 3600 = 0
  all_goals by_cases h2 : n % 60 = 0
  all_goals
    have H1 := Lib.hid h1
    have H2 := Lib.hid h2
    have t1 : ((n : Int) % 3600 == 0) = decide (n % 3600 = 0) := by rw [Bool.eq_iff_iff]; simp; omega
    have t2 : ((n : Int) % 60 == 0) = decide (n % 60 = 0) := by rw [Bool.eq_iff_iff]; simp; omega
    simp only [h1, h2, decide_true, decide_false] at t1 t2
    have F := Lib.hid (show fmtPos n = (l1 ++ if n % 3600 = 0 then [] else l2) ++ if n % 60 = 0 then [] else l3 from by unfold fmtPos; rw [← E1.out, ← E2.out, ← E3.out])
    clear h1 h2
    go_enter Tryd.func15, Tryd.ntmps15
    go_wp2_with fail
    refine (C1.out _ HT.out).mono ?_
    rintro e w1 ⟨rfl, hb1⟩
    have HB1 := Lib.hid hb1
    clear hb1
    go_wp2_with fail
  · go_ret
    refine ⟨ret_str ?_, HB1.out⟩
    rw [F.out, if_pos H1.out, if_pos H2.out]; simp
  · refine (C2.out _ (tab_below HT.out HB1.out)).mono ?_
    rintro e w2 ⟨rfl, hb2⟩
    have HB2 := Lib.hid (HB1.out.trans (hb2.mono HB1.out.size))
    clear hb2
    go_wp2_with fail
    go_ret
    refine ⟨ret_str ?_, HB2.out⟩
    rw [ba_append, F.out, if_neg H1.out, if_pos H2.out]; simp
  · refine (C2.out _ (tab_below HT.out HB1.out)).mono ?_
    rintro e w2 ⟨rfl, hb2⟩
    have HB2 := Lib.hid (HB1.out.trans (hb2.mono HB1.out.size))
    clear hb2
    go_wp2_with fail
    refine (C3.out _ (tab_below HT.out HB2.out)).mono ?_
    rintro e w3 ⟨rfl, hb3⟩
    have HB3 := Lib.hid (HB2.out.trans (hb3.mono HB2.out.size))
    clear hb3
    go_wp2_with fail
    go_ret
    refine ⟨ret_str ?_, HB3.out⟩
    rw [ba_append, ba_append, F.out, if_neg H1.out, if_neg H2.out]

theorem pos_int (x : Int) (h0 : 0 ≤ x) (hn : x < 1000000) (w : World) (ht : Tab w) :
    Calls Tryd.prog 15 #[.int .i64 x] w (Gives w (fmtPos x.toNat)) := by
  obtain ⟨n, rfl⟩ := Int.eq_ofNat_of_zero_le h0
  exact pos_calls n (by omega) w ht

set_option maxHeartbeats 1000000 in
theorem hms_calls (x : Int) (h0 : -1000000 < x) (hn : x < 1000000) (w : World) (ht : Tab w) :
    Calls Tryd.prog 15 #[.int .i64 x] w (Gives w (fmtHms x)) := by
  by_cases hx : x < 0
  · have HT := Lib.hid ht
    clear ht
    have F : fmtHms x = 45 :: fmtPos (-x).toNat := by unfold fmtHms; rw [if_pos hx, show x.natAbs = (-x).toNat from by omega]
    have hl := fmtPos_len (-x).toNat (by omega)
    have c := fun (w : World) (ht : Tab w) => pos_int (-x) (by omega) (by omega) w ht
    generalize fmtPos (-x).toNat = l at *
    have FF := Lib.hid F
    have C := Lib.hid c
    clear F c
    go_enter Tryd.func15, Tryd.ntmps15
    go_wp2_with fail
    refine (C.out _ HT.out).mono ?_
    rintro e w1 ⟨rfl, hb1⟩
    have HB1 := Lib.hid hb1
    clear hb1
    go_wp2_with fail
    go_ret
    refine ⟨ret_str ?_, HB1.out⟩
    show ((⟨[45].toArray⟩ ++ ⟨l.toArray⟩) : ByteArray) = _
    rw [ba_append, FF.out]
    rfl
  · exact (pos_int x (by omega) hn w ht).mono fun _ _ h => gives_mono (by unfold fmtHms; rw [if_neg hx]) h
end Go.Proofs.YtifnpclcnlgecaaDoor
