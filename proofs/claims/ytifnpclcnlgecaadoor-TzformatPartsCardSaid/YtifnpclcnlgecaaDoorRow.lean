/- THE STATEMENT: zoneinfolaw10.TzformatParts answers true at every rule and leaves it as it was. Its conditions: those of the given row alone: the three listed tables of the library read as their initialisers lay them (tied to the program's text by the card). -/
import Derived.Test.YtifnpclcnlgecaaDoorCards
import Derived.Test.YtifnpclcnlgecaaDoorTie
import Derived.Test.YtifnpclcnlgecaaDoorLaw
import Derived.ProofKit
import Derived.OpenShut
import Derived.Deep.DeepHandedRow
import Derived.Lib.LaidTab
import Derived.Stop.LaidErr
import Derived.Carry
namespace Go.Proofs.YtifnpclcnlgecaaDoor
open Go Go.ChangeShapes Go.WideShapes Go.ChangeAt Go.RowKit

theorem own : ownKnob Tryd.prog.godebug = none := by kernel_rfl
theorem laidOut : laidOutB Tryd.prog = true := by kernel_rfl
theorem gPow : Tryd.prog.globalNamed "internal/strconv.uint64pow10" = some 0 := by kernel_rfl
theorem gPowType : (Tryd.prog.globals[0]?).map (·.type) = some 94 := by kernel_rfl
theorem cells94 : Tryd.prog.cellsOf 94 = 20 := by kernel_rfl
theorem cells84 : Tryd.prog.cellsOf 84 = 1 := by kernel_rfl
theorem cells25 : Tryd.prog.cellsOf 25 = 17 := by kernel_rfl
theorem cells23 : Tryd.prog.cellsOf 23 = 6 := by kernel_rfl
theorem cells9 : Tryd.prog.cellsOf 9 = 1 := by kernel_rfl
theorem cells3 : Tryd.prog.cellsOf 3 = 1 := by kernel_rfl
theorem cells4 : Tryd.prog.cellsOf 4 = 1 := by kernel_rfl

/-- What the row's list gives: the table of the powers of ten. -/
theorem tab_of {W : World} (h : laidMetH Tryd.prog Rows.tzformatPartsRow.laid W) : Tab W := by
  have h1 : laidMet Tryd.prog Rows.tzformatPartsRow.laid W := h
  exact Lib.tabIs_of_head (rest := []) gPow gPowType Tryd.underlying94 Tryd.underlying84 cells84 cells94 (laidMet.tail (laidMet.tail h1))

/-- Six numbers in a row: a day. -/
theorem day_of {H : Type} {enc : TypeId × Value → H} {W : World} {base : Nat} {sp : Nat → Bool} {hd : Bool} {n : Nat} {v0 v1 v2 v3 v4 v5 : Value} {x : DataW H × List MemPlace}
    (h : DataW.trod enc Tryd.prog W base sp hd n 23 [v0, v1, v2, v3, v4, v5] = some x) : ∃ d : RDay, d.cells = #[v0, v1, v2, v3, v4, v5] ∧ DayIn d := by
  obtain ⟨xs, m, _, _, _, hlen, hf⟩ := DataW.trod_struct Tryd.underlying23 h
  match xs, hlen with
  | [y0, y1, y2, y3, y4, y5], _ =>
    obtain ⟨a0, e0, _, w0⟩ := DataW.trod_int Tryd.underlying3 (by simpa [cells3] using hf 0 _ rfl : DataW.trod enc Tryd.prog W base sp hd m 3 [v0] = some y0)
    obtain ⟨a1, e1, _, w1⟩ := DataW.trod_int Tryd.underlying3 (by simpa [cells3] using hf 1 _ rfl : DataW.trod enc Tryd.prog W base sp hd m 3 [v1] = some y1)
    obtain ⟨a2, e2, _, w2⟩ := DataW.trod_int Tryd.underlying3 (by simpa [cells3] using hf 2 _ rfl : DataW.trod enc Tryd.prog W base sp hd m 3 [v2] = some y2)
    obtain ⟨a3, e3, _, w3⟩ := DataW.trod_int Tryd.underlying3 (by simpa [cells3] using hf 3 _ rfl : DataW.trod enc Tryd.prog W base sp hd m 3 [v3] = some y3)
    obtain ⟨a4, e4, _, w4⟩ := DataW.trod_int Tryd.underlying3 (by simpa [cells3] using hf 4 _ rfl : DataW.trod enc Tryd.prog W base sp hd m 3 [v4] = some y4)
    obtain ⟨a5, e5, _, w5⟩ := DataW.trod_int Tryd.underlying3 (by simpa [cells3] using hf 5 _ rfl : DataW.trod enc Tryd.prog W base sp hd m 3 [v5] = some y5)
    simp only [List.cons.injEq, and_true] at e0 e1 e2 e3 e4 e5
    subst e0 e1 e2 e3 e4 e5
    have b1 := bounds_i64 w1
    have b2 := bounds_i64 w2
    have b3 := bounds_i64 w3
    have b4 := bounds_i64 w4
    exact ⟨⟨a0, a1, a2, a3, a4, a5⟩, rfl, b1.1, b1.2, b2.1, b2.2, b3.1, b3.2, b4.1, b4.2⟩

/-- The argument: a rule, its numbers as they fit, its names as long as memory is. -/
theorem rule_of {H : Type} {enc : TypeId × Value → H} {W : World} {base b0 : Nat} {sp : Nat → Bool} {hd : Bool} {r : Reach} {v : Value} {d : DataW H} {p : List MemPlace}
    (hv : Value.okWide Tryd.prog W r b0 25 v) (h : DataW.Trod enc Tryd.prog W base sp hd 25 v d p) (hz : (DataW.weightsEach Tryd.prog [25] [d]).all (· ≤ reachBytes) = true) :
    ∃ q : RRule, v = .agg q.cells ∧ q.std.size < 4611686018427387904 ∧ q.dst.size < 4611686018427387904 ∧ DayIn q.start ∧ DayIn q.fin := by
  obtain ⟨cs, rfl, hsz⟩ := okWide_struct Tryd.underlying25 hv
  rw [cells25] at hsz
  obtain ⟨l⟩ := cs
  obtain ⟨fuel, hf0⟩ := h
  obtain ⟨xs, m, _, hx, _, hlen, hf⟩ := DataW.trod_struct Tryd.underlying25 hf0
  match l, hsz with
  | [v0, v1, v2, v3, v4, s0, s1, s2, s3, s4, s5, e0, e1, e2, e3, e4, e5], _ =>
    match xs, hlen with
    | [y0, y1, y2, y3, y4, y5, y6], _ =>
      obtain ⟨a, k0, q0, _⟩ := DataW.trod_string Tryd.underlying9 (by simpa [cells9, Value.cells] using hf 0 _ rfl : DataW.trod enc Tryd.prog W base sp hd m 9 [v0] = some y0)
      obtain ⟨ao, k1, q1, _⟩ := DataW.trod_int Tryd.underlying3 (by simpa [cells3, Value.cells] using hf 1 _ rfl : DataW.trod enc Tryd.prog W base sp hd m 3 [v1] = some y1)
      obtain ⟨ab, k2, q2⟩ := DataW.trod_bool Tryd.underlying4 (by simpa [cells4, Value.cells] using hf 2 _ rfl : DataW.trod enc Tryd.prog W base sp hd m 4 [v2] = some y2)
      obtain ⟨c, k3, q3, _⟩ := DataW.trod_string Tryd.underlying9 (by simpa [cells9, Value.cells] using hf 3 _ rfl : DataW.trod enc Tryd.prog W base sp hd m 9 [v3] = some y3)
      obtain ⟨co, k4, q4, _⟩ := DataW.trod_int Tryd.underlying3 (by simpa [cells3, Value.cells] using hf 4 _ rfl : DataW.trod enc Tryd.prog W base sp hd m 3 [v4] = some y4)
      obtain ⟨ds, ks, is⟩ := day_of (by simpa [cells23, Value.cells] using hf 5 _ rfl : DataW.trod enc Tryd.prog W base sp hd m 23 [s0, s1, s2, s3, s4, s5] = some y5)
      obtain ⟨de, ke, ie⟩ := day_of (by simpa [cells23, Value.cells] using hf 6 _ rfl : DataW.trod enc Tryd.prog W base sp hd m 23 [e0, e1, e2, e3, e4, e5] = some y6)
      simp only [List.cons.injEq, and_true] at k0 k1 k2 k3 k4
      subst k0 k1 k2 k3 k4 q0 q1 q2 q3 q4
      simp only [Prod.mk.injEq] at hx
      obtain ⟨rfl, _⟩ := hx
      simp [DataW.weightsEach, DataW.weights, Tryd.underlying25] at hz
      have hr : reachBytes < 4611686018427387904 := by unfold reachBytes; decide
      have z0 : a.size ≤ reachBytes := hz.1
      have z3 : c.size ≤ reachBytes := hz.2.1
      simp only [RDay.cells, Array.mk.injEq, List.cons.injEq, and_true] at ks ke
      obtain ⟨rfl, rfl, rfl, rfl, rfl, rfl⟩ := ks
      obtain ⟨rfl, rfl, rfl, rfl, rfl, rfl⟩ := ke
      exact ⟨⟨a, ao, ab, c, co, ds, de⟩, rfl, by show a.size < _; omega, by show c.size < _; omega, is, ie⟩

/-- The walk, for every argument and every world that holds the table. -/
theorem contract (H : Type) (enc : TypeId × Value → H) (W : World) (base : Nat) (args : Array Value) (ds gs : List (DataW H)) (before : List MemPlace)
    (hval : ∀ (j : Nat) t v, Tryd.f3.params[j]? = some t → args[j]? = some v → Value.okWide Tryd.prog W .any base t v)
    (hW : DataW.Whole enc Tryd.prog Tryd.f3.params.toList Rows.tzformatPartsSpec.vars false W args.toList ds gs before)
    (hz : (DataW.weightsEach Tryd.prog (Tryd.f3.params.toList ++ (OpenSpec.ofChange Rows.tzformatPartsSpec).bare.plain.varTypes Tryd.prog) (ds ++ gs)).all (· ≤ reachBytes) = true)
    (hL : laidMetH Tryd.prog Rows.tzformatPartsRow.laid W) :
    Calls Tryd.prog 3 args W fun e W' => ∃ v, e = .returned v ∧ Rows.tzformatPartsSpec.post enc Tryd.prog Tryd.f3 false true false false W args v W' := by
  have hW' := hW
  obtain ⟨p, q, hA0, hV, rfl, hfz, hnd⟩ := hW
  have hA : DataW.TrodAll enc Tryd.prog W 0 (fun _ => true) true Tryd.f3.params.toList args.toList ds p := hA0
  rw [Tryd.params3] at hA hval
  obtain ⟨v0, d0, rfl, rfl, h0⟩ := trodAll_one hA
  obtain ⟨rfl, rfl⟩ := trodVars_none hV
  clear hA0
  simp only [List.append_nil] at hW'
  have hz' : (DataW.weightsEach Tryd.prog [25] [d0]).all (· ≤ reachBytes) = true := by
    have e : Tryd.f3.params.toList ++ (OpenSpec.ofChange Rows.tzformatPartsSpec).bare.plain.varTypes Tryd.prog = [25] := by rw [Tryd.params3]; rfl
    rw [e] at hz
    simpa using hz
  obtain ⟨r, rfl, z1, z2, i1, i2⟩ := rule_of (hval 0 25 v0 rfl rfl) h0 hz'
  have hlt : ∀ x ∈ p, x.block < W.heap.size := fun x hx => by simpa using hW'.lt x hx
  refine (law_calls r z1 z2 i1 i2 W (tab_of hL)).mono fun e W' ⟨he, hb⟩ => ?_
  subst he
  exact ⟨_, rfl, [d0], [], p, [], p, [], hW', trodAll_mk1 (shut_bool Tryd.underlying4 _),
    trodAll_mk1 (Below.trod laidOut (by kernel_rfl) (of_decide_eq_true (by kernel_rfl)) h0 hb hlt), rfl, hb.frame _, fun h => by cases h⟩

def db32 : List Int := [0, 1, 28, 2, 29, 14, 24, 3, 30, 22, 20, 15, 25, 17, 4, 8, 31, 27, 13, 23, 21, 19, 16, 7, 26, 12, 18, 6, 11, 5, 10, 9]
def db64 : List Int := [0, 1, 56, 2, 57, 49, 28, 3, 61, 58, 42, 50, 38, 29, 17, 4, 62, 47, 59, 36, 45, 43, 51, 22, 53, 39, 33, 30, 24, 18, 12, 5, 63, 55, 48, 27, 60, 41, 37, 16, 46, 35, 44, 21, 52, 32, 23, 11, 54, 26, 40, 15, 34, 20, 31, 10, 25, 14, 19, 9, 13, 8, 7, 6]
/-- A heap in which one block holds a table. -/
def setTab (g : Nat) (zs : List Value) (h : Array Obj) : Array Obj :=
  h.modify g fun
    | .cells _ t frozen => .cells zs.toArray t frozen
    | o => o
/-- A world for the witness: the settled one, the tables holding what their initialisers lay. -/
noncomputable def laidWorld (os : Os) : World :=
  { World.holding Tryd.prog os ⟨#[], #[], []⟩ with heap := setTab 3 (db64.map fun z => Value.int .u8 z) (setTab 2 (db32.map fun z => Value.int .u8 z) (setTab 0 (Lib.pow10Tab.map fun z => Value.int .u64 z) (World.holding Tryd.prog os ⟨#[], #[], []⟩).heap)) }
abbrev zeroRule : Value := .agg #[.string ⟨#[]⟩, .int .i64 0, .bool false, .string ⟨#[]⟩, .int .i64 0, .int .i64 0, .int .i64 0, .int .i64 0, .int .i64 0, .int .i64 0, .int .i64 0, .int .i64 0, .int .i64 0, .int .i64 0, .int .i64 0, .int .i64 0, .int .i64 0]
theorem laid_met (os : Os) : laidMet Tryd.prog Rows.tzformatPartsRow.laid ((laidWorld os).forCall (fun _ _ => 0) ⟨#[], #[zeroRule], []⟩).memory :=
  laidMet_of_run' 8 (by kernel_rfl) (by kernel_rfl)
theorem reads (os : Os) {H : Type} (enc : TypeId × Value → H) : ∃ places, DataW.whole enc Tryd.prog ((laidWorld os).forCall (fun _ _ => 0) ⟨#[], #[zeroRule], []⟩).memory Tryd.f3.params.toList Rows.tzformatPartsSpec.vars false #[zeroRule].toList 8 =
    some ([.agg [.lit (.string []), .lit (.int .i64 0), .lit (.bool false), .lit (.string []), .lit (.int .i64 0), .agg [.lit (.int .i64 0), .lit (.int .i64 0), .lit (.int .i64 0), .lit (.int .i64 0), .lit (.int .i64 0), .lit (.int .i64 0)], .agg [.lit (.int .i64 0), .lit (.int .i64 0), .lit (.int .i64 0), .lit (.int .i64 0), .lit (.int .i64 0), .lit (.int .i64 0)]]], [], places) :=
  ⟨[], by kernel_rfl⟩

set_option maxRecDepth 100000 in
theorem lifted (os : Os) (started : os.Started) (H : Type) (enc : TypeId × Value → H) (F : Stop.Interp) :
    ReturnsInHanded {} Tryd.checked os 3 .any ((OpenSpec.ofChange Rows.tzformatPartsSpec).preRow enc Tryd.prog Tryd.f3 Rows.tzformatPartsRow.domain false Rows.tzformatPartsRow.laid) (((OpenSpec.ofChange Rows.tzformatPartsSpec).at F).post enc Tryd.prog Tryd.f3 false true false false) := by
  obtain ⟨places, hx⟩ := reads os enc
  refine returnsInHanded_of_row (C := Tryd.checked) (s := OpenSpec.ofChange Rows.tzformatPartsSpec) own started (by kernel_rfl) Tryd.func3
    (witness_row_at (enc := enc) (C := Tryd.checked) false (laidWorld os) #[zeroRule] rfl (by kernel_rfl) (by kernel_rfl) (by kernel_rfl)
      (OpenSpec.preRow_of_cond 8 hx (by kernel_rfl) (fun k hk => by cases hk) (by kernel_rfl) (laid_met os))) ?_
  intro W base args ds gs before hval hW _ _ hz hL _ _
  exact contract H enc W base args ds gs before hval hW hz hL

theorem said : Rows.TzformatPartsSaid :=
  OpenClaim.holds_of_cond 3 Tryd.f3 rfl rfl rfl rfl rfl rfl rfl ⟨rfl, rfl, rfl, rfl, rfl⟩ rfl rfl rfl rfl rfl (by kernel_rfl) Tryd.func3 (by kernel_rfl)
    (of_decide_eq_true (by kernel_rfl)) (by unfold Func.isWrapper; first | (rw [if_pos (by decide +kernel)]; kernel_rfl) | (rw [if_neg (by decide +kernel)]; exact ⟨rfl, rfl⟩))
    (fun os started H enc _ F => by rw [OpenClaim.pre_eq_preRow]; exact lifted os started H enc F)

/-- No parameter wants a stand-in; the program's own looks are as the card says. -/
theorem plainly (f : FuncId) (fn : Func) (hf : Tryd.pinned.checked.prog.funcNamed "zoneinfo/zoneinfolaw10.TzformatParts" = some f) (hfn : Tryd.pinned.checked.prog.funcs[f]? = some fn) :
    true = Tryd.pinned.checked.prog.looks [] ∧ ∀ (j : Nat) t, fn.params[j]? = some t → Tryd.pinned.checked.prog.wantsStandIn t = false := by
  obtain rfl : f = 3 := Option.some.inj ((show Tryd.prog.funcNamed "zoneinfo/zoneinfolaw10.TzformatParts" = some 3 by kernel_rfl).symm.trans hf) |>.symm
  obtain rfl : fn = Tryd.f3 := (Option.some.inj (Tryd.func3.symm.trans hfn)).symm
  refine ⟨by kernel_rfl, fun j t ht => ?_⟩
  rw [Tryd.params3] at ht
  obtain rfl : t = 25 := by simpa using Array.mem_of_getElem? ht
  exact (show Tryd.prog.wantsStandIn 25 = false by kernel_rfl)

/-- THE CARD. -/
theorem tzformatParts_card : Rows.TzformatPartsCardSaid :=
  Claim7.holds_tied_plain_at .later [] _ _ _ _ said (fun _ h => by cases h) (by kernel_rfl) (fun _ h => by cases h) tzformatParts_row_tie rfl ⟨rfl, rfl⟩ (by kernel_rfl) rfl plainly (by kernel_rfl)
#print axioms tzformatParts_card
end Go.Proofs.YtifnpclcnlgecaaDoor
