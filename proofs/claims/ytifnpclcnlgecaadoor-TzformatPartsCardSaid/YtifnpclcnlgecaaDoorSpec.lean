/- Plain functions on lists of bytes: what a designation, a duration, a rule day and a rule look like when they are formatted. No program is in sight. -/
import Derived.Lib.ItoaNum
namespace Go.Proofs.YtifnpclcnlgecaaDoor
open Go

/-- An ASCII letter. -/
def alpha (c : UInt8) : Bool := (decide (97 ≤ c) && decide (c ≤ 122)) || (decide (65 ≤ c) && decide (c ≤ 90))

/-- A designation: bare if all its bytes are letters, else between '<' and '>'. -/
def fmtName (l : List UInt8) : List UInt8 := if l.all alpha then l else 60 :: (l ++ [62])

/-- ':' and two digits. -/
def fmtTwo (n : Nat) : List UInt8 := 58 :: (Lib.decDigits (n / 10) ++ Lib.decDigits (n % 10))

/-- Hours, and minutes and seconds where they are wanted. -/
def fmtPos (n : Nat) : List UInt8 :=
  (Lib.decDigits (n / 3600) ++ if n % 3600 = 0 then [] else fmtTwo (n % 3600 / 60)) ++ if n % 60 = 0 then [] else fmtTwo (n % 60)

/-- A duration. -/
def fmtHms (sec : Int) : List UInt8 := if sec < 0 then 45 :: fmtPos sec.natAbs else fmtPos sec.toNat

/-- A rule day: kind, day, month, week, weekday, time. -/
structure RDay where
  kind : Int
  day : Int
  month : Int
  week : Int
  wday : Int
  time : Int

def fmtDate (d : RDay) : List UInt8 :=
  if d.kind = 1 then 74 :: Lib.itoa d.day
  else if d.kind = 2 then Lib.itoa d.day
  else (77 :: Lib.itoa d.month) ++ (46 :: Lib.itoa d.week) ++ (46 :: Lib.itoa d.wday)

def fmtDay (d : RDay) : List UInt8 := fmtDate d ++ if d.time = 7200 then [] else 47 :: fmtHms d.time

/-- A rule. -/
structure RRule where
  std : ByteArray
  stdOff : Int
  hasDst : Bool
  dst : ByteArray
  dstOff : Int
  start : RDay
  fin : RDay

def fmtStd (r : RRule) : List UInt8 := fmtName r.std.data.toList ++ fmtHms (-r.stdOff)
def fmtDst (r : RRule) : List UInt8 :=
  fmtName r.dst.data.toList ++ (if r.dstOff = r.stdOff + 3600 then [] else fmtHms (-r.dstOff))
def fmtTail (r : RRule) : List UInt8 := (44 :: fmtDay r.start) ++ (44 :: fmtDay r.fin)
def fmtRule (r : RRule) : List UInt8 := if r.hasDst then fmtStd r ++ fmtDst r ++ fmtTail r else fmtStd r

/-! ### Lengths -/
theorem decDigits_len_lt (n : Nat) : ∀ k : Nat, n < 10 ^ (k + 1) → (Lib.decDigits n).length ≤ k + 1 := by
  intro k
  induction k generalizing n with
  | zero =>
    intro h
    rw [Lib.decDigits, dif_pos (by simpa using h)]; simp
  | succ k ih =>
    intro h
    rw [Lib.decDigits]
    split
    · simp
    · have := ih (n / 10) (by rw [Nat.div_lt_iff_lt_mul (by decide)]; rw [Nat.pow_succ] at h; exact h)
      simp; omega

theorem itoa_len (n : Int) (h0 : -9223372036854775808 ≤ n) (h1 : n ≤ 9223372036854775807) : (Lib.itoa n).length ≤ 21 := by
  unfold Lib.itoa
  split
  · have := decDigits_len_lt n.natAbs 19 (by omega)
    simp; omega
  · have := decDigits_len_lt n.toNat 19 (by omega)
    omega

theorem fmtTwo_len (n : Nat) (h : n < 1000000) : (fmtTwo n).length ≤ 13 := by
  unfold fmtTwo
  have h1 := decDigits_len_lt (n / 10) 5 (by omega)
  have h2 := decDigits_len_lt (n % 10) 5 (by omega)
  simp; omega

theorem fmtPos_len (n : Nat) (h : n < 1000000) : (fmtPos n).length ≤ 32 := by
  unfold fmtPos
  have h1 := decDigits_len_lt (n / 3600) 5 (by omega)
  have h2 := fmtTwo_len (n % 3600 / 60) (by omega)
  have h3 := fmtTwo_len (n % 60) (by omega)
  split <;> split <;> simp <;> omega

theorem fmtHms_len (n : Int) (h0 : -1000000 < n) (h1 : n < 1000000) : (fmtHms n).length ≤ 33 := by
  unfold fmtHms
  split
  · have := fmtPos_len n.natAbs (by omega)
    simp; omega
  · have := fmtPos_len n.toNat (by omega)
    omega

theorem fmtName_len (l : List UInt8) : (fmtName l).length ≤ l.length + 2 := by
  unfold fmtName; split <;> simp <;> omega

/-- A list never ends shorter than it began: the standard part is a prefix of the form, the tail a suffix. -/
theorem fmtRule_dst (r : RRule) (h : r.hasDst = true) : fmtRule r = fmtStd r ++ fmtDst r ++ fmtTail r := by
  unfold fmtRule; rw [if_pos h]

theorem decDigits_ne (n : Nat) : Lib.decDigits n ≠ [] := by
  rw [Lib.decDigits]; split <;> simp

theorem fmtName_ne (l : List UInt8) (h : l ≠ []) : fmtName l ≠ [] := by
  unfold fmtName; split <;> simp_all

end Go.Proofs.YtifnpclcnlgecaaDoor
