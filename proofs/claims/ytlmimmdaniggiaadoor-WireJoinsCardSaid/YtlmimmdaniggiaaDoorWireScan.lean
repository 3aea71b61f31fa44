/- What reading a number comes to, in plain Lean. No program in sight. -/
import Derived.Test.YtlmimmdaniggiaaDoorWirePlain
namespace Mor

/-- the byte at a place -/
def byteAt (s : ByteArray) (k : Nat) : UInt8 := (s.data.toList[k]?).getD 0
theorem byteAt_eq (s : ByteArray) (k : Nat) (h : k < s.size) : byteAt s k = s[k] := by
  unfold byteAt
  rw [List.getElem?_eq_getElem (by simpa using h)]
  rfl
theorem drop_byteAt (s : ByteArray) (k : Nat) (h : k < s.size) : s.data.toList.drop k = byteAt s k :: s.data.toList.drop (k + 1) := by
  have hl : k < s.data.toList.length := by simpa using h
  unfold byteAt
  rw [List.drop_eq_getElem_cons hl, List.getElem?_eq_getElem hl]
  rfl

inductive Res where
  | ends
  | form
  | num (m sg size : Nat) deriving DecidableEq

/-- the bytes from a place on, k of them being read: m and sg are what they have told -/
def scan : List UInt8 → Nat → Nat → Nat → Res
  | [], _, _, _ => .ends
  | b :: bs, k, m, sg =>
    if k = 0 then
      if b.toNat < 128 then .num (b.toNat % 128 / 2) (b.toNat % 128 % 2) 1 else scan bs 1 (b.toNat % 128 / 2) (b.toNat % 128 % 2)
    else if b.toNat = 0 ∨ (k = 9 ∧ 1 < b.toNat) then .form
    else
      if b.toNat < 128 then .num (m ||| (b.toNat % 128 * 2 ^ (7 * k - 1) % 18446744073709551616)) sg (k + 1)
      else scan bs (k + 1) (m ||| (b.toNat % 128 * 2 ^ (7 * k - 1) % 18446744073709551616)) sg

def numRes (s : ByteArray) (p : Int) : Res := if 0 ≤ p ∧ p ≤ s.size ∧ 1 ≤ s.size - p then scan (s.data.toList.drop p.toNat) 0 0 0 else .ends

theorem scan_zero (b : UInt8) (bs : List UInt8) (m sg : Nat) : scan (b :: bs) 0 m sg = if b.toNat < 128 then .num (b.toNat % 128 / 2) (b.toNat % 128 % 2) 1 else scan bs 1 (b.toNat % 128 / 2) (b.toNat % 128 % 2) := by
  simp [scan]
theorem scan_form (b : UInt8) (bs : List UInt8) (k m sg : Nat) (hk : k ≠ 0) (h : b.toNat = 0 ∨ (k = 9 ∧ 1 < b.toNat)) : scan (b :: bs) k m sg = .form := by
  simp only [scan, hk, if_false, h, if_true]
theorem scan_more (b : UInt8) (bs : List UInt8) (k m sg : Nat) (hk : k ≠ 0) (h : ¬ (b.toNat = 0 ∨ (k = 9 ∧ 1 < b.toNat))) : scan (b :: bs) k m sg =
    if b.toNat < 128 then .num (m ||| (b.toNat % 128 * 2 ^ (7 * k - 1) % 18446744073709551616)) sg (k + 1)
      else scan bs (k + 1) (m ||| (b.toNat % 128 * 2 ^ (7 * k - 1) % 18446744073709551616)) sg := by
  simp only [scan, hk, if_false, h]
end Mor
