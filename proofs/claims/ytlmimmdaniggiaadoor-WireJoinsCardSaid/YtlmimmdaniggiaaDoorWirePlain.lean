/- Plain definitions for the layer wire: the sum's steps over natural numbers. No program in sight. -/
import Derived.Laws.BitsAllLaws
namespace Mor
open Go

/-- one bit of the sum -/
def crcBit (c : Nat) : Nat := if c % 2 = 1 then c / 2 ^^^ 3988292384 else c / 2
def crcBits : Nat → Nat → Nat
  | 0, c => c
  | k + 1, c => crcBit (crcBits k c)
/-- one byte of the sum -/
def crcByte (c b : Nat) : Nat := crcBits 8 (c ^^^ b)
def crcFrom (c : Nat) (l : List UInt8) : Nat := l.foldl (fun c b => crcByte c b.toNat) c
def crc (l : List UInt8) : Nat := 4294967295 - crcFrom 4294967295 l

theorem xor_lt32 {a b : Nat} (ha : a < 4294967296) (hb : b < 4294967296) : a ^^^ b < 4294967296 := Nat.xor_lt_two_pow (n := 32) ha hb
theorem crcBit_lt {c : Nat} (h : c < 4294967296) : crcBit c < 4294967296 := by
  unfold crcBit
  split
  · exact xor_lt32 (by omega) (by decide)
  · omega
theorem crcBits_lt {c : Nat} (h : c < 4294967296) : ∀ k, crcBits k c < 4294967296
  | 0 => h
  | k + 1 => crcBit_lt (crcBits_lt h k)
theorem crcByte_lt {c b : Nat} (h : c < 4294967296) (hb : b < 256) : crcByte c b < 4294967296 := crcBits_lt (xor_lt32 h (by omega)) 8
theorem crcFrom_lt {c : Nat} (h : c < 4294967296) : ∀ l, crcFrom c l < 4294967296 := by
  intro l
  induction l generalizing c with
  | nil => exact h
  | cons b l ih => exact ih (crcByte_lt h (by exact UInt8.toNat_lt b))
theorem crcFrom_snoc (c : Nat) (l : List UInt8) (b : UInt8) : crcFrom c (l ++ [b]) = crcByte (crcFrom c l) b.toNat := by
  simp [crcFrom]

theorem xor_ones {x : Nat} (h : x < 4294967296) : 4294967295 ^^^ x = 4294967295 - x := by
  apply Nat.eq_of_testBit_eq
  intro i
  have e : 4294967295 - x = 2 ^ 32 - (x + 1) := by omega
  rw [e, Nat.testBit_two_pow_sub_succ (by omega)]
  rw [Nat.testBit_xor, show (4294967295 : Nat) = 2 ^ 32 - 1 by rfl, Nat.testBit_two_pow_sub_one]
  by_cases hi : i < 32
  · simp [hi]
  · simp [hi]
    exact Nat.testBit_lt_two_pow (Nat.lt_of_lt_of_le (show x < 2 ^ 32 by omega) (Nat.pow_le_pow_right (by decide) (by omega)))

/-! numbers' groups and bytes -/
def mag (n : Int) : Nat := if n < 0 then (-1 - n).toNat else n.toNat
def sgn (n : Int) : Nat := if n < 0 then 1 else 0
theorem sgn_le (n : Int) : sgn n ≤ 1 := by unfold sgn; split <;> omega
theorem mag_lt {n : Int} (h1 : -9223372036854775808 ≤ n) (h2 : n < 9223372036854775808) : mag n < 9223372036854775808 := by unfold mag; split <;> omega
def tailG : Nat → Nat → List (Fin 128)
  | 0, _ => []
  | f + 1, m => if m = 0 then [] else ⟨m % 128, Nat.mod_lt _ (by decide)⟩ :: tailG f (m / 128)
def headG (n : Int) : Fin 128 := ⟨mag n % 64 * 2 + sgn n, by have := sgn_le n; omega⟩
def numG (n : Int) : List (Fin 128) := headG n :: tailG 9 (mag n / 64)
theorem tailG_zero (f : Nat) : tailG f 0 = [] := by cases f <;> simp [tailG]
theorem tailG_pos (f m : Nat) (h : m ≠ 0) : tailG (f + 1) m = ⟨m % 128, Nat.mod_lt _ (by decide)⟩ :: tailG f (m / 128) := by simp [tailG, h]

/-- the bytes of groups that are followed by others -/
def cont (l : List (Fin 128)) : List UInt8 := l.map fun g => UInt8.ofNat (g.val + 128)
def marks (l : List (Fin 128)) : List UInt8 := match l.getLast? with
  | none => []
  | some z => cont l.dropLast ++ [UInt8.ofNat z.val]
def numBytes (n : Int) : List UInt8 := marks (numG n)
theorem marks_nil : marks [] = [] := rfl
theorem marks_snoc (l : List (Fin 128)) (y : Fin 128) : marks (l ++ [y]) = cont l ++ [UInt8.ofNat y.val] := by simp [marks]
theorem cont_snoc (l : List (Fin 128)) (y : Fin 128) : cont (l ++ [y]) = cont l ++ [UInt8.ofNat (y.val + 128)] := by simp [cont]
theorem length_cont (l : List (Fin 128)) : (cont l).length = l.length := by simp [cont]
theorem length_marks (l : List (Fin 128)) : (marks l).length = l.length := by
  rcases List.eq_nil_or_concat l with rfl | ⟨q, z, rfl⟩
  · rfl
  · rw [List.concat_eq_append, marks_snoc]; simp [length_cont]
theorem length_tailG : ∀ f m, (tailG f m).length ≤ f
  | 0, _ => by simp [tailG]
  | f + 1, m => by
    have := length_tailG f (m / 128)
    simp only [tailG]
    split <;> simp <;> omega
theorem length_numG (n : Int) : (numG n).length ≤ 10 := by
  have := length_tailG 9 (mag n / 64)
  simp only [numG, List.length_cons]
  omega
theorem toNat_ofNat_lt {n : Nat} (h : n < 256) : (UInt8.ofNat n).toNat = n := by simp; omega

end Mor
