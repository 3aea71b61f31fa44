/- Plain definitions for values: orders of numbers, of texts, of values. No program in sight. -/
import Derived.WalkLawsBesides
import Derived.Lib.Strings
namespace Mor
def ordI (a b : Int) : Int := if a < b then -1 else if b < a then 1 else 0
/-- the order of two texts, by their bytes -/
def ordS : List UInt8 → List UInt8 → Int
  | [], [] => 0
  | [], _ :: _ => -1
  | _ :: _, [] => 1
  | a :: l, b :: r => if a < b then -1 else if b < a then 1 else ordS l r
theorem ordI_self (a : Int) : ordI a a = 0 := by simp [ordI]
theorem ordI_zero {a b : Int} : ordI a b = 0 ↔ a = b := by unfold ordI; split <;> (try split) <;> omega
theorem ordS_self : ∀ l, ordS l l = 0
  | [] => rfl
  | a :: l => by simp [ordS, ordS_self l]
theorem ordS_three : ∀ l r, ordS l r = -1 ∨ ordS l r = 0 ∨ ordS l r = 1
  | [], [] => by simp [ordS]
  | [], _ :: _ => by simp [ordS]
  | _ :: _, [] => by simp [ordS]
  | a :: l, b :: r => by
    unfold ordS
    have := ordS_three l r
    split
    · simp
    · split
      · simp
      · exact this
theorem ordS_zero : ∀ {l r}, ordS l r = 0 ↔ l = r
  | [], [] => by simp [ordS]
  | [], _ :: _ => by simp [ordS]
  | _ :: _, [] => by simp [ordS]
  | a :: l, b :: r => by
    have ih := @ordS_zero l r
    unfold ordS
    by_cases h1 : a < b
    · have : a ≠ b := fun e => by subst e; exact UInt8.lt_irrefl _ h1
      simp [h1, this]
    · by_cases h2 : b < a
      · have : a ≠ b := fun e => by subst e; exact UInt8.lt_irrefl _ h2
        simp [h1, h2, this]
      · have : a = b := UInt8.toNat_inj.1 (by rw [UInt8.lt_iff_toNat_lt] at h1 h2; omega)
        simp [this, ih]
theorem less_iff : ∀ (l r : List UInt8), Go.Op.bytesLess l r = decide (ordS l r = -1)
  | [], [] => by simp [ordS, Go.Op.bytesLess]
  | [], _ :: _ => by simp [ordS, Go.Op.bytesLess]
  | _ :: _, [] => by simp [ordS, Go.Op.bytesLess]
  | a :: l, b :: r => by
    have ih := less_iff l r
    unfold ordS Go.Op.bytesLess
    by_cases h1 : a < b
    · simp [h1]
    · by_cases h2 : b < a
      · have : a ≠ b := fun e => by subst e; exact UInt8.lt_irrefl _ h2
        simp [h1, h2, this]
      · have : a = b := UInt8.toNat_inj.1 (by rw [UInt8.lt_iff_toNat_lt] at h1 h2; omega)
        subst this
        simp [h1, ih]
/-- a value without a list -/
structure Pv where
  k : Int
  n : Int
  s : ByteArray
/-- a value: its list's values have no lists -/
structure Vl where
  k : Int
  n : Int
  s : ByteArray
  l : List Pv
def fst3 (a b c : Int) : Int := if a ≠ 0 then a else if b ≠ 0 then b else c
def cmpP (p q : Pv) : Int := fst3 (ordI p.k q.k) (ordI p.n q.n) (ordS p.s.data.toList q.s.data.toList)
def cmpL : List Pv → List Pv → Int
  | [], [] => 0
  | [], _ :: _ => -1
  | _ :: _, [] => 1
  | a :: l, b :: r => if cmpP a b ≠ 0 then cmpP a b else cmpL l r
def cmpV (v u : Vl) : Int := if fst3 (ordI v.k u.k) (ordI v.n u.n) (ordS v.s.data.toList u.s.data.toList) ≠ 0 then fst3 (ordI v.k u.k) (ordI v.n u.n) (ordS v.s.data.toList u.s.data.toList) else cmpL v.l u.l
end Mor
