/- The plain laws of the sum: it is linear, and it tells two texts apart that differ in one byte. No program in sight. -/
import Derived.Test.YtlmimmdaniggiaaDoorWirePlain
import Derived.Test.YtlmimmdaniggiaaDoorWireTurned
namespace Mor

theorem xor_half (a b : Nat) : (a ^^^ b) / 2 = a / 2 ^^^ b / 2 := by
  have h := Nat.shiftRight_xor_distrib (a := a) (b := b) (i := 1)
  simpa [Nat.shiftRight_eq_div_pow] using h
theorem xor_odd (a b : Nat) : (a ^^^ b) % 2 = (a % 2 + b % 2) % 2 := by
  have h := Nat.xor_mod_two_pow (a := a) (b := b) (n := 1)
  simp only [Nat.pow_one] at h
  rw [h]
  have ha : a % 2 = 0 ∨ a % 2 = 1 := by omega
  have hb : b % 2 = 0 ∨ b % 2 = 1 := by omega
  rcases ha with ha | ha <;> rcases hb with hb | hb <;> rw [ha, hb] <;> rfl
theorem crcBit_eq (c : Nat) : crcBit c = c / 2 ^^^ (if c % 2 = 1 then 3988292384 else 0) := by
  unfold crcBit
  split <;> simp
theorem crcBit_xor (a b : Nat) : crcBit (a ^^^ b) = crcBit a ^^^ crcBit b := by
  rw [crcBit_eq, crcBit_eq, crcBit_eq, xor_half, xor_odd]
  have ha : a % 2 = 0 ∨ a % 2 = 1 := by omega
  have hb : b % 2 = 0 ∨ b % 2 = 1 := by omega
  have cancel : (3988292384 : Nat) ^^^ 3988292384 = 0 := Nat.xor_self _
  rcases ha with ha | ha <;> rcases hb with hb | hb <;> simp only [ha, hb] <;> simp
  · rw [Nat.xor_assoc]
  · rw [Nat.xor_assoc, Nat.xor_assoc, Nat.xor_comm 3988292384]
  · rw [Nat.xor_assoc, ← Nat.xor_assoc 3988292384, Nat.xor_comm 3988292384 (b / 2), Nat.xor_assoc (b / 2), cancel, Nat.xor_zero]
theorem crcBits_xor (a b : Nat) : ∀ k, crcBits k (a ^^^ b) = crcBits k a ^^^ crcBits k b
  | 0 => rfl
  | k + 1 => by simp only [crcBits, crcBits_xor a b k, crcBit_xor]
theorem crcByte_xor (c d x y : Nat) : crcByte (c ^^^ d) (x ^^^ y) = crcByte c x ^^^ crcByte d y := by
  unfold crcByte
  rw [← crcBits_xor]
  congr 1
  rw [Nat.xor_assoc, Nat.xor_assoc, ← Nat.xor_assoc d, Nat.xor_comm d x, Nat.xor_assoc x]
theorem crcFrom_xor : ∀ (l r : List UInt8) (c d : Nat), l.length = r.length → crcFrom (c ^^^ d) (xorB l r) = crcFrom c l ^^^ crcFrom d r
  | [], [], c, d, _ => rfl
  | x :: l, y :: r, c, d, h => by
    have ih := crcFrom_xor l r (crcByte c x.toNat) (crcByte d y.toNat) (by simpa using h)
    simp only [crcFrom, xorB, List.zipWith_cons_cons, List.foldl_cons] at ih ⊢
    rw [UInt8.toNat_xor, crcByte_xor]
    exact ih

theorem length_xorB (l r : List UInt8) (h : l.length = r.length) : (xorB l r).length = l.length := by simp [xorB, h]

theorem crc_xor3 (l r u : List UInt8) (h1 : l.length = r.length) (h2 : l.length = u.length) : crc l ^^^ crc r ^^^ crc u = crc (xorB (xorB l r) u) := by
  have ones : ∀ l, crc l = 4294967295 ^^^ crcFrom 4294967295 l := fun l => by
    rw [crc, xor_ones (crcFrom_lt (by decide) l)]
  have hA := crcFrom_xor l r 4294967295 4294967295 h1
  have hB := crcFrom_xor (xorB l r) u (4294967295 ^^^ 4294967295) 4294967295 (by rw [length_xorB l r h1, h2])
  rw [hA] at hB
  have e : (4294967295 ^^^ 4294967295 ^^^ 4294967295 : Nat) = 4294967295 := by decide
  rw [e] at hB
  rw [ones (xorB (xorB l r) u), hB, ones l, ones r, ones u]
  generalize crcFrom 4294967295 l = a
  generalize crcFrom 4294967295 r = b
  generalize crcFrom 4294967295 u = c
  apply Nat.eq_of_testBit_eq
  intro i
  simp only [Nat.testBit_xor]
  cases Nat.testBit 4294967295 i <;> cases Nat.testBit a i <;> cases Nat.testBit b i <;> cases Nat.testBit c i <;> rfl

/-! one byte apart -/
theorem crcBit_inj {a b : Nat} (ha : a < 4294967296) (hb : b < 4294967296) (h : crcBit a = crcBit b) : a = b := by
  rw [crcBit_eq, crcBit_eq] at h
  have hx : ∀ x : Nat, x < 2147483648 → x ^^^ 3988292384 ≥ 2147483648 := fun x hx => by
    have h1 : Nat.testBit (x ^^^ 3988292384) 31 = true := by
      rw [Nat.testBit_xor, Nat.testBit_lt_two_pow (show x < 2 ^ 31 by omega)]
      decide
    exact Nat.ge_two_pow_of_testBit h1
  have ha2 : a / 2 < 2147483648 := by omega
  have hb2 : b / 2 < 2147483648 := by omega
  by_cases h1 : a % 2 = 1
  · by_cases h2 : b % 2 = 1
    · simp only [h1, h2, if_true] at h
      have := congrArg (fun z => z ^^^ 3988292384) h
      simp only [Nat.xor_assoc, Nat.xor_self, Nat.xor_zero] at this
      omega
    · simp only [h1, if_true, h2, if_false, Nat.xor_zero] at h
      have := hx _ ha2
      omega
  · by_cases h2 : b % 2 = 1
    · simp only [h1, if_false, h2, if_true, Nat.xor_zero] at h
      have := hx _ hb2
      omega
    · simp only [h1, h2, if_false, Nat.xor_zero] at h
      omega
theorem crcBits_inj {a b : Nat} (ha : a < 4294967296) (hb : b < 4294967296) : ∀ k, crcBits k a = crcBits k b → a = b
  | 0, h => h
  | k + 1, h => crcBits_inj ha hb k (crcBit_inj (crcBits_lt ha k) (crcBits_lt hb k) h)
theorem xor_cancel {a b c : Nat} (h : a ^^^ b = a ^^^ c) : b = c := by
  have := congrArg (fun z => a ^^^ z) h
  simpa [← Nat.xor_assoc] using this
theorem crcFrom_inj : ∀ (l : List UInt8) {a b : Nat}, a < 4294967296 → b < 4294967296 → crcFrom a l = crcFrom b l → a = b
  | [], _, _, _, _, h => h
  | x :: l, a, b, ha, hb, h => by
    have hx := UInt8.toNat_lt x
    have h1 := crcFrom_inj l (crcByte_lt ha hx) (crcByte_lt hb hx) h
    unfold crcByte at h1
    have h2 := crcBits_inj (xor_lt32 ha (show x.toNat < 4294967296 by omega)) (xor_lt32 hb (show x.toNat < 4294967296 by omega)) 8 h1
    rw [Nat.xor_comm a, Nat.xor_comm b] at h2
    exact xor_cancel h2
theorem crc_lt (l : List UInt8) : crc l < 4294967296 := by unfold crc; omega
theorem crc_apart (l r : List UInt8) (x y : UInt8) : crc (l ++ x :: r) = crc (l ++ y :: r) ↔ x = y := by
  constructor
  · intro h
    have h1 := crcFrom_lt (c := 4294967295) (by decide) (l ++ x :: r)
    have h2 := crcFrom_lt (c := 4294967295) (by decide) (l ++ y :: r)
    have h3 : crcFrom 4294967295 (l ++ x :: r) = crcFrom 4294967295 (l ++ y :: r) := by unfold crc at h; omega
    simp only [crcFrom, List.foldl_append, List.foldl_cons] at h3
    have hc : crcFrom 4294967295 l < 4294967296 := crcFrom_lt (by decide) l
    have hx := UInt8.toNat_lt x
    have hy := UInt8.toNat_lt y
    have h4 : crcByte (crcFrom 4294967295 l) x.toNat = crcByte (crcFrom 4294967295 l) y.toNat := crcFrom_inj r (crcByte_lt hc hx) (crcByte_lt hc hy) h3
    unfold crcByte at h4
    have h5 := crcBits_inj (xor_lt32 hc (show x.toNat < 4294967296 by omega)) (xor_lt32 hc (show y.toNat < 4294967296 by omega)) 8 h4
    exact UInt8.toNat_inj.1 (xor_cancel h5)
  · rintro rfl; rfl
end Mor
