/- A number's bytes are read back, whatever stands behind them. No program in sight. -/
import Derived.Test.YtlmimmdaniggiaaDoorWireScan
namespace Mor

theorem marks_one (g : Fin 128) : marks [g] = [UInt8.ofNat g.val] := rfl
theorem marks_cons (g : Fin 128) (gs : List (Fin 128)) (h : gs ≠ []) : marks (g :: gs) = UInt8.ofNat (g.val + 128) :: marks gs := by
  rcases List.eq_nil_or_concat gs with rfl | ⟨q, z, rfl⟩
  · exact absurd rfl h
  · rw [List.concat_eq_append, ← List.cons_append, marks_snoc, marks_snoc]
    simp [cont]

theorem or_add {a x j : Nat} (h : a < 2 ^ j) : a ||| x * 2 ^ j = a + x * 2 ^ j := by
  rw [Nat.or_comm, Nat.add_comm]
  exact Go.nat_join j (x * 2 ^ j) a (Nat.mul_mod_left _ _) h

theorem tailG_ne (f m : Nat) (h : m ≠ 0) (hf : m < 128 ^ f) : tailG f m ≠ [] := by
  cases f with
  | zero => simp at hf; omega
  | succ f => rw [tailG_pos f m h]; simp

/-- j = 7 k - 1 bits have been read; the groups of m follow -/
theorem scan_tail (rest : List UInt8) (sg : Nat) : ∀ (f m k acc : Nat), m ≠ 0 → m < 128 ^ f → 1 ≤ k → acc < 2 ^ (7 * k - 1) → m * 2 ^ (7 * k - 1) < 9223372036854775808 →
    scan (marks (tailG f m) ++ rest) k acc sg = .num (acc + m * 2 ^ (7 * k - 1)) sg (k + (tailG f m).length)
  | 0, m, _, _, hm, hf, _, _, _ => by simp at hf; omega
  | f + 1, m, k, acc, hm, hf, hk, hacc, hlt => by
    rw [tailG_pos f m hm]
    have hp1 : 0 < 2 ^ (7 * k - 1) := Nat.pow_pos (by decide)
    by_cases hsm : m < 128
    · have hz : m / 128 = 0 := by omega
      rw [hz, tailG_zero, marks_one]
      have hb : (UInt8.ofNat (m % 128)).toNat = m := by rw [toNat_ofNat_lt (by omega)]; omega
      have h9 : ¬ ((UInt8.ofNat (m % 128)).toNat = 0 ∨ (k = 9 ∧ 1 < (UInt8.ofNat (m % 128)).toNat)) := by
        rw [hb]
        rintro (h | ⟨rfl, h⟩)
        · exact hm h
        · omega
      show scan (UInt8.ofNat (m % 128) :: rest) k acc sg = _
      rw [scan_more _ _ _ _ _ (by omega) h9, hb, if_pos hsm]
      have e1 : m % 128 = m := by omega
      rw [List.length_cons, List.length_nil, Nat.zero_add, e1, Nat.mod_eq_of_lt (by omega), or_add hacc]
    · have hm2 : m / 128 ≠ 0 := by omega
      have hf2 : m / 128 < 128 ^ f := by
        rw [Nat.pow_succ] at hf
        exact Nat.div_lt_of_lt_mul (by rw [Nat.mul_comm]; exact hf)
      rw [marks_cons _ _ (tailG_ne f _ hm2 hf2)]
      have hb : (UInt8.ofNat (m % 128 + 128)).toNat = m % 128 + 128 := toNat_ofNat_lt (by omega)
      have hj : 2 ^ (7 * (k + 1) - 1) = 128 * 2 ^ (7 * k - 1) := by
        rw [show 7 * (k + 1) - 1 = 7 + (7 * k - 1) by omega, Nat.pow_add]
      have hk9 : k ≠ 9 := by
        rintro rfl
        have : 128 * 2 ^ (7 * 9 - 1) ≤ m * 2 ^ (7 * 9 - 1) := Nat.mul_le_mul_right _ (by omega)
        omega
      have h9 : ¬ ((UInt8.ofNat (m % 128 + 128)).toNat = 0 ∨ (k = 9 ∧ 1 < (UInt8.ofNat (m % 128 + 128)).toNat)) := by
        rw [hb]; omega
      have hsplit : m * 2 ^ (7 * k - 1) = m / 128 * 2 ^ (7 * (k + 1) - 1) + m % 128 * 2 ^ (7 * k - 1) := by
        have e : m / 128 * 2 ^ (7 * (k + 1) - 1) = m / 128 * 128 * 2 ^ (7 * k - 1) := by rw [hj, Nat.mul_assoc]
        rw [e, ← Nat.add_mul]
        congr 1
        omega
      have hle : m % 128 * 2 ^ (7 * k - 1) ≤ 127 * 2 ^ (7 * k - 1) := Nat.mul_le_mul_right _ (by omega)
      show scan (UInt8.ofNat (m % 128 + 128) :: (marks (tailG f (m / 128)) ++ rest)) k acc sg = _
      rw [scan_more _ _ _ _ _ (by omega) h9, hb, if_neg (by omega)]
      have e1 : (m % 128 + 128) % 128 = m % 128 := by omega
      rw [e1, Nat.mod_eq_of_lt (by omega), or_add hacc]
      rw [scan_tail rest sg f (m / 128) (k + 1) (acc + m % 128 * 2 ^ (7 * k - 1)) hm2 hf2 (by omega) (by rw [hj]; omega) (by omega)]
      congr 1
      · omega
      · rw [List.length_cons]; omega

theorem scan_back (z : Int) (h1 : -9223372036854775808 ≤ z) (h2 : z < 9223372036854775808) (rest : List UInt8) :
    scan (numBytes z ++ rest) 0 0 0 = .num (mag z) (sgn z) (numBytes z).length := by
  have hm := mag_lt h1 h2
  have hs := sgn_le z
  have hl : (numBytes z).length = (tailG 9 (mag z / 64)).length + 1 := by rw [numBytes, length_marks, numG, List.length_cons]
  have hh : (headG z).val = mag z % 64 * 2 + sgn z := rfl
  rw [hl]
  by_cases hsm : mag z / 64 = 0
  · have e : numBytes z = [UInt8.ofNat (headG z).val] := by rw [numBytes, numG, hsm, tailG_zero, marks_one]
    have hb : (UInt8.ofNat (headG z).val).toNat = mag z % 64 * 2 + sgn z := by rw [toNat_ofNat_lt (by omega), hh]
    rw [e, List.cons_append, scan_zero, hb, if_pos (by omega), hsm, tailG_zero]
    congr 1 <;> omega
  · have hf : mag z / 64 < 128 ^ 9 := by omega
    have e : numBytes z = UInt8.ofNat ((headG z).val + 128) :: marks (tailG 9 (mag z / 64)) := by rw [numBytes, numG, marks_cons _ _ (tailG_ne 9 _ hsm hf)]
    have hb : (UInt8.ofNat ((headG z).val + 128)).toNat = mag z % 64 * 2 + sgn z + 128 := by rw [toNat_ofNat_lt (by omega), hh]
    rw [e, List.cons_append, scan_zero, hb, if_neg (by omega)]
    have e1 : (mag z % 64 * 2 + sgn z + 128) % 128 / 2 = mag z % 64 := by omega
    have e2 : (mag z % 64 * 2 + sgn z + 128) % 128 % 2 = sgn z := by omega
    rw [e1, e2, scan_tail rest (sgn z) 9 (mag z / 64) 1 (mag z % 64) hsm hf (by omega) (by omega) (by omega)]
    congr 1
    · omega
    · omega
end Mor
