/- morainelaw01.WireShort returns true. -/
import Derived.Test.YtlmimmdaniggiaaDoorWireShown
namespace Mor
theorem length_tailG_mono : ∀ f m n, m ≤ n → (tailG f m).length ≤ (tailG f n).length
  | 0, _, _, _ => by simp [tailG]
  | f + 1, m, n, h => by
    have ih := length_tailG_mono f (m / 128) (n / 128) (Nat.div_le_div_right h)
    simp only [tailG]
    split
    · simp
    · rw [if_neg (by omega)]
      simp only [List.length_cons]
      omega
theorem length_numBytes (n : Int) : (numBytes n).length = 1 + (tailG 9 (mag n / 64)).length := by
  rw [numBytes, length_marks, numG, List.length_cons, Nat.add_comm]
theorem len_flip (a : Int) (h : 0 ≤ a) : (numBytes (-1 - a)).length = (numBytes a).length := by
  rw [length_numBytes, length_numBytes]
  have e1 : mag (-1 - a) = a.toNat := by unfold mag; rw [if_pos (by omega)]; omega
  have e2 : mag a = a.toNat := by unfold mag; rw [if_neg (by omega)]
  rw [e1, e2]
theorem len_mono (a b : Int) (h : 0 ≤ a) (hab : a ≤ b) : (numBytes a).length ≤ (numBytes b).length := by
  rw [length_numBytes, length_numBytes]
  have e1 : mag a = a.toNat := by unfold mag; rw [if_neg (by omega)]
  have e2 : mag b = b.toNat := by unfold mag; rw [if_neg (by omega)]
  rw [e1, e2]
  have := length_tailG_mono 9 (a.toNat / 64) (b.toNat / 64) (Nat.div_le_div_right (by omega))
  omega
theorem len_pos (a : Int) : 1 ≤ (numBytes a).length := by rw [length_numBytes]; omega
theorem len_ten (a : Int) : (numBytes a).length ≤ 10 := by rw [length_numBytes]; have := length_tailG 9 (mag a / 64); omega
end Mor
namespace Go.Proofs.YtlmimmdaniggiaaDoor
open Go.RowKit Go.Shelf Mor

set_option maxRecDepth 100000 in
set_option maxHeartbeats 1000000 in
theorem wireShort_walk (a b : Int) (ha1 : -9223372036854775808 ≤ a) (ha2 : a < 9223372036854775808) (hb1 : -9223372036854775808 ≤ b) (hb2 : b < 9223372036854775808) (aE aF : Addr) (w : World) (he : Errs aE aF w) :
    Calls Tryd.prog 6 #[.int .i64 a, .int .i64 b] w fun e w' => e = .returned (.bool true) ∧ Below w.heap.size w w' := by
  have HE := Lib.hid he
  clear he
  have key : ∀ x y : Int, 0 ≤ x → 0 ≤ y → (numBytes (-1 - x)).length = (numBytes x).length ∧ (x ≤ y → (numBytes x).length ≤ (numBytes y).length) ∧ 1 ≤ (numBytes x).length ∧ (numBytes x).length ≤ 10 :=
    fun x y hx _ => ⟨len_flip x hx, len_mono x y hx, len_pos x, len_ten x⟩
  have KEY := Lib.hid key
  clear key
  by_cases ha : a < 0
  · by_cases hb : b < 0
    · by_cases hab : -1 - b < -1 - a
      · obtain ⟨k1, k2, k3, k4⟩ := KEY.out (-1 - a) (-1 - b) (by omega) (by omega)
        have k5 : ((numBytes (-1 - a)).length : Int) ≤ 10 := by omega
        have q1 : (((numBytes (-1 - a)).length : Int) == ((numBytes (-1 - (-1 - a))).length : Int)) = true := by rw [k1]; simp
        clear k1 k2
        go_enter Tryd.func6, Tryd.ntmps6
        go_wp2_with fail
        refine (shown_true aE aF _ HE.out).mono ?_
        rintro e w1 ⟨rfl, hB1⟩
        go_wp2_with fail
        refine (num_any _ (by omega) (by omega) _).mono ?_
        rintro e w2 ⟨rfl, hC⟩
        have hB2 := hB1.trans (hC.mono hB1.size)
        clear hC hB1
        go_wp2_with fail
        refine (num_any _ (by omega) (by omega) _).mono ?_
        rintro e w3 ⟨rfl, hC⟩
        have hB3 := hB2.trans (hC.mono hB2.size)
        clear hC hB2
        go_wp2_with fail
        refine (num_any _ (by omega) (by omega) _).mono ?_
        rintro e w4 ⟨rfl, hC⟩
        have hB4 := hB3.trans (hC.mono hB3.size)
        clear hC hB3
        go_wp2_with fail
        refine (num_any _ (by omega) (by omega) _).mono ?_
        rintro e w5 ⟨rfl, hC⟩
        have hB5 := hB4.trans (hC.mono hB4.size)
        clear hC hB4
        go_wp2
        go_ret
        exact ⟨rfl, hB5⟩
      · obtain ⟨k1, k2, k3, k4⟩ := KEY.out (-1 - a) (-1 - b) (by omega) (by omega)
        have k5 : ((numBytes (-1 - a)).length : Int) ≤ 10 := by omega
        have q1 : (((numBytes (-1 - a)).length : Int) == ((numBytes (-1 - (-1 - a))).length : Int)) = true := by rw [k1]; simp
        have q2 : (numBytes (-1 - a)).length ≤ (numBytes (-1 - b)).length := k2 (by omega)
        clear k1 k2
        go_enter Tryd.func6, Tryd.ntmps6
        go_wp2_with fail
        refine (shown_true aE aF _ HE.out).mono ?_
        rintro e w1 ⟨rfl, hB1⟩
        go_wp2_with fail
        refine (num_any _ (by omega) (by omega) _).mono ?_
        rintro e w2 ⟨rfl, hC⟩
        have hB2 := hB1.trans (hC.mono hB1.size)
        clear hC hB1
        go_wp2_with fail
        refine (num_any _ (by omega) (by omega) _).mono ?_
        rintro e w3 ⟨rfl, hC⟩
        have hB3 := hB2.trans (hC.mono hB2.size)
        clear hC hB2
        go_wp2_with fail
        refine (num_any _ (by omega) (by omega) _).mono ?_
        rintro e w4 ⟨rfl, hC⟩
        have hB4 := hB3.trans (hC.mono hB3.size)
        clear hC hB3
        go_wp2_with fail
        refine (num_any _ (by omega) (by omega) _).mono ?_
        rintro e w5 ⟨rfl, hC⟩
        have hB5 := hB4.trans (hC.mono hB4.size)
        clear hC hB4
        go_wp2_with fail
        refine (num_any _ (by omega) (by omega) _).mono ?_
        rintro e w6 ⟨rfl, hC⟩
        have hB6 := hB5.trans (hC.mono hB5.size)
        clear hC hB5
        go_wp2_with fail
        refine (num_any _ (by omega) (by omega) _).mono ?_
        rintro e w7 ⟨rfl, hC⟩
        have hB7 := hB6.trans (hC.mono hB6.size)
        clear hC hB6
        go_wp2
        go_ret
        exact ⟨rfl, hB7⟩
    · by_cases hab : b < -1 - a
      · obtain ⟨k1, k2, k3, k4⟩ := KEY.out (-1 - a) (b) (by omega) (by omega)
        have k5 : ((numBytes (-1 - a)).length : Int) ≤ 10 := by omega
        have q1 : (((numBytes (-1 - a)).length : Int) == ((numBytes (-1 - (-1 - a))).length : Int)) = true := by rw [k1]; simp
        clear k1 k2
        go_enter Tryd.func6, Tryd.ntmps6
        go_wp2_with fail
        refine (shown_true aE aF _ HE.out).mono ?_
        rintro e w1 ⟨rfl, hB1⟩
        go_wp2_with fail
        refine (num_any _ (by omega) (by omega) _).mono ?_
        rintro e w2 ⟨rfl, hC⟩
        have hB2 := hB1.trans (hC.mono hB1.size)
        clear hC hB1
        go_wp2_with fail
        refine (num_any _ (by omega) (by omega) _).mono ?_
        rintro e w3 ⟨rfl, hC⟩
        have hB3 := hB2.trans (hC.mono hB2.size)
        clear hC hB2
        go_wp2_with fail
        refine (num_any _ (by omega) (by omega) _).mono ?_
        rintro e w4 ⟨rfl, hC⟩
        have hB4 := hB3.trans (hC.mono hB3.size)
        clear hC hB3
        go_wp2_with fail
        refine (num_any _ (by omega) (by omega) _).mono ?_
        rintro e w5 ⟨rfl, hC⟩
        have hB5 := hB4.trans (hC.mono hB4.size)
        clear hC hB4
        go_wp2
        go_ret
        exact ⟨rfl, hB5⟩
      · obtain ⟨k1, k2, k3, k4⟩ := KEY.out (-1 - a) (b) (by omega) (by omega)
        have k5 : ((numBytes (-1 - a)).length : Int) ≤ 10 := by omega
        have q1 : (((numBytes (-1 - a)).length : Int) == ((numBytes (-1 - (-1 - a))).length : Int)) = true := by rw [k1]; simp
        have q2 : (numBytes (-1 - a)).length ≤ (numBytes (b)).length := k2 (by omega)
        clear k1 k2
        go_enter Tryd.func6, Tryd.ntmps6
        go_wp2_with fail
        refine (shown_true aE aF _ HE.out).mono ?_
        rintro e w1 ⟨rfl, hB1⟩
        go_wp2_with fail
        refine (num_any _ (by omega) (by omega) _).mono ?_
        rintro e w2 ⟨rfl, hC⟩
        have hB2 := hB1.trans (hC.mono hB1.size)
        clear hC hB1
        go_wp2_with fail
        refine (num_any _ (by omega) (by omega) _).mono ?_
        rintro e w3 ⟨rfl, hC⟩
        have hB3 := hB2.trans (hC.mono hB2.size)
        clear hC hB2
        go_wp2_with fail
        refine (num_any _ (by omega) (by omega) _).mono ?_
        rintro e w4 ⟨rfl, hC⟩
        have hB4 := hB3.trans (hC.mono hB3.size)
        clear hC hB3
        go_wp2_with fail
        refine (num_any _ (by omega) (by omega) _).mono ?_
        rintro e w5 ⟨rfl, hC⟩
        have hB5 := hB4.trans (hC.mono hB4.size)
        clear hC hB4
        go_wp2_with fail
        refine (num_any _ (by omega) (by omega) _).mono ?_
        rintro e w6 ⟨rfl, hC⟩
        have hB6 := hB5.trans (hC.mono hB5.size)
        clear hC hB5
        go_wp2_with fail
        refine (num_any _ (by omega) (by omega) _).mono ?_
        rintro e w7 ⟨rfl, hC⟩
        have hB7 := hB6.trans (hC.mono hB6.size)
        clear hC hB6
        go_wp2
        go_ret
        exact ⟨rfl, hB7⟩
  · by_cases hb : b < 0
    · by_cases hab : -1 - b < a
      · obtain ⟨k1, k2, k3, k4⟩ := KEY.out (a) (-1 - b) (by omega) (by omega)
        have k5 : ((numBytes (a)).length : Int) ≤ 10 := by omega
        have q1 : (((numBytes (a)).length : Int) == ((numBytes (-1 - (a))).length : Int)) = true := by rw [k1]; simp
        clear k1 k2
        go_enter Tryd.func6, Tryd.ntmps6
        go_wp2_with fail
        refine (shown_true aE aF _ HE.out).mono ?_
        rintro e w1 ⟨rfl, hB1⟩
        go_wp2_with fail
        refine (num_any _ (by omega) (by omega) _).mono ?_
        rintro e w2 ⟨rfl, hC⟩
        have hB2 := hB1.trans (hC.mono hB1.size)
        clear hC hB1
        go_wp2_with fail
        refine (num_any _ (by omega) (by omega) _).mono ?_
        rintro e w3 ⟨rfl, hC⟩
        have hB3 := hB2.trans (hC.mono hB2.size)
        clear hC hB2
        go_wp2_with fail
        refine (num_any _ (by omega) (by omega) _).mono ?_
        rintro e w4 ⟨rfl, hC⟩
        have hB4 := hB3.trans (hC.mono hB3.size)
        clear hC hB3
        go_wp2_with fail
        refine (num_any _ (by omega) (by omega) _).mono ?_
        rintro e w5 ⟨rfl, hC⟩
        have hB5 := hB4.trans (hC.mono hB4.size)
        clear hC hB4
        go_wp2
        go_ret
        exact ⟨rfl, hB5⟩
      · obtain ⟨k1, k2, k3, k4⟩ := KEY.out (a) (-1 - b) (by omega) (by omega)
        have k5 : ((numBytes (a)).length : Int) ≤ 10 := by omega
        have q1 : (((numBytes (a)).length : Int) == ((numBytes (-1 - (a))).length : Int)) = true := by rw [k1]; simp
        have q2 : (numBytes (a)).length ≤ (numBytes (-1 - b)).length := k2 (by omega)
        clear k1 k2
        go_enter Tryd.func6, Tryd.ntmps6
        go_wp2_with fail
        refine (shown_true aE aF _ HE.out).mono ?_
        rintro e w1 ⟨rfl, hB1⟩
        go_wp2_with fail
        refine (num_any _ (by omega) (by omega) _).mono ?_
        rintro e w2 ⟨rfl, hC⟩
        have hB2 := hB1.trans (hC.mono hB1.size)
        clear hC hB1
        go_wp2_with fail
        refine (num_any _ (by omega) (by omega) _).mono ?_
        rintro e w3 ⟨rfl, hC⟩
        have hB3 := hB2.trans (hC.mono hB2.size)
        clear hC hB2
        go_wp2_with fail
        refine (num_any _ (by omega) (by omega) _).mono ?_
        rintro e w4 ⟨rfl, hC⟩
        have hB4 := hB3.trans (hC.mono hB3.size)
        clear hC hB3
        go_wp2_with fail
        refine (num_any _ (by omega) (by omega) _).mono ?_
        rintro e w5 ⟨rfl, hC⟩
        have hB5 := hB4.trans (hC.mono hB4.size)
        clear hC hB4
        go_wp2_with fail
        refine (num_any _ (by omega) (by omega) _).mono ?_
        rintro e w6 ⟨rfl, hC⟩
        have hB6 := hB5.trans (hC.mono hB5.size)
        clear hC hB5
        go_wp2_with fail
        refine (num_any _ (by omega) (by omega) _).mono ?_
        rintro e w7 ⟨rfl, hC⟩
        have hB7 := hB6.trans (hC.mono hB6.size)
        clear hC hB6
        go_wp2
        go_ret
        exact ⟨rfl, hB7⟩
    · by_cases hab : b < a
      · obtain ⟨k1, k2, k3, k4⟩ := KEY.out (a) (b) (by omega) (by omega)
        have k5 : ((numBytes (a)).length : Int) ≤ 10 := by omega
        have q1 : (((numBytes (a)).length : Int) == ((numBytes (-1 - (a))).length : Int)) = true := by rw [k1]; simp
        clear k1 k2
        go_enter Tryd.func6, Tryd.ntmps6
        go_wp2_with fail
        refine (shown_true aE aF _ HE.out).mono ?_
        rintro e w1 ⟨rfl, hB1⟩
        go_wp2_with fail
        refine (num_any _ (by omega) (by omega) _).mono ?_
        rintro e w2 ⟨rfl, hC⟩
        have hB2 := hB1.trans (hC.mono hB1.size)
        clear hC hB1
        go_wp2_with fail
        refine (num_any _ (by omega) (by omega) _).mono ?_
        rintro e w3 ⟨rfl, hC⟩
        have hB3 := hB2.trans (hC.mono hB2.size)
        clear hC hB2
        go_wp2_with fail
        refine (num_any _ (by omega) (by omega) _).mono ?_
        rintro e w4 ⟨rfl, hC⟩
        have hB4 := hB3.trans (hC.mono hB3.size)
        clear hC hB3
        go_wp2_with fail
        refine (num_any _ (by omega) (by omega) _).mono ?_
        rintro e w5 ⟨rfl, hC⟩
        have hB5 := hB4.trans (hC.mono hB4.size)
        clear hC hB4
        go_wp2
        go_ret
        exact ⟨rfl, hB5⟩
      · obtain ⟨k1, k2, k3, k4⟩ := KEY.out (a) (b) (by omega) (by omega)
        have k5 : ((numBytes (a)).length : Int) ≤ 10 := by omega
        have q1 : (((numBytes (a)).length : Int) == ((numBytes (-1 - (a))).length : Int)) = true := by rw [k1]; simp
        have q2 : (numBytes (a)).length ≤ (numBytes (b)).length := k2 (by omega)
        clear k1 k2
        go_enter Tryd.func6, Tryd.ntmps6
        go_wp2_with fail
        refine (shown_true aE aF _ HE.out).mono ?_
        rintro e w1 ⟨rfl, hB1⟩
        go_wp2_with fail
        refine (num_any _ (by omega) (by omega) _).mono ?_
        rintro e w2 ⟨rfl, hC⟩
        have hB2 := hB1.trans (hC.mono hB1.size)
        clear hC hB1
        go_wp2_with fail
        refine (num_any _ (by omega) (by omega) _).mono ?_
        rintro e w3 ⟨rfl, hC⟩
        have hB3 := hB2.trans (hC.mono hB2.size)
        clear hC hB2
        go_wp2_with fail
        refine (num_any _ (by omega) (by omega) _).mono ?_
        rintro e w4 ⟨rfl, hC⟩
        have hB4 := hB3.trans (hC.mono hB3.size)
        clear hC hB3
        go_wp2_with fail
        refine (num_any _ (by omega) (by omega) _).mono ?_
        rintro e w5 ⟨rfl, hC⟩
        have hB5 := hB4.trans (hC.mono hB4.size)
        clear hC hB4
        go_wp2_with fail
        refine (num_any _ (by omega) (by omega) _).mono ?_
        rintro e w6 ⟨rfl, hC⟩
        have hB6 := hB5.trans (hC.mono hB5.size)
        clear hC hB5
        go_wp2_with fail
        refine (num_any _ (by omega) (by omega) _).mono ?_
        rintro e w7 ⟨rfl, hC⟩
        have hB7 := hB6.trans (hC.mono hB6.size)
        clear hC hB6
        go_wp2
        go_ret
        exact ⟨rfl, hB7⟩
end Go.Proofs.YtlmimmdaniggiaaDoor
