/- The contracts of val.bare, rightID, plain, noItem, Right, from a contract of rightText. -/
import Derived.Test.YtifaaacbbjlffaaDoorValItems
import Derived.BigGuardPart
import Derived.IntWalk
namespace Mor
def bareB (s : ByteArray) (n : Nat) : Bool := s.toList.isEmpty && (n == 0)
def idB (n : Int) : Bool := decide ((1 ≤ n ∧ n ≤ 100000) ∨ (-20 ≤ n ∧ n ≤ -1))
def numB (n : Int) : Bool := decide (-1000000000000000 ≤ n ∧ n ≤ 1000000000000000)
/-- a value that is no list: whether it is right, by whether its text is -/
def rightK (rt : Bool) (k n : Int) (s : ByteArray) (len : Nat) : Bool :=
  if k = 0 then bareB s len && decide (n = 0)
  else if k = 1 then bareB s len && numB n
  else if k = 2 then decide (n = 0) && (decide (len = 0) && rt)
  else if k = 3 then bareB s len && idB n
  else if k = 4 then bareB s len && idB n
  else false
end Mor
namespace Go.Proofs.YtifaaacbbjlffaaDoor
open Go.RowKit Mor

theorem bare_any (k n : Int) (s : ByteArray) (a : Option Addr) (l c : Nat) (w : World) : Calls Tryd.prog 45 #[.agg #[.int .i64 k, .int .i64 n, .string s, .slice a l c]] w fun e w' => e = .returned (.bool (bareB s l)) ∧ Below w.heap.size w w' := by
  by_cases h1 : s.toList.isEmpty = true
  · by_cases h2 : l = 0
    · subst h2
      have E := Lib.hid (show bareB s 0 = true by simp [bareB, h1])
      rw [E.out]
      clear E
      go_enter Tryd.func45, Tryd.ntmps45
      go_wp2
      go_ret
      exact ⟨by simp, (Below.refl _ w).alloc (Nat.le_refl _) _⟩
    · have E := Lib.hid (show bareB s l = false by simp [bareB, h2])
      have hz : ((l : Int) == 0) = false := beq_eq_false_iff_ne.2 (by omega)
      rw [E.out]
      clear E
      go_enter Tryd.func45, Tryd.ntmps45
      go_wp2
      go_ret
      exact ⟨by simp, (Below.refl _ w).alloc (Nat.le_refl _) _⟩
  · have h1' : s.toList.isEmpty = false := by simpa using h1
    have E := Lib.hid (show bareB s l = false by simp [bareB, h1'])
    rw [E.out]
    clear E h1
    go_enter Tryd.func45, Tryd.ntmps45
    go_wp2
    go_ret
    exact ⟨by simp, (Below.refl _ w).alloc (Nat.le_refl _) _⟩

theorem rightID_any (n : Int) (w : World) : Calls Tryd.prog 47 #[.int .i64 n] w fun e w' => e = .returned (.bool (idB n)) ∧ w = w' := by
  by_cases h1 : 1 ≤ n
  · by_cases h2 : n ≤ 100000
    · have E := Lib.hid (show idB n = true by simp [idB]; omega)
      rw [E.out]
      clear E
      go_enter Tryd.func47, Tryd.ntmps47
      go_wp2
      go_ret
      exact ⟨by simp, rfl⟩
    · have E := Lib.hid (show idB n = false by simp [idB]; omega)
      have h3 : -20 ≤ n := by omega
      have h4 : ¬ n ≤ -1 := by omega
      rw [E.out]
      clear E
      go_enter Tryd.func47, Tryd.ntmps47
      go_wp2
      go_ret
      exact ⟨by simp, rfl⟩
  · by_cases h2 : -20 ≤ n
    · by_cases h3 : n ≤ -1
      · have E := Lib.hid (show idB n = true by simp [idB]; omega)
        rw [E.out]
        clear E
        go_enter Tryd.func47, Tryd.ntmps47
        go_wp2
        go_ret
        exact ⟨by simp, rfl⟩
      · have E := Lib.hid (show idB n = false by simp [idB]; omega)
        rw [E.out]
        clear E
        go_enter Tryd.func47, Tryd.ntmps47
        go_wp2
        go_ret
        exact ⟨by simp, rfl⟩
    · have E := Lib.hid (show idB n = false by simp [idB]; omega)
      rw [E.out]
      clear E
      go_enter Tryd.func47, Tryd.ntmps47
      go_wp2
      go_ret
      exact ⟨by simp, rfl⟩

theorem right_plain (rt : Bool) (k n : Int) (s : ByteArray) (a : Option Addr) (l c : Nat) (w : World) (hk : k ≠ 5) (hrt : k = 2 → ∀ W, Below w.heap.size w W → Calls Tryd.prog 46 #[.string s] W fun e w' => e = .returned (.bool rt) ∧ Below W.heap.size W w') :
    Calls Tryd.prog 30 #[.agg #[.int .i64 k, .int .i64 n, .string s, .slice a l c]] w fun e w' => e = .returned (.bool (rightK rt k n s l)) ∧ Below w.heap.size w w' := by
  have HB := Lib.hid (fun (o : Obj) => (Below.refl w.heap.size w).alloc (Nat.le_refl _) o)
  by_cases k0 : k = 0
  · subst k0
    clear hk hrt
    rw [show rightK rt 0 n s l = (bareB s l && decide (n = 0)) from rfl]
    have HC := Lib.hid (fun W => bare_any 0 n s a l c W)
    generalize bareB s l = bb at *
    cases bb
    · go_enter Tryd.func30, Tryd.ntmps30
      go_wp2_with fail
      refine (HC.out _).mono ?_
      rintro e w1 ⟨rfl, b1⟩
      obtain ⟨hc1, hf1⟩ := bcell b1
      have B1 := Lib.hid ((HB.out _).trans (b1.mono (by simp)))
      clear b1
      go_wp2_with fail
      go_ret
      exact ⟨by simp, B1.out⟩
    · by_cases hn : n = 0
      · subst hn
        go_enter Tryd.func30, Tryd.ntmps30
        go_wp2_with fail
        refine (HC.out _).mono ?_
        rintro e w1 ⟨rfl, b1⟩
        obtain ⟨hc1, hf1⟩ := bcell b1
        have B1 := Lib.hid ((HB.out _).trans (b1.mono (by simp)))
        clear b1
        go_wp2_with fail
        go_ret
        exact ⟨by simp, B1.out⟩
      · have hz : (n == 0) = false := beq_eq_false_iff_ne.2 hn
        have HD := Lib.hid (decide_eq_false hn)
        rw [HD.out]
        clear hn
        go_enter Tryd.func30, Tryd.ntmps30
        go_wp2_with fail
        refine (HC.out _).mono ?_
        rintro e w1 ⟨rfl, b1⟩
        obtain ⟨hc1, hf1⟩ := bcell b1
        have B1 := Lib.hid ((HB.out _).trans (b1.mono (by simp)))
        clear b1
        go_wp2_with fail
        go_ret
        exact ⟨by simp, B1.out⟩
  by_cases k1 : k = 1
  · subst k1
    clear hk hrt k0
    rw [show rightK rt 1 n s l = (bareB s l && numB n) from rfl]
    have HC := Lib.hid (fun W => bare_any 1 n s a l c W)
    generalize bareB s l = bb at *
    cases bb
    · go_enter Tryd.func30, Tryd.ntmps30
      go_wp2_with fail
      refine (HC.out _).mono ?_
      rintro e w1 ⟨rfl, b1⟩
      obtain ⟨hc1, hf1⟩ := bcell b1
      have B1 := Lib.hid ((HB.out _).trans (b1.mono (by simp)))
      clear b1
      go_wp2_with fail
      go_ret
      exact ⟨by simp, B1.out⟩
    · by_cases h1 : -1000000000000000 ≤ n
      · by_cases h2 : n ≤ 1000000000000000
        · have HD := Lib.hid (show numB n = true by simp [numB]; omega)
          rw [HD.out]
          go_enter Tryd.func30, Tryd.ntmps30
          go_wp2_with fail
          refine (HC.out _).mono ?_
          rintro e w1 ⟨rfl, b1⟩
          obtain ⟨hc1, hf1⟩ := bcell b1
          have B1 := Lib.hid ((HB.out _).trans (b1.mono (by simp)))
          clear b1
          go_wp2_with fail
          go_ret
          exact ⟨by simp, B1.out⟩
        · have HD := Lib.hid (show numB n = false by simp [numB]; omega)
          rw [HD.out]
          go_enter Tryd.func30, Tryd.ntmps30
          go_wp2_with fail
          refine (HC.out _).mono ?_
          rintro e w1 ⟨rfl, b1⟩
          obtain ⟨hc1, hf1⟩ := bcell b1
          have B1 := Lib.hid ((HB.out _).trans (b1.mono (by simp)))
          clear b1
          go_wp2_with fail
          go_ret
          exact ⟨by simp; omega, B1.out⟩
      · have HD := Lib.hid (show numB n = false by simp [numB]; omega)
        rw [HD.out]
        go_enter Tryd.func30, Tryd.ntmps30
        go_wp2_with fail
        refine (HC.out _).mono ?_
        rintro e w1 ⟨rfl, b1⟩
        obtain ⟨hc1, hf1⟩ := bcell b1
        have B1 := Lib.hid ((HB.out _).trans (b1.mono (by simp)))
        clear b1
        go_wp2_with fail
        go_ret
        exact ⟨by simp, B1.out⟩
  by_cases k2 : k = 2
  · subst k2
    clear hk k0 k1
    have HC := Lib.hid (hrt rfl)
    clear hrt
    rw [show rightK rt 2 n s l = (decide (n = 0) && (decide (l = 0) && rt)) from rfl]
    by_cases hn : n = 0
    · subst hn
      by_cases hl : l = 0
      · subst hl
        go_enter Tryd.func30, Tryd.ntmps30
        go_wp2_with fail
        refine (HC.out _ (HB.out _)).mono ?_
        rintro e w1 ⟨rfl, b1⟩
        have B1 := Lib.hid ((HB.out _).trans (b1.mono (by simp)))
        clear b1
        go_wp2_with fail
        go_ret
        exact ⟨by simp, B1.out⟩
      · have hz : ((l : Int) == 0) = false := beq_eq_false_iff_ne.2 (by omega)
        have HD := Lib.hid (decide_eq_false hl)
        rw [HD.out]
        clear hl
        go_enter Tryd.func30, Tryd.ntmps30
        go_wp2_with fail
        go_ret
        exact ⟨by simp, HB.out _⟩
    · have hz : (n == 0) = false := beq_eq_false_iff_ne.2 hn
      have HD := Lib.hid (decide_eq_false hn)
      rw [HD.out]
      clear hn
      go_enter Tryd.func30, Tryd.ntmps30
      go_wp2_with fail
      go_ret
      exact ⟨by simp, HB.out _⟩
  by_cases k3 : k = 3
  · subst k3
    clear hk hrt k0 k1 k2
    rw [show rightK rt 3 n s l = (bareB s l && idB n) from rfl]
    have HC := Lib.hid (fun W => bare_any 3 n s a l c W)
    have HI := Lib.hid (fun W => rightID_any n W)
    generalize bareB s l = bb at *
    generalize idB n = ii at *
    cases bb
    · go_enter Tryd.func30, Tryd.ntmps30
      go_wp2_with fail
      refine (HC.out _).mono ?_
      rintro e w1 ⟨rfl, b1⟩
      obtain ⟨hc1, hf1⟩ := bcell b1
      have B1 := Lib.hid ((HB.out _).trans (b1.mono (by simp)))
      clear b1
      go_wp2_with fail
      go_ret
      exact ⟨by simp, B1.out⟩
    · go_enter Tryd.func30, Tryd.ntmps30
      go_wp2_with fail
      refine (HC.out _).mono ?_
      rintro e w1 ⟨rfl, b1⟩
      obtain ⟨hc1, hf1⟩ := bcell b1
      have B1 := Lib.hid ((HB.out _).trans (b1.mono (by simp)))
      clear b1
      go_wp2_with fail
      refine (HI.out _).mono ?_
      rintro e w2 ⟨rfl, rfl⟩
      go_wp2_with fail
      go_ret
      exact ⟨by simp, B1.out⟩
  by_cases k4 : k = 4
  · subst k4
    clear hk hrt k0 k1 k2
    rw [show rightK rt 4 n s l = (bareB s l && idB n) from rfl]
    have HC := Lib.hid (fun W => bare_any 4 n s a l c W)
    have HI := Lib.hid (fun W => rightID_any n W)
    generalize bareB s l = bb at *
    generalize idB n = ii at *
    cases bb
    · go_enter Tryd.func30, Tryd.ntmps30
      go_wp2_with fail
      refine (HC.out _).mono ?_
      rintro e w1 ⟨rfl, b1⟩
      obtain ⟨hc1, hf1⟩ := bcell b1
      have B1 := Lib.hid ((HB.out _).trans (b1.mono (by simp)))
      clear b1
      go_wp2_with fail
      go_ret
      exact ⟨by simp, B1.out⟩
    · go_enter Tryd.func30, Tryd.ntmps30
      go_wp2_with fail
      refine (HC.out _).mono ?_
      rintro e w1 ⟨rfl, b1⟩
      obtain ⟨hc1, hf1⟩ := bcell b1
      have B1 := Lib.hid ((HB.out _).trans (b1.mono (by simp)))
      clear b1
      go_wp2_with fail
      refine (HI.out _).mono ?_
      rintro e w2 ⟨rfl, rfl⟩
      go_wp2_with fail
      go_ret
      exact ⟨by simp, B1.out⟩
  · have e0 : (k == 0) = false := beq_eq_false_iff_ne.2 k0
    have e1 : (k == 1) = false := beq_eq_false_iff_ne.2 k1
    have e2 : (k == 2) = false := beq_eq_false_iff_ne.2 k2
    have e3 : (k == 3) = false := beq_eq_false_iff_ne.2 k3
    have e4 : (k == 4) = false := beq_eq_false_iff_ne.2 k4
    have e5 : (k == 5) = false := beq_eq_false_iff_ne.2 hk
    have HD := Lib.hid (show rightK rt k n s l = false by simp [rightK, k0, k1, k2, k3, k4])
    rw [HD.out]
    clear k0 k1 k2 k3 k4 hk hrt
    go_enter Tryd.func30, Tryd.ntmps30
    go_wp2_with fail
    go_ret
    exact ⟨by simp, HB.out _⟩

end Go.Proofs.YtifaaacbbjlffaaDoor
