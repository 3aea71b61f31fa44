/- The contracts of cmp.Compare at int and at string. -/
import Derived.Test.YtifaaacbbjlffaaDoorProg
import Derived.Test.YtifaaacbbjlffaaDoorBase
import Derived.Test.YtifaaacbbjlffaaDoorValPlain
namespace Go.Proofs.YtifaaacbbjlffaaDoor
open Go.RowKit Mor

theorem isNaN_int (a : Int) (w : World) : Calls Tryd.prog 51 #[.int .i64 a] w fun e w' => e = .returned (.bool false) ∧ w = w' := by
  go_enter Tryd.func51, Tryd.ntmps51
  go_wp2
  go_ret
  exact ⟨by simp, rfl⟩
theorem isNaN_str (a : ByteArray) (w : World) : Calls Tryd.prog 52 #[.string a] w fun e w' => e = .returned (.bool false) ∧ w = w' := by
  go_enter Tryd.func52, Tryd.ntmps52
  go_wp2
  go_ret
  exact ⟨by simp, rfl⟩

theorem cmpInt (a b : Int) (w : World) : Calls Tryd.prog 35 #[.int .i64 a, .int .i64 b] w fun e w' => e = .returned (.int .i64 (ordI a b)) ∧ w = w' := by
  by_cases h1 : a < b
  · have H := Lib.hid (show ordI a b = -1 by simp [ordI, h1])
    go_enter Tryd.func35, Tryd.ntmps35
    go_wp2_with (go_at_call 51; refine (isNaN_int _ _).mono ?_; rintro e w' ⟨rfl, rfl⟩)
    go_ret
    rw [H.out]
    exact ⟨rfl, rfl⟩
  · by_cases h2 : b < a
    · have H := Lib.hid (show ordI a b = 1 by simp [ordI, h1, h2])
      go_enter Tryd.func35, Tryd.ntmps35
      go_wp2_with (go_at_call 51; refine (isNaN_int _ _).mono ?_; rintro e w' ⟨rfl, rfl⟩)
      go_ret
      rw [H.out]
      exact ⟨rfl, rfl⟩
    · have H := Lib.hid (show ordI a b = 0 by simp [ordI, h1, h2])
      go_enter Tryd.func35, Tryd.ntmps35
      go_wp2_with (go_at_call 51; refine (isNaN_int _ _).mono ?_; rintro e w' ⟨rfl, rfl⟩)
      go_ret
      rw [H.out]
      exact ⟨rfl, rfl⟩

theorem cmpStr (a b : ByteArray) (w : World) : Calls Tryd.prog 36 #[.string a, .string b] w fun e w' => e = .returned (.int .i64 (ordS a.data.toList b.data.toList)) ∧ w = w' := by
  have hl : Op.bytesLess a.toList b.toList = decide (ordS a.data.toList b.data.toList = -1) := by rw [Lib.toList_data, Lib.toList_data, less_iff]
  have he : (a.toList == b.toList) = decide (ordS a.data.toList b.data.toList = 0) := by
    rw [Lib.toList_data, Lib.toList_data, Bool.eq_iff_iff, beq_iff_eq, decide_eq_true_eq, ordS_zero]
  rcases ordS_three a.data.toList b.data.toList with h | h | h
  · have H := Lib.hid h
    have hl' : Op.bytesLess a.toList b.toList = true := by rw [hl, h]; rfl
    clear hl he h
    go_enter Tryd.func36, Tryd.ntmps36
    go_wp2_with (go_at_call 52; refine (isNaN_str _ _).mono ?_; rintro e w' ⟨rfl, rfl⟩)
    go_ret
    rw [H.out]
    exact ⟨rfl, rfl⟩
  · have H := Lib.hid h
    have hl' : Op.bytesLess a.toList b.toList = false := by rw [hl, h]; rfl
    have he' : (a.toList == b.toList) = true := by rw [he, h]; rfl
    clear hl he h
    go_enter Tryd.func36, Tryd.ntmps36
    go_wp2_with (go_at_call 52; refine (isNaN_str _ _).mono ?_; rintro e w' ⟨rfl, rfl⟩)
    go_ret
    rw [H.out]
    exact ⟨rfl, rfl⟩
  · have H := Lib.hid h
    have hl' : Op.bytesLess a.toList b.toList = false := by rw [hl, h]; rfl
    have he' : (a.toList == b.toList) = false := by rw [he, h]; rfl
    clear hl he h
    go_enter Tryd.func36, Tryd.ntmps36
    go_wp2_with (go_at_call 52; refine (isNaN_str _ _).mono ?_; rintro e w' ⟨rfl, rfl⟩)
    go_ret
    rw [H.out]
    exact ⟨rfl, rfl⟩

end Go.Proofs.YtifaaacbbjlffaaDoor
