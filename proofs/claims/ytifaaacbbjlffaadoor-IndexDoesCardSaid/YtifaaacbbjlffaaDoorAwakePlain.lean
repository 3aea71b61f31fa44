/- The few values of the laws are right ones; what the three pairs of awake tell. -/
import Derived.Test.YtifaaacbbjlffaaDoorLawSame
namespace Mor
open Go.Lib

theorem bareB_empty : bareB ⟨#[]⟩ 0 = true := by simp [bareB, toList_data]
theorem right_num (n : Int) : rightV ⟨1, n, ⟨#[]⟩, []⟩ = numB n := by
  rw [rightV_else _ (show (1 : Int) ≠ 5 by decide)]
  show (bareB ⟨#[]⟩ 0 && numB n) = _
  rw [bareB_empty, Bool.true_and]
theorem right_nil : rightV ⟨0, 0, ⟨#[]⟩, []⟩ = true := by
  rw [rightV_else _ (by decide)]
  show (bareB ⟨#[]⟩ 0 && decide ((0 : Int) = 0)) = _
  rw [bareB_empty]; rfl
theorem right_ref (n : Int) : rightV ⟨3, n, ⟨#[]⟩, []⟩ = idB n := by
  rw [rightV_else _ (show (3 : Int) ≠ 5 by decide)]
  show (bareB ⟨#[]⟩ 0 && idB n) = _
  rw [bareB_empty, Bool.true_and]
theorem right_weak (n : Int) : rightV ⟨4, n, ⟨#[]⟩, []⟩ = idB n := by
  rw [rightV_else _ (show (4 : Int) ≠ 5 by decide)]
  show (bareB ⟨#[]⟩ 0 && idB n) = _
  rw [bareB_empty, Bool.true_and]
theorem right_text (s : ByteArray) : rightV ⟨2, 0, s, []⟩ = rightT s := by
  rw [rightV_else _ (show (2 : Int) ≠ 5 by decide)]
  show (decide ((0 : Int) = 0) && (decide (0 = 0) && rightT s)) = _
  simp
theorem rightT_txt (c : Int) : rightT (txtZ c) = true := by
  unfold txtZ
  split
  · decide +kernel
  · split
    · decide +kernel
    · split
      · decide +kernel
      · split
        · decide +kernel
        · decide +kernel
theorem rightP_num (z : Int) : rightP (numP z) = true := by
  have hb := pickZ_bd z 3 (by decide)
  show (decide ((1 : Int) ≠ 5) && (bareB ⟨#[]⟩ 0 && numB (pickZ z 3))) = true
  rw [bareB_empty]
  simp [numB]; omega
theorem right_list (l : List Int) : rightV ⟨5, 0, ⟨#[]⟩, listOf l⟩ = true := by
  rw [rightV_five _ rfl]
  have h1 : (ByteArray.mk #[]).toList.isEmpty = true := by rw [toList_data]; rfl
  have h2 : (listOf l).all rightP = true := by
    unfold listOf
    rw [List.all_map]
    exact List.all_eq_true.2 fun z _ => rightP_num z
  have h3 : (listOf l).length ≤ 12 := by unfold listOf; simp; omega
  simp only [h1, h2, decide_eq_true h3]
  rfl
/-- whatever the raw numbers are, the value is right -/
theorem right_rawVal (r : RawD) : rightV (rawVal r) = true := by
  have b1 := pickZ_bd r.n 12 (by decide)
  have b2 := pickZ_bd r.n 5 (by decide)
  have b3 := pickZ_bd r.n 3 (by decide)
  unfold rawVal
  split
  · exact right_nil
  · split
    · rw [right_num]; simp [numB]; omega
    · split
      · rw [right_num]; simp [numB]; omega
      · split
        · rw [right_text]; exact rightT_txt _
        · split
          · rw [right_ref]; simp [idB]; omega
          · split
            · rw [right_weak]; simp [idB]; omega
            · exact right_list _
theorem txtZ_size (c : Int) : (txtZ c).size ≤ 2 := by
  unfold txtZ
  by_cases h0 : c = 0
  · rw [if_pos h0]; decide
  · rw [if_neg h0]
    by_cases h1 : c = 1
    · rw [if_pos h1]; decide
    · rw [if_neg h1]
      by_cases h2 : c = 2
      · rw [if_pos h2]; decide
      · rw [if_neg h2]
        by_cases h3 : c = 3
        · rw [if_pos h3]; decide
        · rw [if_neg h3]; decide

def five : Vl := ⟨1, 5, ⟨#[]⟩, []⟩
def six : Vl := ⟨1, 6, ⟨#[]⟩, []⟩
def seven : Vl := ⟨1, 7, ⟨#[]⟩, []⟩
def nine : Vl := ⟨9, 0, ⟨#[]⟩, []⟩
theorem right_five : rightV five = true := (right_num 5).trans (by decide)
theorem right_six : rightV six = true := (right_num 6).trans (by decide)
theorem right_seven : rightV seven = true := (right_num 7).trans (by decide)
theorem right_nine : rightV nine = false := by
  rw [rightV_else _ (by decide)]
  rfl
def L1 : List Pr := [(five, 2)]
def L2 : List Pr := [(five, 1), (five, 2)]
def L3 : List Pr := [(five, 1), (five, 2), (seven, 3)]
def L4 : List Pr := [(five, 2), (seven, 3)]
theorem okB_five (i : Int) : okB five i = idOk i := by unfold okB; rw [right_five, Bool.true_and]
theorem okB_seven (i : Int) : okB seven i = idOk i := by unfold okB; rw [right_seven, Bool.true_and]
theorem aw1 : putE five 2 [] = 0 ∧ putL five 2 [] = L1 := by unfold putE putL; rw [okB_five]; exact ⟨by decide +kernel, rfl⟩
theorem aw2 : putE five 1 L1 = 0 ∧ putL five 1 L1 = L2 := by unfold putE putL; rw [okB_five]; exact ⟨by decide +kernel, rfl⟩
theorem aw3 : putE seven 3 L2 = 0 ∧ putL seven 3 L2 = L3 := by unfold putE putL; rw [okB_seven]; exact ⟨by decide +kernel, rfl⟩
theorem aw4 : putE five 2 L3 = 150 ∧ putL five 2 L3 = L3 := by unfold putE putL; rw [okB_five]; exact ⟨by decide +kernel, rfl⟩
theorem aw5 : putE five 0 L3 = 2 ∧ putL five 0 L3 = L3 := by unfold putE putL; rw [okB_five]; exact ⟨by decide +kernel, rfl⟩
theorem aw6 : putE nine 1 L3 = 2 ∧ putL nine 1 L3 = L3 := by unfold putE putL okB; rw [right_nine]; exact ⟨rfl, rfl⟩
theorem aw7 : rangeL five five L3 = [1, 2] := by unfold rangeL; rw [right_five]; rfl
theorem aw8 : rangeL five seven L3 = [1, 2, 3] := by unfold rangeL; rw [right_five, right_seven]; rfl
theorem aw9 : rangeL six six L3 = [] := by unfold rangeL; rw [right_six]; rfl
theorem aw10 : dropE five 1 L3 = true ∧ dropL five 1 L3 = L4 := by
  have : dropE five 1 L3 = true := by unfold dropE; rw [okB_five]; decide +kernel
  refine ⟨this, ?_⟩
  unfold dropL; rw [this]; rfl
theorem aw11 : dropE five 1 L4 = false ∧ dropL five 1 L4 = L4 := by
  have : dropE five 1 L4 = false := by unfold dropE; rw [okB_five]; decide +kernel
  refine ⟨this, ?_⟩
  unfold dropL; rw [this]; rfl
end Mor
