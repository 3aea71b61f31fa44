/- The place of a pair in a sorted list, as the reference seeks it; what is put and dropped there. No program in sight. -/
import Derived.Test.YtifaaacbbjlffaaDoorIdxPlain
namespace Mor
def plc (p : Pr) : List Pr → Nat
  | [] => 0
  | q :: l => if ordP q p < 0 then plc p l + 1 else 0
def hit (p : Pr) (L : List Pr) : Bool := match L[plc p L]? with
  | some q => decide (ordP q p = 0)
  | none => false
theorem plc_le (p : Pr) : ∀ L : List Pr, plc p L ≤ L.length
  | [] => Nat.le_refl _
  | q :: l => by
    unfold plc; split
    · have := plc_le p l; simp only [List.length_cons]; omega
    · omega
/-- all ahead of the place are less -/
theorem plc_less (p : Pr) : ∀ (L : List Pr) (k : Nat) (q : Pr), k < plc p L → L[k]? = some q → ordP q p < 0
  | [], k, q, h, _ => by simp [plc] at h
  | x :: l, k, q, h, hq => by
    unfold plc at h
    split at h
    · rename_i hx
      cases k with
      | zero => simp at hq; exact hq ▸ hx
      | succ k => exact plc_less p l k q (by omega) (by simpa using hq)
    · omega
/-- what stands at the place is not less -/
theorem plc_stop (p : Pr) : ∀ (L : List Pr) (q : Pr), L[plc p L]? = some q → ¬ ordP q p < 0
  | [], q, hq => by simp [plc] at hq
  | x :: l, q, hq => by
    unfold plc at hq
    split at hq
    · exact plc_stop p l q (by simpa using hq)
    · rename_i hx; simp at hq; exact hq ▸ hx
/-- the place, by its two marks -/
theorem plc_of (p : Pr) (L : List Pr) (k : Nat) (h1 : ∀ j q, j < k → L[j]? = some q → ordP q p < 0) (h2 : ∀ q, L[k]? = some q → ¬ ordP q p < 0) (hk : k ≤ L.length) : plc p L = k := by
  by_cases h : k < plc p L
  · have := plc_le p L
    have hlt : k < L.length := by omega
    have e := List.getElem?_eq_getElem hlt
    exact absurd (plc_less p L k _ h e) (h2 _ e)
  · by_cases h' : plc p L < k
    · have hlt : plc p L < L.length := by omega
      have e := List.getElem?_eq_getElem hlt
      exact absurd (h1 _ _ h' e) (plc_stop p L _ e)
    · omega
theorem hit_has {p : Pr} : ∀ {L : List Pr}, Sorted L → hit p L = has p L
  | [], _ => rfl
  | q :: l, hs => by
    have hs' := List.pairwise_cons.1 hs
    have ih := hit_has (p := p) hs'.2
    unfold hit at ih ⊢
    unfold plc
    by_cases h : ordP q p < 0
    · rw [if_pos h]
      have e : has p (q :: l) = has p l := by
        unfold has
        rw [List.any_cons, decide_eq_false (by omega), Bool.false_or]
      rw [e, ← ih]
      simp
    · rw [if_neg h]
      simp only [List.getElem?_cons_zero]
      by_cases h0 : ordP q p = 0
      · have : has p (q :: l) = true := has_iff.2 (by rw [(ordP_zero _ _).1 h0]; simp)
        rw [this, decide_eq_true h0]
      · have : ¬ has p (q :: l) = true := by
          rw [has_iff, List.mem_cons, not_or]
          refine ⟨fun e => h0 (by rw [e]; exact wk_ordP.self _), fun hm => ?_⟩
          have := hs'.1 p hm
          omega
        rw [decide_eq_false h0]
        simpa using this
theorem ins_plc {p : Pr} : ∀ {L : List Pr}, has p L = false → ins p L = L.take (plc p L) ++ p :: L.drop (plc p L)
  | [], _ => rfl
  | q :: l, hh => by
    have hh' : ¬ has p (q :: l) = true := by rw [hh]; decide
    rw [has_iff, List.mem_cons, not_or] at hh'
    have h0 : ordP q p ≠ 0 := fun e => hh'.1 ((ordP_zero _ _).1 e).symm
    have hl : has p l = false := by
      cases h : has p l
      · rfl
      · exact absurd (has_iff.1 h) hh'.2
    unfold ins plc
    by_cases h : ordP q p < 0
    · rw [if_neg (by omega), if_pos h, ins_plc hl]; simp
    · rw [if_pos (by omega), if_neg h]; simp
theorem del_plc {p : Pr} : ∀ {L : List Pr}, Sorted L → has p L = true → del p L = L.take (plc p L) ++ L.drop (plc p L + 1)
  | [], _, hh => by simp [has] at hh
  | q :: l, hs, hh => by
    have hs' := List.pairwise_cons.1 hs
    have hm := has_iff.1 hh
    unfold plc
    by_cases h : ordP q p < 0
    · have hm' : p ∈ l := by
        rcases List.mem_cons.1 hm with rfl | hm
        · have := wk_ordP.self p; omega
        · exact hm
      rw [if_pos h]
      have := del_plc hs'.2 (has_iff.2 hm')
      unfold del at this ⊢
      rw [List.filter_cons_of_pos (by simp; omega), this]; simp
    · rw [if_neg h]
      have e : p = q := by
        rcases List.mem_cons.1 hm with e | hm
        · exact e
        · exact absurd (hs'.1 p hm) h
      subst e
      unfold del
      rw [List.filter_cons_of_neg (by simp [wk_ordP.self])]
      simp only [List.take_zero, List.nil_append, Nat.zero_add, List.drop_succ_cons, List.drop_zero]
      rw [List.filter_eq_self]
      intro x hx
      have := hs'.1 x hx
      have := ordP_flip p x
      simp; omega
end Mor
