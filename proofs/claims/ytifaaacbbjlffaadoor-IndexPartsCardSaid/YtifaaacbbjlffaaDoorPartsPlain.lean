/- What IndexParts says of ranges, in plain Lean. -/
import Derived.Test.YtifaaacbbjlffaaDoorRangePlain
namespace Mor
theorem filter_split {α : Type} (p q : α → Bool) : ∀ (L : List α), L.Pairwise (fun a b => q a = true → p b = false) → (∀ a, p a = true → q a = false) → L.filter (fun a => p a || q a) = L.filter p ++ L.filter q
  | [], _, _ => rfl
  | x :: L, h, hn => by
    obtain ⟨h1, h2⟩ := List.pairwise_cons.1 h
    have ih := filter_split p q L h2 hn
    cases hp : p x
    · cases hq : q x
      · simp [hp, hq, ih]
      · have e : L.filter p = [] := List.filter_eq_nil_iff.2 fun b hb => by rw [h1 b hb hq]; simp
        rw [e] at ih
        simp [hp, hq, ih, e]
    · have hq := hn x hp
      simp [hp, hq, ih]
theorem pr_le {a b : Pr} (h : ordP a b < 0) : cmpV a.1 b.1 ≤ 0 := by
  unfold ordP thenC at h
  simp only at h
  split at h <;> omega
def isLow (lo mid : Vl) (q : Pr) : Bool := decide (¬ cmpV q.1 lo < 0) && decide (cmpV q.1 mid < 0)
def isHigh (mid hi : Vl) (q : Pr) : Bool := decide (0 < cmpV q.1 mid) && decide (¬ 0 < cmpV q.1 hi)
def isMid (lo hi : Vl) (q : Pr) : Bool := decide (side lo hi q.1 = 0)
theorem isMid_eq (lo hi : Vl) (q : Pr) : isMid lo hi q = (decide (¬ cmpV q.1 lo < 0) && decide (¬ 0 < cmpV q.1 hi)) := by
  unfold isMid side
  by_cases h1 : cmpV q.1 lo < 0
  · simp [h1]
  · by_cases h2 : 0 < cmpV q.1 hi <;> simp [h1, h2]
theorem rng_mid (lo hi : Vl) (L : List Pr) : rng lo hi L = (L.filter (isMid lo hi)).map (·.2) := rfl
theorem mid_low {lo mid : Vl} (h : cmpV lo mid ≤ 0) (q : Pr) : isMid lo mid q = (isLow lo mid q || isMid mid mid q) := by
  rw [isMid_eq, isMid_eq]
  unfold isLow
  have t1 := wk_cmpV.tr lo mid q.1 h
  have a1 := wk_cmpV.anti lo q.1
  have a2 := wk_cmpV.anti mid q.1
  by_cases h1 : cmpV q.1 lo < 0 <;> by_cases h2 : cmpV q.1 mid < 0 <;> by_cases h3 : 0 < cmpV q.1 mid <;> simp [h1, h2, h3] <;> omega
theorem mid_high {mid hi : Vl} (h : cmpV mid hi ≤ 0) (q : Pr) : isMid mid hi q = (isMid mid mid q || isHigh mid hi q) := by
  rw [isMid_eq, isMid_eq]
  unfold isHigh
  have t1 := fun x => wk_cmpV.tr q.1 mid hi x h
  by_cases h1 : 0 < cmpV q.1 hi <;> by_cases h2 : cmpV q.1 mid < 0 <;> by_cases h3 : 0 < cmpV q.1 mid <;> simp [h1, h2, h3] <;> omega
theorem mid_all {lo mid hi : Vl} (h : cmpV lo mid ≤ 0) (h' : cmpV mid hi ≤ 0) (q : Pr) : isMid lo hi q = (isMid lo mid q || isHigh mid hi q) := by
  rw [isMid_eq, isMid_eq]
  unfold isHigh
  have t1 := fun x => wk_cmpV.tr q.1 mid hi x h'
  have t2 := fun x => wk_cmpV.tr lo mid q.1 h x
  have a1 := wk_cmpV.anti lo q.1
  have a2 := wk_cmpV.anti mid q.1
  by_cases h1 : cmpV q.1 lo < 0 <;> by_cases h2 : 0 < cmpV q.1 hi <;> by_cases h3 : 0 < cmpV q.1 mid <;> simp [h1, h2, h3] <;> omega
theorem before_low {lo mid : Vl} {a b : Pr} (h : ordP a b < 0) (ha : isMid mid mid a = true) : isLow lo mid b = false := by
  have hle := pr_le h
  rw [isMid_eq] at ha
  simp only [Bool.and_eq_true, decide_eq_true_eq] at ha
  have t := fun x => wk_cmpV.lt_tr (a := b.1) (b := mid) (e := a.1) x (by have := wk_cmpV.anti mid a.1; omega)
  have an := wk_cmpV.anti a.1 b.1
  unfold isLow
  by_cases h2 : cmpV b.1 mid < 0
  · have := t h2; omega
  · simp [h2]
theorem before_high {lo mid hi : Vl} {a b : Pr} (h : ordP a b < 0) (ha : isHigh mid hi a = true) : isMid lo mid b = false := by
  have hle := pr_le h
  unfold isHigh at ha
  simp only [Bool.and_eq_true, decide_eq_true_eq] at ha
  rw [isMid_eq]
  have t := fun x => wk_cmpV.tr a.1 b.1 mid hle x
  by_cases h2 : 0 < cmpV b.1 mid
  · simp [h2]
  · have := t (by omega); omega
theorem split_low {lo mid : Vl} (h : cmpV lo mid ≤ 0) {L : List Pr} (hL : Sorted L) : rng lo mid L = (L.filter (isLow lo mid)).map (·.2) ++ rng mid mid L := by
  rw [rng_mid, rng_mid, ← List.map_append, ← filter_split]
  · congr 1; exact List.filter_congr fun q _ => mid_low h q
  · exact hL.imp fun hab ha => before_low hab ha
  · intro q hq; unfold isLow at hq; rw [isMid_eq]; simp at hq ⊢; omega
theorem split_high {mid hi : Vl} (h : cmpV mid hi ≤ 0) {L : List Pr} (hL : Sorted L) : rng mid hi L = rng mid mid L ++ (L.filter (isHigh mid hi)).map (·.2) := by
  rw [rng_mid, rng_mid, ← List.map_append, ← filter_split]
  · congr 1; exact List.filter_congr fun q _ => mid_high h q
  · exact hL.imp fun hab ha => before_high hab ha
  · intro q hq; rw [isMid_eq] at hq; unfold isHigh; simp at hq ⊢; omega
theorem split_all {lo mid hi : Vl} (h : cmpV lo mid ≤ 0) (h' : cmpV mid hi ≤ 0) {L : List Pr} (hL : Sorted L) : rng lo hi L = rng lo mid L ++ (L.filter (isHigh mid hi)).map (·.2) := by
  rw [rng_mid, rng_mid, ← List.map_append, ← filter_split]
  · congr 1; exact List.filter_congr fun q _ => mid_all h h' q
  · exact hL.imp fun hab ha => before_high hab ha
  · intro q hq; rw [isMid_eq] at hq; unfold isHigh; simp at hq ⊢; omega
/-- what IndexParts says -/
theorem parts {lo mid hi : Vl} (h : cmpV lo mid ≤ 0) (h' : cmpV mid hi ≤ 0) {L : List Pr} (hL : Sorted L) :
    (rng mid mid L).length ≤ (rng lo mid L).length ∧ (rng mid mid L).length ≤ (rng mid hi L).length ∧ rng lo hi L = rng lo mid L ++ (rng mid hi L).drop (rng mid mid L).length ∧
    (rng mid hi L).take (rng mid mid L).length = rng mid mid L ∧ (rng lo mid L).drop ((rng lo mid L).length - (rng mid mid L).length) = rng mid mid L := by
  have e1 := split_low h hL
  have e2 := split_high h' hL
  have e3 := split_all h h' hL
  refine ⟨by rw [e1]; simp, by rw [e2]; simp, ?_, ?_, ?_⟩
  · rw [e3, e2]; simp
  · rw [e2]; simp
  · rw [e1, List.length_append, Nat.add_sub_cancel]; simp
theorem rng_empty {lo hi : Vl} (h : 0 < cmpV lo hi) (L : List Pr) : rng lo hi L = [] := rng_none fun q _ => by
  unfold side
  split
  · omega
  · rename_i h1
    rw [if_pos]
    · omega
    · have t := fun x => wk_cmpV.tr lo q.1 hi (by have := wk_cmpV.anti q.1 lo; omega) x
      by_cases h3 : 0 < cmpV q.1 hi
      · exact h3
      · have := t (by omega); omega
end Mor
