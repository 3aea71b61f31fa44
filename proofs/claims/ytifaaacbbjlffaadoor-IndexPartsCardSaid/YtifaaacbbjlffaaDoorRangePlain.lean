/- What IndexRange counts, in plain Lean; val.Same. -/
import Derived.Test.YtifaaacbbjlffaaDoorLawMore
namespace Mor
def inR (lo hi : Vl) (v : Vl) : Bool := decide (side lo hi v = 0)
theorem rng_len (lo hi : Vl) (L : List Pr) : (rng lo hi L).length = (L.filter fun q => decide (side lo hi q.1 = 0)).length := by unfold rng; simp
theorem rng_ins_len (lo hi : Vl) (p : Pr) : ∀ L : List Pr, (rng lo hi (ins p L)).length = (rng lo hi L).length + if side lo hi p.1 = 0 then 1 else 0
  | [] => by
    simp only [ins, rng_len]
    by_cases h : side lo hi p.1 = 0 <;> simp [h]
  | q :: L => by
    have ih := rng_ins_len lo hi p L
    simp only [rng_len] at ih ⊢
    unfold ins
    split
    · by_cases h : side lo hi p.1 = 0 <;> simp [List.filter_cons, h]
    · by_cases h : side lo hi q.1 = 0
      · simp only [List.filter_cons, h, decide_true, if_true, List.length_cons, ih]; omega
      · simp only [List.filter_cons, h, decide_false, Bool.false_eq_true, if_false, ih]
/-- how many of the pairs ahead lie there, each counted once -/
def cntR (lo hi : Vl) (ps : List Pr) : Nat := (rng lo hi (madeL ps)).length
theorem cntR_again (lo hi : Vl) (ps : List Pr) (p : Pr) (h : p ∈ ps) : cntR lo hi (ps ++ [p]) = cntR lo hi ps := by
  unfold cntR
  rw [madeL_snoc]; unfold addP
  rw [if_pos (has_iff.2 (mem_madeL.2 h))]
theorem cntR_new (lo hi : Vl) (ps : List Pr) (p : Pr) (h : p ∉ ps) : cntR lo hi (ps ++ [p]) = cntR lo hi ps + if side lo hi p.1 = 0 then 1 else 0 := by
  unfold cntR
  rw [madeL_snoc]; unfold addP
  rw [if_neg (fun hh => h (mem_madeL.1 (has_iff.1 hh))), rng_ins_len]
theorem cntR_le (lo hi : Vl) (ps : List Pr) : cntR lo hi ps ≤ ps.length := by
  unfold cntR
  rw [rng_len]
  exact Nat.le_trans (List.length_filter_le _ _) (madeL_len ps)
theorem mem_rng {lo hi : Vl} {ps : List Pr} {p : Pr} (h : p ∈ ps) (hs : side lo hi p.1 = 0) : p.2 ∈ rng lo hi (madeL ps) := by
  unfold rng
  exact List.mem_map.2 ⟨p, List.mem_filter.2 ⟨mem_madeL.2 h, by simpa using hs⟩, rfl⟩
theorem side_self {v u : Vl} (h : side v v u = 0) : u = v := by
  unfold side at h
  have a := wk_cmpV.anti u v
  split at h
  · omega
  · split at h
    · omega
    · exact (cmpV_zero _ _).1 (by omega)
/-- what is found stands by rising numbers -/
theorem rng_rises (v : Vl) (L : List Pr) (h : Sorted L) : (rng v v L).Pairwise (· < ·) := by
  unfold rng
  rw [List.pairwise_map]
  refine List.Pairwise.imp_of_mem ?_ (List.Pairwise.filter _ h)
  intro a b ha hb hab
  have e1 := side_self (by simpa using (List.mem_filter.1 ha).2)
  have e2 := side_self (by simpa using (List.mem_filter.1 hb).2)
  unfold ordP thenC at hab
  simp only at hab
  rw [e1, e2, wk_cmpV.self, if_neg (by omega)] at hab
  unfold ordI at hab
  split at hab
  · assumption
  · split at hab <;> omega
theorem side_zero {lo hi v : Vl} (h1 : ¬ cmpV v lo < 0) (h2 : ¬ 0 < cmpV v hi) : side lo hi v = 0 := by unfold side; rw [if_neg h1, if_neg h2]
theorem side_low {lo hi v : Vl} (h1 : cmpV v lo < 0) : side lo hi v ≠ 0 := by unfold side; rw [if_pos h1]; omega
theorem side_high {lo hi v : Vl} (h1 : ¬ cmpV v lo < 0) (h2 : 0 < cmpV v hi) : side lo hi v ≠ 0 := by unfold side; rw [if_neg h1, if_pos h2]; omega
theorem has_snoc (p q : Pr) (l : List Pr) : has p (l ++ [q]) = (has p l || decide (ordP q p = 0)) := by simp [has]
theorem key_eq (a b : Vl) (i j : Int) : decide (ordP (b, j) (a, i) = 0) = (decide (j = i) && decide (cmpV b a = 0)) := by
  rw [Bool.eq_iff_iff, Bool.and_eq_true, decide_eq_true_eq, decide_eq_true_eq, decide_eq_true_eq, ordP_zero, cmpV_zero, Prod.mk.injEq]
  exact And.comm
end Mor
namespace Go.Proofs.YtifaaacbbjlffaaDoor
open Go.RowKit Mor
theorem same_any (V U : Vl) (v u : Value) (w : World) (hv : IsV w v V) (hu : IsV w u U) : Calls Tryd.prog 26 #[v, u] w fun e w' => e = .returned (.bool (decide (cmpV V U = 0))) ∧ Below w.heap.size w w' := by
  have HB := Lib.hid (fun (o o' : Obj) => ((Below.refl w.heap.size w).alloc (Nat.le_refl _) o).alloc (by simp) o')
  have HC := Lib.hid (fun (W : World) (h : Below w.heap.size w W) => compare_any V U v u W (hv.below h) (hu.below h))
  obtain ⟨sl, rfl, hl⟩ := hv
  obtain ⟨sr, rfl, hr⟩ := hu
  obtain ⟨la, ll, lc, rfl⟩ := hl.slice
  obtain ⟨ra, rl, rc, rfl⟩ := hr.slice
  clear hl hr
  by_cases h : cmpV V U = 0
  · have hz : (cmpV V U == 0) = true := by rw [h]; rfl
    rw [decide_eq_true h]
    clear h
    go_enter Tryd.func26, Tryd.ntmps26
    go_wp2_with fail
    refine (HC.out _ (HB.out _ _)).mono ?_
    rintro e w1 ⟨rfl, b1⟩
    have B1 := Lib.hid ((HB.out _ _).trans (b1.mono (by simp; omega)))
    clear b1
    go_wp2_with fail
    go_ret
    exact ⟨by simp, B1.out⟩
  · have hz : (cmpV V U == 0) = false := beq_eq_false_iff_ne.2 h
    rw [decide_eq_false h]
    clear h
    go_enter Tryd.func26, Tryd.ntmps26
    go_wp2_with fail
    refine (HC.out _ (HB.out _ _)).mono ?_
    rintro e w1 ⟨rfl, b1⟩
    have B1 := Lib.hid ((HB.out _ _).trans (b1.mono (by simp; omega)))
    clear b1
    go_wp2_with fail
    go_ret
    exact ⟨by simp, B1.out⟩
end Go.Proofs.YtifaaacbbjlffaaDoor
