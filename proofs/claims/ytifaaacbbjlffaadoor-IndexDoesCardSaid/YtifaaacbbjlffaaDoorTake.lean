/- A region that draws its order: what yields in whatever world is taken first; then reads, in the order of the text; then a tail that is forced. -/
import Derived.Test.YtifaaacbbjlffaaDoorOrders
import Derived.RegionTactic
namespace Go.Proofs.YtifaaacbbjlffaaDoor
open Go.RowKit

section
variable {P : Program} {ops : Array Oper} {md : Region.Mode} {w : World}

/-- what is not yet done ahead of n is waited for -/
structure Head2 (md : Region.Mode) (ops : Array Oper) (n : Nat) (listed : Array Bool) : Prop extends HeadInv md ops n listed where
  sink : ∀ i, i < n → listed.getD i true = false → ∃ j, i < j ∧ j ≤ n ∧ Region.waitsFor md ops j i = true

theorem Head2.set {n i : Nat} {listed : Array Bool} (inv : Head2 md ops n listed) (hi : i ∈ Region.ready md ops listed) (hin : i < n) : Head2 md ops n (listed.setIfInBounds i true) :=
  ⟨inv.toHeadInv.set hi hin, fun j hj hun => by
    refine inv.sink j hj ?_
    by_cases h : i = j
    · subst h
      have : (listed.setIfInBounds i true).getD i true = true := by
        by_cases hi' : i < listed.size
        · simp [hi']
        · simp
      rw [this] at hun; cases hun
    · rw [getD_set_ne true h] at hun; exact hun⟩

theorem tail_waits2 {n : Nat} {listed : Array Bool} (hc : Region.chainB md ops n = true) (hn : n < ops.size) (inv : Head2 md ops n listed) :
    ∀ (d i : Nat), n - i = d → i < n → listed.getD i true = false → ∀ t, n ≤ t → t ∉ Region.ready md ops listed := by
  intro d
  induction d using Nat.strongRecOn with
  | _ d ih =>
    intro i hd hi hun t ht hr
    obtain ⟨_, ot, hot, hall⟩ := mem_ready.1 hr
    have htlt : t < ops.size := (Array.getElem?_eq_some_iff.1 hot).1
    by_cases htn : t = n
    · subst htn
      obtain ⟨j, hij, hjle, hj2⟩ := inv.sink i hi hun
      obtain ⟨oj, hoj, e, he, hb, hon⟩ := Region.waitsFor_spec hj2
      by_cases hjt : j = t
      · subst hjt
        have : oj = ot := Option.some.inj (hoj.symm.trans hot)
        subst this
        have h2 := hall e he hb
        rw [hon, getD_both hun] at h2
        cases h2
      · cases hl : listed.getD j false with
        | true =>
          have h2 := inv.closed j oj hoj hl e he hb
          rw [hon, getD_both hun] at h2
          cases h2
        | false =>
          have hjs : j < listed.size := by rw [inv.size]; omega
          exact ih (t - j) (by omega) j rfl (by omega) (getD_in hjs hl) t (Nat.le_refl _) hr
    · have h1 := List.all_eq_true.1 hc t (List.mem_range.2 htlt)
      simp only [Bool.or_eq_true, decide_eq_true_eq] at h1
      rcases h1 with h1 | h1
      · omega
      · obtain ⟨o', ho', e, he, hb, hon⟩ := Region.waitsFor_spec h1
        have : o' = ot := Option.some.inj (ho'.symm.trans hot)
        subst this
        have h2 := hall e he hb
        rw [hon, getD_both (inv.tail (t - 1) (by omega) (by omega))] at h2
        cases h2

theorem wpAnyL_first2 {n i : Nat} {oi : Oper} {v : Value} {L : Array Bool → Act → Prop} (hi : ops[i]? = some oi) (hsel : ∀ (j : Nat) (o : Oper) cs b, ops[j]? = some o → o.op ≠ .select cs b)
    (hc : Region.chainB md ops n = true) (hn : n < ops.size) (hin : i < n)
    (hdone : ∀ listed a, L listed a → ∀ j ∈ Region.ready md ops listed, n ≤ j) :
    ∀ (f : Nat) (listed : Array Bool) (a : Act), Head2 md ops n listed →
      (∀ j oj, ops[j]? = some oj → j ≠ i → listed.getD j true = false → (∀ e ∈ oj.after, Region.binds md e = true → e.on ≠ i) → oi.apart ops oj = true) →
      i ∈ Region.ready md ops listed → YieldsAt P ops w oi v a →
      wpAnyL P md ops w n L f (listed.setIfInBounds i true) (a.put oi.dst v) → wpAnyL P md ops w n L (f + 1) listed a := by
  intro f
  induction f with
  | zero =>
    intro listed a inv _ hr hy H
    have hun := (mem_ready.1 hr).1
    refine ⟨fun h => (by rw [h] at hr; cases hr), fun j hj => ?_⟩
    have hjn : j < n := by
      rcases Nat.lt_or_ge j n with h | h
      · exact h
      · exact absurd hj (tail_waits2 hc hn inv _ i rfl hin hun j h)
    refine ⟨hjn, ?_⟩
    by_cases hji : j = i
    · subst hji; exact hy.stOp hi H
    · have := hdone _ _ H j (ready_mono hj hji)
      omega
  | succ f ih =>
    intro listed a inv hfree hr hy H
    have hun := (mem_ready.1 hr).1
    refine ⟨fun h => (by rw [h] at hr; cases hr), fun j hj => ?_⟩
    have hjn : j < n := by
      rcases Nat.lt_or_ge j n with h | h
      · exact h
      · exact absurd hj (tail_waits2 hc hn inv _ i rfl hin hun j h)
    refine ⟨hjn, ?_⟩
    by_cases hji : j = i
    · subst hji; exact hy.stOp hi H
    · have h1 := (H.2 j (ready_mono hj hji)).2
      obtain ⟨hjun, oj, hoj, hall⟩ := mem_ready.1 hj
      have hnot : ∀ e ∈ oj.after, Region.binds md e = true → e.on ≠ i := fun e he hb heq => by
        have h1 := hall e he hb
        rw [heq, getD_both hun] at h1
        cases h1
      have h2 := stOp_put hoj (hfree j oj hoj hji hjun hnot) (fun cs b => hsel i oi cs b hi) (fun cs b => hsel j oj cs b hoj) hy h1
      have hfree' : ∀ k ok, ops[k]? = some ok → k ≠ i → (listed.setIfInBounds j true).getD k true = false →
          (∀ e ∈ ok.after, Region.binds md e = true → e.on ≠ i) → oi.apart ops ok = true := fun k ok hk hki hun hno => by
        refine hfree k ok hk hki ?_ hno
        by_cases hjk : j = k
        · subst hjk; exact hjun
        · rw [getD_set_ne true hjk] at hun; exact hun
      refine stOp_mono (fun a' h3 => ih (listed.setIfInBounds j true) a' (inv.set hj hjn) hfree' (ready_mono hr (Ne.symm hji)) h3.1 ?_) h2
      rw [Array.setIfInBounds_comm _ _ hji]
      exact h3.2

theorem wpAnyL_lex2 {n g : Nat} {Lq : Act → Prop} (hsel : Region.noSelect ops = true) (hc : Region.chainB md ops n = true) (hn : n < ops.size) :
    ∀ (l : List Oper) (k : Nat) (listed : Array Bool) (a : Act), (∀ j, j < l.length → l[j]? = ops[k + j]?) → k + l.length = n → Head2 md ops n listed →
    Region.lexHead md ops g l.length k listed = true → wpStill P ops w Lq l a →
    wpAnyL P md ops w n (fun listed' a' => Region.seqB md ops g n listed' = true ∧ Lq a') l.length listed a
  | [], k, listed, a, _, hk, _, hB, h => by
    have : k = n := by simpa using hk
    subst this
    exact ⟨by simpa [Region.lexHead] using hB, h⟩
  | o :: l, k, listed, a, hl, hk, inv, hB, h => by
    have h0 : ops[k]? = some o := by simpa using (hl 0 (by simp)).symm
    simp only [List.length_cons, Region.lexHead, Bool.and_eq_true] at hB
    obtain ⟨⟨hr, hf⟩, hB'⟩ := hB
    have hkn : k < n := by simp only [List.length_cons] at hk; omega
    have hr' : k ∈ Region.ready md ops listed := by simpa using hr
    have hst : stOp P ops w k (wpStill P ops w Lq l) a := by unfold stOp; simp only [h0]; exact h
    obtain ⟨v, hy, hK⟩ := yieldsAt_of_stOp h0 hst
    exact wpAnyL_first2 h0 (Region.noSelect_spec hsel) hc hn hkn (fun listed' a' hL => seqB_ready hL.1) l.length listed a inv (Region.free_spec h0 hf) hr' hy
      (wpAnyL_lex2 hsel hc hn l (k + 1) _ _ (fun j hj => by have := hl (j + 1) (by simp; omega); simpa [Nat.add_assoc, Nat.add_comm 1 j] using this) (by simp only [List.length_cons] at hk; omega) (inv.set hr' hkn) hB' hK)

/-- the closed facts of a region whose first operation floats -/
def takeTailB (ops : Array Oper) (n : Nat) : Bool :=
  let listed := (Array.replicate ops.size false).setIfInBounds 0 true
  Region.noSelect ops && decide (n < ops.size) && decide (0 < n) && Region.chainB .any ops n &&
  ((List.range n).all fun i => i == 0 || (List.range (n + 1)).any fun j => decide (i < j) && Region.waitsFor .any ops j i) &&
  (Region.ready .any ops (Array.replicate ops.size false)).contains 0 && Region.free .any ops (Array.replicate ops.size false) 0 &&
  ((ops[0]?.map fun o => o.after.isEmpty).getD false) &&
  Region.lexHead .any ops (ops.size - n) (n - 1) 1 listed

theorem getD_rep1 (m j : Nat) (h : ((Array.replicate m false).setIfInBounds 0 true).getD j false = true) : j = 0 := by
  by_cases hj : j = 0
  · exact hj
  · rw [getD_set_ne false (Ne.symm hj), getD_replicate_false] at h; cases h

theorem wp_take_tail {id : Nat} {Q : Exit → Act → World → Prop} {a : Act} {w : World} {o : Oper} {l : List Oper} (n : Nat) (v : Value) (hm : P.follows .mixedOrders = true) (hB : takeTailB (o :: l).toArray n = true)
    (hQ : ∀ c a w, Q (.panic c) (a.put o.dst v) w → Q (.panic c) a w) (hy : Yields P (o :: l).toArray o v a)
    (h : wpStill P (o :: l).toArray w.drew (fun a' => wpList P (o :: l).toArray Q (l.drop (n - 1)) a' w.drew) (l.take (n - 1)) (a.put o.dst v)) : (Code.region id (o :: l).toArray true).wp P Q a w := by
  simp only [takeTailB, Bool.and_eq_true, decide_eq_true_eq] at hB
  obtain ⟨⟨⟨⟨⟨⟨⟨⟨hsel, hn⟩, hn0⟩, hc⟩, hs⟩, hr0⟩, hf0⟩, ha0⟩, hlex⟩ := hB
  have hn' : n < l.length + 1 := by simpa using hn
  have hsz : (o :: l).toArray.size = l.length + 1 := by simp
  have htl : (l.take (n - 1)).length = n - 1 := by simp; omega
  have hdl : (l.drop (n - 1)).length = (o :: l).toArray.size - n := by simp; omega
  refine wp_region_any hm ?_
  rw [hsz]
  refine wpAny_take (i := 0) (oi := o) (v := v) (by simp) hsel hf0 hr0 hQ hy ?_
  have inv0 : Head2 .any (o :: l).toArray n ((Array.replicate (o :: l).toArray.size false).setIfInBounds 0 true) := by
    refine ⟨⟨by simp, fun j oj hj hl' e he hb => ?_, fun t ht ht' => ?_⟩, fun i hi hun => ?_⟩
    · have := getD_rep1 _ _ hl'
      subst this
      have ho : oj = o := by simpa using hj.symm
      subst ho
      have : oj.after = #[] := by simpa using ha0
      rw [this] at he; simp at he
    · rw [getD_set_ne true (by omega)]; exact getD_in (by simpa using ht') (getD_replicate_false _ _)
    · have h1 := List.all_eq_true.1 hs i (List.mem_range.2 hi)
      simp only [Bool.or_eq_true, beq_iff_eq, List.any_eq_true, List.mem_range, Bool.and_eq_true, decide_eq_true_eq] at h1
      rcases h1 with h1 | ⟨j, hj, h2, h3⟩
      · subst h1
        exfalso
        have : ((Array.replicate (o :: l).toArray.size false).setIfInBounds 0 true).getD 0 true = true := by simp
        rw [this] at hun; cases hun
      · exact ⟨j, h2, by omega, h3⟩
  have H := wpAnyL_lex2 (P := P) (w := w.drew) (md := .any) (g := (o :: l).toArray.size - n) (Lq := fun a' => wpList P (o :: l).toArray Q (l.drop (n - 1)) a' w.drew) hsel hc hn (l.take (n - 1)) 1 _ (a.put o.dst v) (fun j hj => by
    have hj' : j < n - 1 := by rw [htl] at hj; exact hj
    simp [hj', Nat.add_comm 1 j]) (by rw [htl]; omega) inv0 (by rw [htl]; exact hlex) h
  have := wpAny_of_head (Q' := Q) (g := (o :: l).toArray.size - n) (fun listed a' hL => by
    have := wpAny_of_seq (md := .any) (Q' := Q) (l.drop (n - 1)) n listed a' w.drew (fun j => by
      rw [List.getElem?_drop, List.getElem?_toArray, show n + j = (n - 1 + j) + 1 by omega, List.getElem?_cons_succ]) (by rw [hdl]; exact hL.1) hL.2
    rwa [hdl] at this) _ _ _ H
  rw [htl, hsz, show n - 1 + (l.length + 1 - n) = l.length by omega] at this
  exact this
end
end Go.Proofs.YtifaaacbbjlffaaDoor
