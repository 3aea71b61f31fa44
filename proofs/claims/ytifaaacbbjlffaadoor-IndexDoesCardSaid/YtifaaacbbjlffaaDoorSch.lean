/- A region that draws its order, walked by a schedule: what reads only what stays is taken as soon as it may come up; what else there is comes one by one, as it must, or two in any order; behind such an operation more may be known to stay. -/
import Derived.Test.YtifaaacbbjlffaaDoorTake
import Derived.OrdersHeld
namespace Go.Proofs.YtifaaacbbjlffaaDoor
open Go.RowKit

/-- a schedule -/
inductive Sch where
  | done
  | read (i : Nat) (r : Sch)
  | call (i : Nat) (r : Sch)
  | two (i : Nat) (r : Sch) (j : Nat) (s : Sch)

section
variable {P : Program} {ops : Array Oper} {Q : Exit → Act → World → Prop}

def Sch.ok (ops : Array Oper) : Sch → Nat → Array Bool → Bool
  | .done, n, listed => decide (n = 0) && (Region.ready .any ops listed).isEmpty
  | .read i r, n, listed => decide (0 < n) && (Region.ready .any ops listed).contains i && Region.free .any ops listed i && r.ok ops (n - 1) (listed.setIfInBounds i true)
  | .call i r, n, listed => decide (0 < n) && decide (Region.ready .any ops listed = [i]) && r.ok ops (n - 1) (listed.setIfInBounds i true)
  | .two i r j s, n, listed => decide (0 < n) && decide (Region.ready .any ops listed = [i, j]) && r.ok ops (n - 1) (listed.setIfInBounds i true) && s.ok ops (n - 1) (listed.setIfInBounds j true)
def schOk (ops : Array Oper) (s : Sch) : Bool := Region.noSelect ops && s.ok ops ops.size (Array.replicate ops.size false)

def wpSch (P : Program) (ops : Array Oper) (Q : Exit → Act → World → Prop) : (World → Prop) → Sch → Act → World → Prop
  | _, .done, a, w => Q .normal a w
  | S, .read i r, a, w => ∃ o v, ops[i]? = some o ∧ YieldsIf P ops S o v a ∧ wpSch P ops Q S r (a.put o.dst v) w
  | S, .call i r, a, w => wpOp P ops Q i (fun a' w' => ∃ S' : World → Prop, (∀ W, S' W → S W) ∧ S' w' ∧ wpSch P ops Q S' r a' w') a w
  | S, .two i r j s, a, w => wpOp P ops Q i (fun a' w' => ∃ S' : World → Prop, (∀ W, S' W → S W) ∧ S' w' ∧ wpSch P ops Q S' r a' w') a w ∧ wpOp P ops Q j (fun a' w' => ∃ S' : World → Prop, (∀ W, S' W → S W) ∧ S' w' ∧ wpSch P ops Q S' s a' w') a w

theorem wpAnyH_weaken {S S' : World → Prop} (h : ∀ W, S' W → S W) : ∀ (fuel : Nat) (listed : Array Bool) (a : Act) (w : World), wpAnyH P .any ops Q S' fuel listed a w → wpAnyH P .any ops Q S fuel listed a w
  | 0, _, _, _, hh => hh
  | fuel + 1, _, _, _, hh => ⟨hh.1, fun i hi => wpOp_mono (fun a' w' h' => ⟨h _ h'.1, wpAnyH_weaken h fuel _ a' w' h'.2⟩) (hh.2 i hi)⟩
theorem put_anyX (hQ : ∀ t v c a w, Q (.panic c) (a.put (some t) v) w → Q (.panic c) a w) (d : Option Tmp) (v : Value) (c : List PanicEntry) (a : Act) (w : World) (h : Q (.panic c) (a.put d v) w) : Q (.panic c) a w := by
  cases d with
  | none => exact h
  | some t => exact hQ t v c a w h
theorem wpAnyH_sch (hsel : Region.noSelect ops = true) (hQ' : ∀ t v c a w, Q (.panic c) (a.put (some t) v) w → Q (.panic c) a w) : ∀ (s : Sch) (n : Nat) (listed : Array Bool) (S : World → Prop) (a : Act) (w : World), s.ok ops n listed = true → S w → wpSch P ops Q S s a w → wpAnyH P .any ops Q S n listed a w
  | .done, n, listed, S, a, w, hB, _, h => by
    simp only [Sch.ok, Bool.and_eq_true] at hB
    exact wpAnyH_done (by simpa using hB.2) h _
  | .read i r, n, listed, S, a, w, hB, hS, h => by
    simp only [Sch.ok, Bool.and_eq_true, decide_eq_true_eq] at hB
    obtain ⟨⟨⟨h0, h1⟩, h2⟩, h3⟩ := hB
    obtain ⟨o, v, ho, hy, h'⟩ := h
    obtain ⟨m, rfl⟩ : ∃ m, n = m + 1 := ⟨n - 1, by omega⟩
    exact wpAnyH_take ho hsel h2 h1 (fun c a w => put_anyX hQ' _ _ c a w) hy hS (wpAnyH_sch hsel hQ' r _ _ S _ _ h3 hS h')
  | .call i r, n, listed, S, a, w, hB, _, h => by
    simp only [Sch.ok, Bool.and_eq_true, decide_eq_true_eq] at hB
    obtain ⟨⟨h0, h1⟩, h3⟩ := hB
    obtain ⟨m, rfl⟩ : ∃ m, n = m + 1 := ⟨n - 1, by omega⟩
    refine wpAnyH_all h1 (by simp) fun j hj => ?_
    obtain rfl : j = i := by simpa using hj
    exact wpOp_mono (fun a' w' ⟨S', s1, s2, h'⟩ => ⟨s1 _ s2, wpAnyH_weaken s1 _ _ _ _ (wpAnyH_sch hsel hQ' r _ _ S' _ _ h3 s2 h')⟩) h
  | .two i r j s, n, listed, S, a, w, hB, _, h => by
    simp only [Sch.ok, Bool.and_eq_true, decide_eq_true_eq] at hB
    obtain ⟨⟨⟨h0, h1⟩, h3⟩, h4⟩ := hB
    obtain ⟨m, rfl⟩ : ∃ m, n = m + 1 := ⟨n - 1, by omega⟩
    refine wpAnyH_all h1 (by simp) fun k hk => ?_
    simp only [List.mem_cons, List.not_mem_nil, or_false] at hk
    rcases hk with rfl | rfl
    · exact wpOp_mono (fun a' w' ⟨S', s1, s2, h'⟩ => ⟨s1 _ s2, wpAnyH_weaken s1 _ _ _ _ (wpAnyH_sch hsel hQ' r _ _ S' _ _ h3 s2 h')⟩) h.1
    · exact wpOp_mono (fun a' w' ⟨S', s1, s2, h'⟩ => ⟨s1 _ s2, wpAnyH_weaken s1 _ _ _ _ (wpAnyH_sch hsel hQ' s _ _ S' _ _ h4 s2 h')⟩) h.2

theorem wp_sch {id : Nat} {a : Act} {w : World} (S : World → Prop) (s : Sch) (hm : P.follows .mixedOrders = true) (hB : schOk ops s = true)
    (hQ : ∀ t v c a w, Q (.panic c) (a.put (some t) v) w → Q (.panic c) a w) (hS : S w.drew) (h : wpSch P ops Q S s a w.drew) : (Code.region id ops true).wp P Q a w := by
  simp only [schOk, Bool.and_eq_true] at hB
  refine wp_region_held (S := S) hm ?_
  exact wpAnyH_sch hB.1 hQ s _ _ S a w.drew hB.2 hS h

variable {S : World → Prop}
theorem wpSch_read {i : Nat} {o : Oper} {r : Sch} {a : Act} {w : World} {v : Value} (h0 : ops[i]? = some o) (hy : YieldsIf P ops S o v a) (h : wpSch P ops Q S r (a.put o.dst v) w) : wpSch P ops Q S (.read i r) a w := ⟨o, v, h0, hy, h⟩
theorem wpOp_of {i : Nat} {o : Oper} {a : Act} {w : World} {K : Act → World → Prop} (h0 : ops[i]? = some o) (h : if Region.wanted o (yielded ops a.tmps) = true then o.wp P a w K Q else K (a.put o.dst undef) w) : wpOp P ops Q i K a w := by
  unfold wpOp
  simp only [h0]
  split
  · rename_i hw; rw [if_pos hw] at h; exact .inl h
  · rename_i hw; rw [if_neg hw] at h; exact h
theorem wpSch_do {i : Nat} {o : Oper} {r : Sch} {a : Act} {w : World} (h0 : ops[i]? = some o) (h : ∀ K : Act → World → Prop, (∀ a' w', S w' → wpSch P ops Q S r a' w' → K a' w') → if Region.wanted o (yielded ops a.tmps) = true then o.wp P a w K Q else K (a.put o.dst undef) w) : wpSch P ops Q S (.call i r) a w :=
  wpOp_of h0 (h _ fun _ _ h1 h2 => ⟨S, fun _ h => h, h1, h2⟩)
/-- behind the operation more is known to stay -/
theorem wpSch_more {i : Nat} {o : Oper} {r : Sch} {a : Act} {w : World} (h0 : ops[i]? = some o) (h : ∀ K : Act → World → Prop, (∀ a' w' (S' : World → Prop), (∀ W, S' W → S W) → S' w' → wpSch P ops Q S' r a' w' → K a' w') → if Region.wanted o (yielded ops a.tmps) = true then o.wp P a w K Q else K (a.put o.dst undef) w) : wpSch P ops Q S (.call i r) a w :=
  wpOp_of h0 (h _ fun _ _ S' h0 h1 h2 => ⟨S', h0, h1, h2⟩)
theorem wpSch_two {i j : Nat} {r s : Sch} {a : Act} {w : World} (h1 : wpSch P ops Q S (.call i r) a w) (h2 : wpSch P ops Q S (.call j s) a w) : wpSch P ops Q S (.two i r j s) a w := ⟨h1, h2⟩
theorem wpSch_done {a : Act} {w : World} (h : Q .normal a w) : wpSch P ops Q S .done a w := h
end
end Go.Proofs.YtifaaacbbjlffaaDoor
