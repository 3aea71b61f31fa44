/- A region that draws its order, walked by a schedule: what reads only what stays is taken as soon as it may come up; what else there is comes one by one, as it must. -/
import Derived.Test.YtifaaacbbjlffaaDoorTake
import Derived.OrdersHeld
namespace Go.Proofs.YtifaaacbbjlffaaDoor
open Go.RowKit

section
variable {P : Program} {ops : Array Oper} {Q : Exit → Act → World → Prop} {S : World → Prop}

def schedB (ops : Array Oper) : List (Nat × Bool) → Array Bool → Bool
  | [], listed => (Region.ready .any ops listed).isEmpty
  | (i, true) :: r, listed => (Region.ready .any ops listed).contains i && Region.free .any ops listed i && schedB ops r (listed.setIfInBounds i true)
  | (i, false) :: r, listed => decide (Region.ready .any ops listed = [i]) && schedB ops r (listed.setIfInBounds i true)
def schedOk (ops : Array Oper) (s : List (Nat × Bool)) : Bool := Region.noSelect ops && decide (s.length = ops.size) && schedB ops s (Array.replicate ops.size false)

def wpSched (P : Program) (ops : Array Oper) (Q : Exit → Act → World → Prop) (S : World → Prop) : List (Nat × Bool) → Act → World → Prop
  | [], a, w => Q .normal a w
  | (i, true) :: r, a, w => ∃ o v, ops[i]? = some o ∧ YieldsIf P ops S o v a ∧ wpSched P ops Q S r (a.put o.dst v) w
  | (i, false) :: r, a, w => wpOp P ops Q i (fun a' w' => S w' ∧ wpSched P ops Q S r a' w') a w

theorem put_any (hQ : ∀ t v c a w, Q (.panic c) (a.put (some t) v) w → Q (.panic c) a w) (d : Option Tmp) (v : Value) (c : List PanicEntry) (a : Act) (w : World) (h : Q (.panic c) (a.put d v) w) : Q (.panic c) a w := by
  cases d with
  | none => exact h
  | some t => exact hQ t v c a w h
theorem wpAnyH_sched (hsel : Region.noSelect ops = true) (hQ' : ∀ t v c a w, Q (.panic c) (a.put (some t) v) w → Q (.panic c) a w) : ∀ (s : List (Nat × Bool)) (listed : Array Bool) (a : Act) (w : World), schedB ops s listed = true → S w → wpSched P ops Q S s a w → wpAnyH P .any ops Q S s.length listed a w
  | [], listed, a, w, hB, _, h => wpAnyH_done (by simpa [schedB] using hB) h _
  | (i, true) :: r, listed, a, w, hB, hS, h => by
    simp only [schedB, Bool.and_eq_true] at hB
    obtain ⟨o, v, ho, hy, h'⟩ := h
    exact wpAnyH_take ho hsel hB.1.2 hB.1.1 (fun c a w => put_any hQ' _ _ c a w) hy hS (wpAnyH_sched hsel hQ' r _ _ _ hB.2 hS h')
  | (i, false) :: r, listed, a, w, hB, _, h => by
    simp only [schedB, Bool.and_eq_true, decide_eq_true_eq] at hB
    refine wpAnyH_all hB.1 (by simp) fun j hj => ?_
    obtain rfl : j = i := by simpa using hj
    exact wpOp_mono (fun a' w' h' => ⟨h'.1, wpAnyH_sched hsel hQ' r _ _ _ hB.2 h'.1 h'.2⟩) h

theorem wp_sched {id : Nat} {a : Act} {w : World} (S : World → Prop) (s : List (Nat × Bool)) (hm : P.follows .mixedOrders = true) (hB : schedOk ops s = true)
    (hQ : ∀ t v c a w, Q (.panic c) (a.put (some t) v) w → Q (.panic c) a w) (hS : S w.drew) (h : wpSched P ops Q S s a w.drew) : (Code.region id ops true).wp P Q a w := by
  simp only [schedOk, Bool.and_eq_true, decide_eq_true_eq] at hB
  refine wp_region_held (S := S) hm ?_
  have := wpAnyH_sched hB.1.1 hQ s _ a w.drew hB.2 hS h
  rw [hB.1.2] at this
  exact this

theorem wpSched_read {i : Nat} {o : Oper} {r : List (Nat × Bool)} {a : Act} {w : World} {v : Value} (h0 : ops[i]? = some o) (hy : YieldsIf P ops S o v a) (h : wpSched P ops Q S r (a.put o.dst v) w) : wpSched P ops Q S ((i, true) :: r) a w := ⟨o, v, h0, hy, h⟩
theorem wpSched_do {i : Nat} {o : Oper} {r : List (Nat × Bool)} {a : Act} {w : World} (h0 : ops[i]? = some o) (h : ∀ K : Act → World → Prop, (∀ a' w', S w' → wpSched P ops Q S r a' w' → K a' w') → if Region.wanted o (yielded ops a.tmps) = true then o.wp P a w K Q else K (a.put o.dst undef) w) : wpSched P ops Q S ((i, false) :: r) a w := by
  show wpOp P ops Q i _ a w
  unfold wpOp
  simp only [h0]
  have := h (fun a' w' => S w' ∧ wpSched P ops Q S r a' w') (fun a' w' h1 h2 => ⟨h1, h2⟩)
  split
  · rename_i hw; rw [if_pos hw] at this; exact .inl this
  · rename_i hw; rw [if_neg hw] at this; exact this
theorem wpSched_done {a : Act} {w : World} (h : Q .normal a w) : wpSched P ops Q S [] a w := h
end
end Go.Proofs.YtifaaacbbjlffaaDoor
