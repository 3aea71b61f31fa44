/- An index in memory; the contracts of New, Len, right, Put. -/
import Derived.Test.YtifaaacbbjlffaaDoorIdxCopied
import Derived.Test.YtifaaacbbjlffaaDoorTreeDrop
import Derived.Test.YtifaaacbbjlffaaDoorValRightAny
namespace Mor
def idOk (i : Int) : Bool := decide (1 ≤ i ∧ i ≤ 100000)
def okB (V : Vl) (i : Int) : Bool := rightV V && idOk i
end Mor
namespace Go.Proofs.YtifaaacbbjlffaaDoor
open Go.RowKit Mor

def idxObj (p : Option Nat) (n : Int) : Obj := .cells #[.pointer (pa p), .int .i64 n] 59 (0, 0)
theorem idx_cells {w : World} {b : Nat} {p : Option Nat} {n : Int} (h : w.heap[b]? = some (idxObj p n)) : w.cell? ⟨b, 0, none⟩ = some (.pointer (pa p)) ∧ w.cell? ⟨b, 1, none⟩ = some (.int .i64 n) := by
  unfold idxObj at h
  simp [World.cell?, h]
theorem idx_free {w : World} {b : Nat} {p : Option Nat} {n : Int} (h : w.heap[b]? = some (idxObj p n)) (o : Nat) : w.frozen? ⟨b, o, none⟩ = false := by
  unfold idxObj at h
  simp [World.frozen?, h]
theorem idx_setP {w : World} {b : Nat} {p : Option Nat} {n : Int} (h : w.heap[b]? = some (idxObj p n)) (q : Option Nat) : (w.setCell ⟨b, 0, none⟩ (.pointer (pa q))).heap[b]? = some (idxObj q n) := heap_setCell_same _ h
theorem idx_setN {w : World} {b : Nat} {p : Option Nat} {n : Int} (h : w.heap[b]? = some (idxObj p n)) (m : Int) : (w.setCell ⟨b, 1, none⟩ (.int .i64 m)).heap[b]? = some (idxObj p m) := heap_setCell_same _ h

/-- an index in memory, all of it from block base on, that holds these pairs -/
def IsX (base : Nat) (w : World) (xb : Nat) (L : List Pr) : Prop := ∃ t p S, w.heap[xb]? = some (idxObj p L.length) ∧ IsT w t p S ∧ t.toL = L ∧ Sorted L ∧ base ≤ xb ∧ ∀ x, S x → base ≤ x
theorem IsX.below {base xb : Nat} {w w' : World} {L : List Pr} (h : IsX base w xb L) (hb : Below w.heap.size w w') : IsX base w' xb L := by
  obtain ⟨t, p, S, h1, h2, h3⟩ := h
  exact ⟨t, p, S, (hb.block _ (lt_of_block h1)).trans h1, h2.below hb, h3⟩

/-- a block of an index -/
def Mine (w : World) (k : Nat) : Prop := (∃ arr fr, w.heap[k]? = some (.cells arr 68 fr)) ∨ ∃ arr fr, w.heap[k]? = some (.cells arr 59 fr)
/-- only blocks of indexes, from base on, may have changed -/
structure Fx (base : Nat) (w w' : World) : Prop where
  os : w'.os = w.os
  tape : w'.tape = w.tape
  output : w'.output = w.output
  size : w.heap.size ≤ w'.heap.size
  block : ∀ k, k < w.heap.size → (k < base ∨ ¬ Mine w k) → w'.heap[k]? = w.heap[k]?
theorem Mine.congr {w w' : World} {k : Nat} (e : w'.heap[k]? = w.heap[k]?) : Mine w' k ↔ Mine w k := by unfold Mine; rw [e]
theorem Fx.of_below {base : Nat} {w w' : World} (h : Below w.heap.size w w') : Fx base w w' := ⟨h.os, h.tape, h.output, h.size, fun k hk _ => h.block k hk⟩
theorem Fx.trans {base : Nat} {a b c : World} (h : Fx base a b) (k : Fx base b c) : Fx base a c :=
  ⟨k.os.trans h.os, k.tape.trans h.tape, k.output.trans h.output, Nat.le_trans h.size k.size, fun i hi hm => by
    have e := h.block i hi hm
    exact (k.block i (Nat.lt_of_lt_of_le hi h.size) (hm.imp_right fun hn hm' => hn ((Mine.congr e).1 hm'))).trans e⟩
theorem Fx.below {base B : Nat} {w w' : World} (h : Fx base w w') (hB : B ≤ base) (hb : B ≤ w.heap.size) : Below B w w' := ⟨h.os, h.tape, h.output, h.size, fun k hk => h.block k (by omega) (.inl (by omega))⟩
theorem Fx.drew {base : Nat} {a w : World} (h : Fx base a w) : Fx base a w.drew := ⟨h.os, h.tape, h.output, h.size, h.block⟩
theorem Fx.refl (base : Nat) (w : World) : Fx base w w := ⟨rfl, rfl, rfl, Nat.le_refl _, fun _ _ _ => rfl⟩
theorem Fx.of_fr {base : Nat} {S : Nat → Prop} {w w' : World} (h : Fr S w w') (hS : ∀ x, S x → base ≤ x) : Fx base w w' :=
  ⟨h.os, h.tape, h.output, h.size, fun k hk hm => h.block k hk fun hs => by
    rcases hm with hm | hm
    · have := hS k hs; omega
    · exact hm (.inl (h.node k hs hk))⟩
theorem Fx.set {base xb : Nat} {w : World} {p : Option Nat} {n : Int} (hx : w.heap[xb]? = some (idxObj p n)) (hb : base ≤ xb) (o : Nat) (v : Value) : Fx base w (w.setCell ⟨xb, o, none⟩ v) :=
  ⟨rfl, rfl, rfl, by simp [World.setCell], fun k _ hm => Below.heap_setCell _ _ _ _ fun e => by
    have e' : k = xb := e
    subst e'
    rcases hm with hm | hm
    · omega
    · exact hm (.inr ⟨_, _, hx⟩)⟩
theorem Fx.vals {base : Nat} {w w' : World} (hf : Fx base w w') : ∀ (k : Nat) (arr : Array Value) (fr : Nat × Nat), w.heap[k]? = some (.cells arr 41 fr) → w'.heap[k]? = w.heap[k]? := fun k arr fr h1 => by
  refine hf.block _ (lt_of_block h1) (.inr ?_)
  rintro (⟨arr', fr', h2⟩ | ⟨arr', fr', h2⟩)
  · have := Option.some.inj (h1.symm.trans h2)
    injection this with _ e2; exact absurd e2 (by decide)
  · have := Option.some.inj (h1.symm.trans h2)
    injection this with _ e2; exact absurd e2 (by decide)
theorem IsLt.fx {base : Nat} {w w' : World} {sl : Value} {l : List Pv} (h : IsLt w sl l) (hf : Fx base w w') : IsLt w' sl l := h.keep hf.vals

theorem new_any (w : World) : Calls Tryd.prog 10 #[] w fun e w' => e = .returned (.pointer (some ⟨w.heap.size, 0, none⟩)) ∧ IsX w.heap.size w' w.heap.size [] ∧ Below w.heap.size w w' := by
  go_enter Tryd.func10, Tryd.ntmps10
  go_wp2_with fail
  go_ret
  refine ⟨rfl, ⟨.nil, none, fun _ => False, new_block w (idxObj none 0) _ rfl, ⟨rfl, fun _ h => h⟩, rfl, List.Pairwise.nil, Nat.le_refl _, fun _ h => h.elim⟩, (Below.refl _ w).alloc (Nat.le_refl _) _⟩
theorem len_any {base xb : Nat} {L : List Pr} (w : World) (h : IsX base w xb L) : Calls Tryd.prog 12 #[.pointer (some ⟨xb, 0, none⟩)] w fun e w' => e = .returned (.int .i64 L.length) ∧ w = w' := by
  obtain ⟨t, p, S, h1, _⟩ := h
  obtain ⟨c0, c1⟩ := idx_cells h1
  clear h1
  go_enter Tryd.func12, Tryd.ntmps12
  go_wp2_with fail
  go_ret
  exact ⟨rfl, rfl⟩
theorem len_none (w : World) : Calls Tryd.prog 12 #[.pointer none] w fun e w' => e = .returned (.int .i64 0) ∧ w = w' := by
  go_enter Tryd.func12, Tryd.ntmps12
  go_wp2_with fail
  go_ret
  exact ⟨rfl, rfl⟩

set_option maxHeartbeats 400000 in
theorem rightX_any (V : Vl) (v : Value) (i : Int) (w : World) (hT : Tabs w) (hz : SzV V) (hv : IsV w v V) : Calls Tryd.prog 38 #[v, .int .i64 i] w fun e w' => e = .returned (.bool (okB V i)) ∧ Below w.heap.size w w' := by
  have HB := Lib.hid (fun (o : Obj) => (Below.refl w.heap.size w).alloc (Nat.le_refl _) o)
  have HR := Lib.hid (fun W (hW : Below w.heap.size w W) => right_any V v W (hT.below hW) hz (hv.below hW))
  obtain ⟨sl, rfl, hl⟩ := hv
  obtain ⟨la, ll, lc, rfl⟩ := hl.slice
  clear hl hz hT
  unfold okB
  generalize rightV V = r at *
  cases r
  · rw [Bool.false_and]
    go_enter Tryd.func38, Tryd.ntmps38
    go_wp2_with fail
    refine (HR.out _ (HB.out _)).mono ?_
    rintro e w1 ⟨rfl, b1⟩
    have B1 := Lib.hid ((HB.out _).trans (b1.mono (by simp)))
    clear b1
    go_wp2_with fail
    go_ret
    exact ⟨by simp, B1.out⟩
  · rw [Bool.true_and]
    by_cases h1 : 1 ≤ i
    · by_cases h2 : i ≤ 100000
      · have E := Lib.hid (show idOk i = true by simp [idOk, h1, h2])
        rw [E.out]
        go_enter Tryd.func38, Tryd.ntmps38
        go_wp2_with fail
        refine (HR.out _ (HB.out _)).mono ?_
        rintro e w1 ⟨rfl, b1⟩
        have B1 := Lib.hid ((HB.out _).trans (b1.mono (by simp)))
        clear b1
        go_wp2_with fail
        go_ret
        exact ⟨by simp, B1.out⟩
      · have E := Lib.hid (show idOk i = false by simp [idOk, h2])
        rw [E.out]
        go_enter Tryd.func38, Tryd.ntmps38
        go_wp2_with fail
        refine (HR.out _ (HB.out _)).mono ?_
        rintro e w1 ⟨rfl, b1⟩
        have B1 := Lib.hid ((HB.out _).trans (b1.mono (by simp)))
        clear b1
        go_wp2_with fail
        go_ret
        exact ⟨by simp; omega, B1.out⟩
    · have E := Lib.hid (show idOk i = false by simp [idOk, h1])
      rw [E.out]
      go_enter Tryd.func38, Tryd.ntmps38
      go_wp2_with fail
      refine (HR.out _ (HB.out _)).mono ?_
      rintro e w1 ⟨rfl, b1⟩
      have B1 := Lib.hid ((HB.out _).trans (b1.mono (by simp)))
      clear b1
      go_wp2_with fail
      go_ret
      exact ⟨by simp, B1.out⟩
end Go.Proofs.YtifaaacbbjlffaaDoor
