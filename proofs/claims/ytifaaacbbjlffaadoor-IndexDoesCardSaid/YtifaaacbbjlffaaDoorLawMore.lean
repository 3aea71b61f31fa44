/- What the walks of the index laws share. -/
import Derived.Test.YtifaaacbbjlffaaDoorLawMade
namespace Mor
theorem mem_addP {L : List Pr} {p q : Pr} : q ∈ addP L p ↔ q = p ∨ q ∈ L := by
  unfold addP; split
  · rename_i h
    have := has_iff.1 h
    constructor
    · exact .inr
    · rintro (rfl | h); exact this; exact h
  · exact mem_ins
theorem sorted_addP {L : List Pr} (h : Sorted L) (p : Pr) : Sorted (addP L p) := by
  unfold addP; split
  · exact h
  · rename_i hh; exact sorted_ins h fun hm => hh (has_iff.2 hm)
theorem foldl_addP : ∀ (ps : List Pr) (L : List Pr), Sorted L → Sorted (ps.foldl addP L) ∧ ∀ q, q ∈ ps.foldl addP L ↔ q ∈ L ∨ q ∈ ps
  | [], L, h => ⟨h, fun q => by simp⟩
  | p :: ps, L, h => by
    obtain ⟨h1, h2⟩ := foldl_addP ps (addP L p) (sorted_addP h p)
    refine ⟨h1, fun q => ?_⟩
    rw [List.foldl_cons, h2, mem_addP, List.mem_cons]
    constructor
    · rintro ((h | h) | h) <;> simp [h]
    · rintro (h | h | h) <;> simp [h]
theorem sorted_madeL (ps : List Pr) : Sorted (madeL ps) := (foldl_addP ps [] List.Pairwise.nil).1
theorem mem_madeL {ps : List Pr} {q : Pr} : q ∈ madeL ps ↔ q ∈ ps := by rw [madeL, (foldl_addP ps [] List.Pairwise.nil).2]; simp
theorem madeL_back (cs : List CallD) : madeL (pairsOf cs true) = madeL (pairsOf cs false) := sorted_ext (sorted_madeL _) (sorted_madeL _) fun q => by
  rw [mem_madeL, mem_madeL]
  simp [pairsOf]
theorem made_forty (cs : List CallD) : (madeL (pairsOf cs false)).length ≤ 40 := by
  have h1 := madeL_len (pairsOf cs false)
  have h2 : (pairsOf cs false).length ≤ 40 := by simp [pairsOf]; omega
  omega
end Mor
namespace Go.Proofs.YtifaaacbbjlffaaDoor
open Go.RowKit Mor

theorem CallAt.below {w w' : World} {b o : Nat} {c : CallD} {sv sw : Value} (h : CallAt w b o c sv sw) (hB : Below w.heap.size w w') : CallAt w' b o c sv sw := by
  have hb : b < w.heap.size := by obtain ⟨o', ho, _⟩ := cells_of_cell h.k; exact lt_of_block ho
  have q : ∀ o, w'.cell? ⟨b, o, none⟩ = w.cell? ⟨b, o, none⟩ := fun o => hB.cell (p := ⟨b, o, none⟩) hb
  exact ⟨(q _).trans h.k, (q _).trans h.v0, (q _).trans h.v1, (q _).trans h.v2, (q _).trans h.v3, (q _).trans h.w0, (q _).trans h.w1, (q _).trans h.w2, (q _).trans h.w3, (q _).trans h.id, h.rv.below hB, h.rw.below hB, h.ri, h.rk⟩
theorem IsC.below {w w' : World} {v : Value} {cs : List CallD} (h : IsC w v cs) (hB : Below w.heap.size w w') : IsC w' v cs := by
  obtain ⟨a, cp, h1, h2, h3⟩ := h
  refine ⟨a, cp, h1, h2, fun i c hc => ?_⟩
  obtain ⟨b, o, sv, sw, e, hC⟩ := h3 i c hc
  exact ⟨b, o, sv, sw, e, hC.below hB⟩
theorem RawOk.slice {w : World} {r : RawD} {sl : Value} (h : RawOk w r sl) : ∃ a n c, sl = .slice a n c := by obtain ⟨_, a, c, h, _⟩ := h.l; exact ⟨_, _, _, h⟩
/-- raw numbers in a box -/
def rawObj (r : RawD) (sl : Value) : Obj := .cells #[.int .i64 r.k, .int .i64 r.n, .string r.s, sl] 25 (0, 0)
theorem raw_cells {w : World} {b : Nat} {r : RawD} {sl : Value} (h : w.heap[b]? = some (rawObj r sl)) : w.cell? ⟨b, 0, none⟩ = some (.int .i64 r.k) ∧ w.cell? ⟨b, 1, none⟩ = some (.int .i64 r.n) ∧ w.cell? ⟨b, 2, none⟩ = some (.string r.s) ∧ w.cell? ⟨b, 3, none⟩ = some sl := by
  unfold rawObj at h
  simp [World.cell?, h]
theorem same_true {l : List Int} {u v : Value} {w : World} (hl : IsI w u l) (hr : IsI w v l) : Calls Tryd.prog 13 #[u, v] w fun e w' => e = .returned (.bool true) ∧ Below w.heap.size w w' :=
  (sameInts_any l l u v w hl hr).mono fun _ _ h => by simpa using h

theorem id_still (c : Int) (hc : I64 c) (w : World) : Calls Tryd.prog 22 #[.int .i64 c] w fun e w' => e = .returned (.int .i64 (1 + pickZ c 9)) ∧ w' = w :=
  (id_any c hc w).mono fun _ _ ⟨h1, h2⟩ => ⟨h1, h2.symm⟩
end Go.Proofs.YtifaaacbbjlffaaDoor
