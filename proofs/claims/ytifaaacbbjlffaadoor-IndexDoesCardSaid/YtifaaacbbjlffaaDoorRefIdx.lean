/- The reference's index in memory; the contracts of its order and place. -/
import Derived.Test.YtifaaacbbjlffaaDoorRefCompare
import Derived.Test.YtifaaacbbjlffaaDoorPlacePlain
import Derived.Test.YtifaaacbbjlffaaDoorRow
import Derived.Test.YtifaaacbbjlffaaDoorSch
import Derived.Test.YtifaaacbbjlffaaDoorIdxPut
namespace Go.Proofs.YtifaaacbbjlffaaDoor
open Go.RowKit Mor

/-- pairs, each with its value's list as the program holds it, cell by cell -/
def cellsR (m : Pr × Value) : List Value := [.int .i64 m.1.1.k, .int .i64 m.1.1.n, .string m.1.1.s, m.2, .int .i64 m.1.2]
def flatR (M : List (Pr × Value)) : List Value := M.flatMap cellsR
theorem flatR_len (M : List (Pr × Value)) : (flatR M).length = M.length * 5 := by
  induction M with
  | nil => rfl
  | cons p l ih => simp only [flatR, cellsR, List.flatMap_cons, List.length_append, List.length_cons, List.length_nil] at *; omega
theorem flatR_app (M N : List (Pr × Value)) : flatR (M ++ N) = flatR M ++ flatR N := by simp [flatR]
theorem flatR_take : ∀ (M : List (Pr × Value)) (k : Nat), (flatR M).take (k * 5) = flatR (M.take k)
  | [], k => by simp [flatR]
  | m :: M, 0 => by simp [flatR]
  | m :: M, k + 1 => by
    have ih := flatR_take M k
    rw [List.take_succ_cons, show flatR (m :: M) = cellsR m ++ flatR M by simp [flatR], show flatR (m :: M.take k) = cellsR m ++ flatR (M.take k) by simp [flatR], ← ih,
      List.take_append, show (cellsR m).take ((k + 1) * 5) = cellsR m from List.take_of_length_le (by simp [cellsR]; omega), show (k + 1) * 5 - (cellsR m).length = k * 5 by simp [cellsR]; omega]
theorem flatR_drop : ∀ (M : List (Pr × Value)) (k : Nat), (flatR M).drop (k * 5) = flatR (M.drop k)
  | [], k => by simp [flatR]
  | m :: M, 0 => by simp
  | m :: M, k + 1 => by
    have ih := flatR_drop M k
    rw [List.drop_succ_cons, show flatR (m :: M) = cellsR m ++ flatR M by simp [flatR], ← ih,
      List.drop_append, show (cellsR m).drop ((k + 1) * 5) = [] from List.drop_eq_nil_of_le (by simp [cellsR]; omega), show (k + 1) * 5 - (cellsR m).length = k * 5 by simp [cellsR]; omega, List.nil_append]
theorem flatR_at (M : List (Pr × Value)) (i : Nat) (m : Pr × Value) (h : M[i]? = some m) (j : Nat) (x : Value) (hj : (cellsR m)[j]? = some x) : (flatR M)[i * 5 + j]? = some x := by
  obtain ⟨hi, rfl⟩ := List.getElem?_eq_some_iff.1 h
  have hjl : j < 5 := by have := (List.getElem?_eq_some_iff.1 hj).1; simpa [cellsR] using this
  have e : (flatR M).drop (i * 5) = cellsR M[i] ++ flatR (M.drop (i + 1)) := by
    rw [flatR_drop, List.drop_eq_getElem_cons hi]; exact List.flatMap_cons
  rw [← List.getElem?_drop, e, List.getElem?_append_left (by simpa [cellsR] using hjl)]
  exact hj

/-- all lists of these pairs are what they should be -/
def IsM (w : World) (M : List (Pr × Value)) : Prop := ∀ m ∈ M, IsLt w m.2 m.1.1.l
theorem IsM.below {w w' : World} {M : List (Pr × Value)} (h : IsM w M) (hb : Below w.heap.size w w') : IsM w' M := fun m hm => (h m hm).below hb
theorem IsM.one {w : World} {M : List (Pr × Value)} (h : IsM w M) : ∀ x ∈ flatR M, x.oneCell' = true := by
  intro x hx
  obtain ⟨m, hm, hx⟩ := List.mem_flatMap.1 hx
  obtain ⟨a, n, c, e⟩ := (h m hm).1.slice
  simp only [cellsR, List.mem_cons, List.not_mem_nil, or_false] at hx
  rcases hx with rfl | rfl | rfl | rfl | rfl
  · rfl
  · rfl
  · rfl
  · rw [e]; rfl
  · rfl
theorem elemR : Elem Tryd.prog 30 71 5 64 := elem_of (z := .agg #[.int .i64 0, .int .i64 0, .string ⟨#[]⟩, .slice none 0 0, .int .i64 0]) Tryd.underlying30 (by kernel_rfl) (by kernel_rfl) (by decide) (by decide)

def refObj (v : Value) : Obj := .cells #[v] 32 (0, 0)
theorem ref_cell {w : World} {b : Nat} {v : Value} (h : w.heap[b]? = some (refObj v)) : w.cell? ⟨b, 0, none⟩ = some v := by
  unfold refObj at h
  simp [World.cell?, h]
theorem ref_free {w : World} {b : Nat} {v : Value} (h : w.heap[b]? = some (refObj v)) (o : Nat) : w.frozen? ⟨b, o, none⟩ = false := by
  unfold refObj at h
  simp [World.frozen?, h]

/-- the reference's pairs, a slice of them -/
structure IsP (w : World) (v : Value) (M : List (Pr × Value)) : Prop where
  row : Row w 71 5 v M.length (flatR M)
  m : IsM w M
  small : M.length < 100000
theorem IsP.below {w w' : World} {v : Value} {M : List (Pr × Value)} (h : IsP w v M) (hb : Below w.heap.size w w') : IsP w' v M := ⟨h.row.below hb, h.m.below hb, h.small⟩
/-- the reference's index in memory -/
def IsR (w : World) (rb : Nat) (L : List Pr) : Prop := ∃ v M, w.heap[rb]? = some (refObj v) ∧ IsP w v M ∧ M.map Prod.fst = L
theorem IsR.below {w w' : World} {rb : Nat} {L : List Pr} (h : IsR w rb L) (hb : Below w.heap.size w w') : IsR w' rb L := by
  obtain ⟨v, M, h1, h2, h3⟩ := h
  exact ⟨v, M, (hb.block _ (lt_of_some h1)).trans h1, h2.below hb, h3⟩

/-- the cells of one pair -/
structure PairAt (w : World) (b o : Nat) (p : Pr) (sl : Value) : Prop where
  k : w.cell? ⟨b, o, none⟩ = some (.int .i64 p.1.k)
  n : w.cell? ⟨b, o + 1, none⟩ = some (.int .i64 p.1.n)
  s : w.cell? ⟨b, o + 1 + 1, none⟩ = some (.string p.1.s)
  l : w.cell? ⟨b, o + 1 + 1 + 1, none⟩ = some sl
  i : w.cell? ⟨b, o + 4, none⟩ = some (.int .i64 p.2)
theorem IsP.at {w : World} {a : Option Addr} {n c : Nat} {M : List (Pr × Value)} (h : IsP w (.slice a n c) M) {i : Nat} {m : Pr × Value} (hi : M[i]? = some m) : ∃ b o, a = some ⟨b, o, none⟩ ∧ b < w.heap.size ∧ PairAt w b (o + i * 5) m.1 m.2 := by
  obtain ⟨b, o, e, hb, hc⟩ := h.row.at (List.getElem?_eq_some_iff.1 hi).1
  exact ⟨b, o, e, hb, hc 0 _ (flatR_at M i m hi 0 _ rfl), hc 1 _ (flatR_at M i m hi 1 _ rfl), hc 2 _ (flatR_at M i m hi 2 _ rfl), hc 3 _ (flatR_at M i m hi 3 _ rfl), hc 4 _ (flatR_at M i m hi 4 _ rfl)⟩
theorem PairAt.below {B : Nat} {w w' : World} {b o : Nat} {p : Pr} {sl : Value} (h : PairAt w b o p sl) (hB : Below B w w') (hb : b < B) : PairAt w' b o p sl :=
  ⟨(hB.cell (p := ⟨b, o, none⟩) hb).trans h.k, (hB.cell (p := ⟨b, o + 1, none⟩) hb).trans h.n, (hB.cell (p := ⟨b, o + 1 + 1, none⟩) hb).trans h.s, (hB.cell (p := ⟨b, o + 1 + 1 + 1, none⟩) hb).trans h.l, (hB.cell (p := ⟨b, o + 4, none⟩) hb).trans h.i⟩

set_option maxHeartbeats 1000000 in
theorem refOrd_any (p : Pr) (sl : Value) (V : Vl) (v : Value) (i : Int) (w : World) (hl : IsLt w sl p.1.l) (hv : IsV w v V) :
    Calls Tryd.prog 56 #[.agg #[.int .i64 p.1.k, .int .i64 p.1.n, .string p.1.s, sl, .int .i64 p.2], v, .int .i64 i] w fun e w' => e = .returned (.int .i64 (ordP p (V, i))) ∧ Below w.heap.size w w' := by
  have HB := Lib.hid (fun (o o' : Obj) => ((Below.refl w.heap.size w).alloc (Nat.le_refl _) o).alloc (by simp) o')
  have HC := Lib.hid (fun W (hW : Below w.heap.size w W) => refCompare_any p.1 V (.agg #[.int .i64 p.1.k, .int .i64 p.1.n, .string p.1.s, sl]) v W ⟨_, rfl, hl.1.below hW⟩ (hv.below hW))
  obtain ⟨la, ln, lc, rfl⟩ := hl.1.slice
  obtain ⟨sv, rfl, hsv⟩ := hv
  obtain ⟨va, vn, vc, rfl⟩ := hsv.slice
  clear hl hsv
  have he : ordP p (V, i) = if cmpV p.1 V ≠ 0 then cmpV p.1 V else ordI p.2 i := rfl
  rw [he]
  clear he
  generalize cmpV p.1 V = c at *
  obtain ⟨⟨pk, pn, ps, pl⟩, pi⟩ := p
  simp only at *
  by_cases h0 : c = 0
  · have hcb : (c != 0) = false := by rw [h0]; rfl
    rw [if_neg (by simpa using h0)]
    clear h0
    by_cases h1 : pi < i
    · have H := Lib.hid (show ordI pi i = -1 by simp [ordI, h1])
      rw [H.out]
      go_enter Tryd.func56, Tryd.ntmps56
      go_wp2_with fail
      refine (HC.out _ (HB.out _ _)).mono ?_
      rintro e w1 ⟨rfl, b1⟩
      obtain ⟨hc, _⟩ := bcell b1
      have B1 := Lib.hid ((HB.out _ _).trans (b1.mono (by simp; omega)))
      clear b1
      go_wp2_with fail
      go_ret
      exact ⟨rfl, B1.out⟩
    · by_cases h2 : i < pi
      · have H := Lib.hid (show ordI pi i = 1 by simp [ordI, h1, h2])
        rw [H.out]
        go_enter Tryd.func56, Tryd.ntmps56
        go_wp2_with fail
        refine (HC.out _ (HB.out _ _)).mono ?_
        rintro e w1 ⟨rfl, b1⟩
        obtain ⟨hc, _⟩ := bcell b1
        have B1 := Lib.hid ((HB.out _ _).trans (b1.mono (by simp; omega)))
        clear b1
        go_wp2_with fail
        go_ret
        exact ⟨rfl, B1.out⟩
      · have H := Lib.hid (show ordI pi i = 0 by simp [ordI, h1, h2])
        rw [H.out]
        go_enter Tryd.func56, Tryd.ntmps56
        go_wp2_with fail
        refine (HC.out _ (HB.out _ _)).mono ?_
        rintro e w1 ⟨rfl, b1⟩
        obtain ⟨hc, _⟩ := bcell b1
        have B1 := Lib.hid ((HB.out _ _).trans (b1.mono (by simp; omega)))
        clear b1
        go_wp2_with fail
        go_ret
        exact ⟨rfl, B1.out⟩
  · have hcb : (c != 0) = true := by rw [bne_iff_ne]; exact h0
    rw [if_pos h0]
    clear h0
    go_enter Tryd.func56, Tryd.ntmps56
    go_wp2_with fail
    refine (HC.out _ (HB.out _ _)).mono ?_
    rintro e w1 ⟨rfl, b1⟩
    have B1 := Lib.hid ((HB.out _ _).trans (b1.mono (by simp; omega)))
    clear b1
    go_wp2_with fail
    go_ret
    exact ⟨rfl, B1.out⟩
end Go.Proofs.YtifaaacbbjlffaaDoor
