/- The contract of index.copied. -/
import Derived.Test.YtifaaacbbjlffaaDoorTreeWalk
namespace Go.Proofs.YtifaaacbbjlffaaDoor
open Go.RowKit Mor

/-- the cells of values without lists -/
def flatP (l : List Pv) : List Value := l.flatMap fun p => [.int .i64 p.k, .int .i64 p.n, .string p.s, .slice none 0 0]
theorem flatP_len (l : List Pv) : (flatP l).length = l.length * 4 := by
  induction l with
  | nil => rfl
  | cons p l ih => simp only [flatP, List.flatMap_cons, List.length_append, List.length_cons, List.length_nil] at *; omega
theorem flatP_snoc (l : List Pv) (p : Pv) : flatP (l ++ [p]) = flatP l ++ [.int .i64 p.k, .int .i64 p.n, .string p.s, .slice none 0 0] := by simp [flatP]
theorem flatP_at : ∀ (l : List Pv) (i : Nat) (p : Pv), l[i]? = some p → (flatP l)[i * 4]? = some (.int .i64 p.k) ∧ (flatP l)[i * 4 + 1]? = some (.int .i64 p.n) ∧ (flatP l)[i * 4 + 2]? = some (.string p.s) ∧ (flatP l)[i * 4 + 3]? = some (.slice none 0 0)
  | [], i, p, h => by simp at h
  | q :: l, 0, p, h => by
    simp only [List.getElem?_cons_zero, Option.some.injEq] at h
    subst h
    simp [flatP]
  | q :: l, i + 1, p, h => by
    have ih := flatP_at l i p (by simpa using h)
    have e : flatP (q :: l) = [.int .i64 q.k, .int .i64 q.n, .string q.s, .slice none 0 0] ++ flatP l := by simp [flatP]
    rw [e]
    have sh : ∀ m, ([.int .i64 q.k, .int .i64 q.n, .string q.s, .slice none 0 0] ++ flatP l)[m + 4]? = (flatP l)[m]? := fun m => by rw [List.getElem?_append_right (by simp)]; simp
    rw [show (i + 1) * 4 = i * 4 + 4 by omega, show i * 4 + 4 + 1 = i * 4 + 1 + 4 by omega, show i * 4 + 4 + 2 = i * 4 + 2 + 4 by omega, show i * 4 + 4 + 3 = i * 4 + 3 + 4 by omega, sh, sh, sh, sh]
    exact ih

/-- a list of values in a block of its own type -/
abbrev IsLx (w : World) (sl : Value) (l : List Pv) : Prop := IsLt w sl l
/-- a row of one's own is such a list -/
theorem isLx_own {w : World} {base : Nat} {sl : Value} {l : List Pv} {n : Nat} (hn : l.length = n) (hl : l.length < 1000000) (h : w.ownsRow base 41 4 sl n (flatP l)) (hnil : n = 0 → sl = .slice none 0 0) : IsLx w sl l := by
  subst hn
  have hx := h
  rcases h.2 with ⟨rfl, h0⟩ | ⟨g, cap, cur, rfl, hg, hh, hr⟩
  · exact ⟨.inl ⟨List.eq_nil_of_length_eq_zero h0, rfl⟩, fun a n c e => by cases e⟩
  · refine ⟨?_, fun a n c e => by cases e; exact ⟨_, _, hh⟩⟩
    by_cases hne : l = []
    · subst hne
      exact .inl ⟨rfl, hnil rfl⟩
    · refine .inr ⟨hne, hl, g, 0, cap, rfl, fun i p hp => ?_⟩
      have hi : i < l.length := (List.getElem?_eq_some_iff.1 hp).1
      obtain ⟨e0, e1, e2, e3⟩ := flatP_at l i p hp
      have q : ∀ j, j < 4 → w.cell? ⟨g, i * 4 + j, none⟩ = (flatP l)[i * 4 + j]? := fun j hj => by
        have := hx.cellAt (i * 4 + j) (by omega)
        simpa using this
      refine ⟨?_, ?_, ?_, ?_⟩
      · rw [Nat.zero_add]; exact (q 0 (by omega)).trans e0
      · rw [Nat.zero_add]; exact (q 1 (by omega)).trans e1
      · rw [Nat.zero_add]; exact (q 2 (by omega)).trans e2
      · rw [Nat.zero_add]; exact (q 3 (by omega)).trans e3
theorem info_val : (Tryd.prog.info? 41).map (fun i => (i.zero, i.size, i.bytes)) = some (some (.agg #[.int .i64 0, .int .i64 0, .string ⟨#[]⟩, .slice none 0 0]), 4, 56) := by kernel_rfl

theorem cell_four_new (W : World) (t : TypeId) (a b c d : Value) (n : Nat) (hn : n = W.heap.size) : ∀ (j : Nat) (u : Value), [a, b, c, d][j]? = some u → (W.alloc (.cells #[a, b, c, d] t)).cell? ((⟨n, 0, none⟩ : Addr).add j) = some u := by
  subst hn
  intro j u hj
  rw [addr_add, Nat.zero_add, World.cell?_alloc_new]
  simpa using hj

/-- a value's block -/
def valObj (V : Vl) (sl : Value) : Obj := .cells #[.int .i64 V.k, .int .i64 V.n, .string V.s, sl] 41 (0, 0)
theorem val_cells {w : World} {b : Nat} {V : Vl} {sl : Value} (h : w.heap[b]? = some (valObj V sl)) : w.cell? ⟨b, 0, none⟩ = some (.int .i64 V.k) ∧ w.cell? ⟨b, 1, none⟩ = some (.int .i64 V.n) ∧ w.cell? ⟨b, 2, none⟩ = some (.string V.s) ∧ w.cell? ⟨b, 3, none⟩ = some sl := by
  unfold valObj at h
  simp [World.cell?, h]
theorem val_free {w : World} {b : Nat} {V : Vl} {sl : Value} (h : w.heap[b]? = some (valObj V sl)) (o : Nat) : w.frozen? ⟨b, o, none⟩ = false := by
  unfold valObj at h
  simp [World.frozen?, h]
def zeroObj : Obj := .cells #[.int .i64 0, .int .i64 0, .string ⟨#[]⟩, .slice none 0 0] 41 (0, 0)
theorem zero_cells {w : World} {b : Nat} (h : w.heap[b]? = some zeroObj) : w.cell? ⟨b, 0, none⟩ = some (.int .i64 0) ∧ w.cell? ⟨b, 1, none⟩ = some (.int .i64 0) ∧ w.cell? ⟨b, 2, none⟩ = some (.string ⟨#[]⟩) ∧ w.cell? ⟨b, 3, none⟩ = some (.slice none 0 0) := by
  unfold zeroObj at h
  simp [World.cell?, h]
theorem zero_free {w : World} {b : Nat} (h : w.heap[b]? = some zeroObj) (o : Nat) : w.frozen? ⟨b, o, none⟩ = false := by
  unfold zeroObj at h
  simp [World.frozen?, h]

/-- a value that was copied -/
def Copied (V : Vl) (w : World) (e : Ending) (w' : World) : Prop := ∃ sl, e = .returned (.agg #[.int .i64 V.k, .int .i64 V.n, .string V.s, sl]) ∧ IsLx w' sl V.l ∧ Below w.heap.size w w'

set_option maxHeartbeats 1000000 in
theorem copied_any (V : Vl) (sl : Value) (w : World) (hl : IsL w sl V.l) : Calls Tryd.prog 40 #[.agg #[.int .i64 V.k, .int .i64 V.n, .string V.s, sl]] w (Copied V w) := by
  obtain ⟨i0, hi, hz0, hz1, hz2⟩ := info_parts info_val
  have hlen : ∃ a c, sl = .slice a V.l.length c := by
    rcases hl with ⟨h, rfl⟩ | ⟨_, h2, b, o, c, rfl, h4⟩
    · exact ⟨none, 0, by rw [h]; rfl⟩
    · exact ⟨_, _, rfl⟩
  have hbig : V.l.length < 1000000 := by
    rcases hl with ⟨h, rfl⟩ | ⟨_, h2, _⟩
    · rw [h]; decide
    · exact h2
  obtain ⟨la, lc, rfl⟩ := hlen
  have HL := Lib.hid hl
  clear hl
  go_enter Tryd.func40, Tryd.ntmps40
  go_wp2_with fail
  go_loopw [3, 9] (fun v i wr => ∃ k : Nat, k ≤ V.l.length ∧ i = .int .i64 k ∧ wr.ownsRow (w.heap.size + 2) 41 4 v k (flatP (V.l.take k)) ∧ Hid (k = 0 → v = .slice none 0 0) ∧ Below (w.heap.size + 2) ((w.alloc (valObj V (.slice la V.l.length lc))).alloc zeroObj) wr) (fun _ i _ => V.l.length - (intOf i).toNat)
  case atStart => exact ⟨0, by omega, rfl, World.ownsRow_nil _ _ _ _, fun _ => rfl, Below.refl _ _⟩
  case round =>
    obtain ⟨k, hk, rfl, hrow, HNIL, hB⟩ := hrel
    have hBw : Below w.heap.size w wr := (((Below.refl _ w).alloc (Nat.le_refl _) _).alloc (by simp) _).trans (hB.mono (by omega))
    have HB := Lib.hid hB
    have HBw := Lib.hid hBw
    have hsz : w.heap.size + 2 ≤ wr.heap.size := by have := hB.size; simpa using this
    have vb : wr.heap[w.heap.size]? = some (valObj V (.slice la V.l.length lc)) := (hB.block _ (by omega)).trans ((Below.heap_alloc _ _ _ (by simp)).trans (new_block w _ _ rfl))
    have zb : wr.heap[w.heap.size + 1]? = some zeroObj := (hB.block _ (by omega)).trans (new_block _ _ _ (by simp))
    obtain ⟨v0, v1, v2, v3⟩ := val_cells vb
    have fv := val_free vb
    have fz := zero_free zb
    obtain ⟨y0, y1, y2, y3⟩ := zero_cells zb
    have VB := Lib.hid vb
    have ZB := Lib.hid zb
    have HROW := Lib.hid hrow
    clear hB hBw vb zb
    by_cases hlt : k < V.l.length
    · obtain ⟨p, hp⟩ : ∃ p, V.l[k]? = some p := ⟨_, List.getElem?_eq_getElem hlt⟩
      have HX := Lib.hid (show flatP (V.l.take (k + 1)) = flatP (V.l.take k) ++ [.int .i64 p.k, .int .i64 p.n, .string p.s, .slice none 0 0] by
        rw [List.take_succ_eq_append_getElem hlt, ← flatP_snoc]
        rw [List.getElem?_eq_getElem hlt] at hp
        rw [Option.some.inj hp])
      have hat := HL.out
      rcases hat with ⟨h, _⟩ | ⟨_, _, b, o, c, hs, h4⟩
      · rw [h] at hlt; simp at hlt
      · obtain ⟨rfl, rfl⟩ : la = some ⟨b, o, none⟩ ∧ lc = c := by cases hs; exact ⟨rfl, rfl⟩
        have f0 := (h4 k p hp).below HBw.out
        have f1 := f0.k
        have f2 := f0.n
        have f3 := f0.s
        have f4 := f0.l
        have i1 : (0 : Int) ≤ (k : Int) := by omega
        have i2 : (k : Int) < (V.l.length : Int) := by omega
        clear hp hs h4 f0 hrow v0 v1 v2 v3 y0 y1 y2 y3
        go_wp2_with (at_builtin; refine wpList_append_own _ rfl _ _ 39 rfl (w.heap.size + 2) 41 i0 (.agg #[.int .i64 0, .int .i64 0, .string ⟨#[]⟩, .slice none 0 0]) 4 56 Tryd.underlying39 hi hz0 hz1 hz2 rfl (by decide) _ _ _ rfl ((HROW.out.alloc _).alloc _) ⟨wr.heap.size + 1, 0, none⟩ 1 1 [.int .i64 p.k, .int .i64 p.n, .string p.s, .slice none 0 0] rfl rfl ?c1 ?c2 ?c3 ?c4 ?c5 ?_)
        case c1 => exact cell_four_new _ _ _ _ _ _ _ (by simp)
        case c2 => intro u hu; simp at hu; rcases hu with rfl | rfl | rfl | rfl <;> rfl
        case c3 => unfold maxLen; omega
        case c4 => omega
        case c5 => simp; omega
        intro v' w1 hown' hgrow _
        have HB1 : Hid (Below (w.heap.size + 2) ((w.alloc (valObj V (.slice (some ⟨b, o, none⟩) V.l.length lc))).alloc zeroObj) w1) := ((HB.out.alloc (by omega) _).alloc (by simp; omega) _).grown hgrow (by simp; omega) (fun j e => (HROW.out.lt j e).1)
        have HO := Lib.hid hown'
        have HN' : Hid (k + 1 = 0 → v' = .slice none 0 0) := fun h => by omega
        clear hown' hgrow
        go_wp2
        go_roundw
        case rel => exact ⟨k + 1, by omega, by go_num, by rw [HX.out]; exact HO.out, HN'.out, HB1.out⟩
        case measure => simp [intOf]; omega
    · have hke : k = V.l.length := by omega
      have HK := Lib.hid (show V.l.take k = V.l by rw [hke]; simp)
      have KE := Lib.hid hke
      clear hke
      obtain ⟨va, vn, vc, rfl⟩ := ownsRow_slice hrow
      clear hrow
      go_wp2_with fail
      have q0 : (wr.setCell ⟨w.heap.size, 3, none⟩ (.slice va vn vc)).heap[w.heap.size + 1]? = some zeroObj := (Below.heap_setCell wr ⟨w.heap.size, 3, none⟩ _ _ (by simp)).trans ZB.out
      have q1 : (((((wr.setCell ⟨w.heap.size, 3, none⟩ (.slice va vn vc)).setCell ⟨w.heap.size + 1, 0, none⟩ (.int .i64 V.k)).setCell ⟨w.heap.size + 1, 1, none⟩ (.int .i64 V.n)).setCell ⟨w.heap.size + 1, 2, none⟩ (.string V.s)).setCell ⟨w.heap.size + 1, 3, none⟩ (.slice va vn vc)).heap[w.heap.size + 1]? = some (valObj V (.slice va vn vc)) := heap_setCell_same _ (heap_setCell_same _ (heap_setCell_same _ (heap_setCell_same _ q0)))
      have q2 : (((((wr.setCell ⟨w.heap.size, 3, none⟩ (.slice va vn vc)).setCell ⟨w.heap.size + 1, 0, none⟩ (.int .i64 V.k)).setCell ⟨w.heap.size + 1, 1, none⟩ (.int .i64 V.n)).setCell ⟨w.heap.size + 1, 2, none⟩ (.string V.s)).setCell ⟨w.heap.size + 1, 3, none⟩ (.slice va vn vc)).ownsRow (w.heap.size + 2) 41 4 (.slice va vn vc) k (flatP (V.l.take k)) := ownsRow_setCell_below (ownsRow_setCell_below (ownsRow_setCell_below (ownsRow_setCell_below (ownsRow_setCell_below HROW.out (by simp) _) (by simp) _) (by simp) _) (by simp) _) (by simp) _
      have q3 : Below w.heap.size w (((((wr.setCell ⟨w.heap.size, 3, none⟩ (.slice va vn vc)).setCell ⟨w.heap.size + 1, 0, none⟩ (.int .i64 V.k)).setCell ⟨w.heap.size + 1, 1, none⟩ (.int .i64 V.n)).setCell ⟨w.heap.size + 1, 2, none⟩ (.string V.s)).setCell ⟨w.heap.size + 1, 3, none⟩ (.slice va vn vc)) := ((((HBw.out.setCell (by simp) _).setCell (by simp) _).setCell (by simp) _).setCell (by simp) _).setCell (by simp) _
      generalize (((((wr.setCell ⟨w.heap.size, 3, none⟩ (.slice va vn vc)).setCell ⟨w.heap.size + 1, 0, none⟩ (.int .i64 V.k)).setCell ⟨w.heap.size + 1, 1, none⟩ (.int .i64 V.n)).setCell ⟨w.heap.size + 1, 2, none⟩ (.string V.s)).setCell ⟨w.heap.size + 1, 3, none⟩ (.slice va vn vc)) = Wf at *
      obtain ⟨z0, z1, z2, z3⟩ := val_cells q1
      have G : Hid (Copied V w (.returned (.agg #[.int .i64 V.k, .int .i64 V.n, .string V.s, .slice va vn vc])) Wf) := by
        refine ⟨_, rfl, ?_, q3⟩
        have hh := HK.out
        rw [hh] at q2
        exact isLx_own KE.out.symm (by omega) q2 HNIL.out
      clear q0 q1 q2 q3 v0 v1 v2 v3 y0 y1 y2 y3 fv fz
      exact bodyPost_ret (v := .agg #[.int .i64 V.k, .int .i64 V.n, .string V.s, .slice va vn vc]) (by simp [results, Tryd.results40, go_sem, z0, z1, z2, z3]) rfl G.out
end Go.Proofs.YtifaaacbbjlffaaDoor
