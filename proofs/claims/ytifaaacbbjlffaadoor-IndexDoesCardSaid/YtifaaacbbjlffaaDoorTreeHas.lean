/- The contract of has: whether a pair is in the tree. -/
import Derived.Test.YtifaaacbbjlffaaDoorTreePut
import Derived.Deep.LoopGhost
namespace Go.Proofs.YtifaaacbbjlffaaDoor
open Go.RowKit Mor

set_option maxHeartbeats 1000000 in
theorem has_T {w : World} {xb : Nat} {t : Tr} {p : Option Nat} {S : Nat → Prop} {V : Vl} {i' : Int} {sl' : Value} (hx : w.cell? ⟨xb, 0, none⟩ = some (.pointer (pa p))) (hT : IsT w t p S) (hL : IsL w sl' V.l) :
    Calls Tryd.prog 39 #[.pointer (some ⟨xb, 0, none⟩), prV V sl' i'] w fun e w' => e = .returned (.bool (t.has (V, i'))) ∧ Below w.heap.size w w' := by
  obtain ⟨la, ll, lc, rfl⟩ := hL.slice
  have hlt : xb < w.heap.size := by obtain ⟨o, ho, _⟩ := cells_of_cell hx; exact lt_of_block ho
  have HL := Lib.hid hL
  have HT := Lib.hid hT
  clear hT hL
  unfold prV
  go_enter Tryd.func39, Tryd.ntmps39
  go_wp2_with fail
  go_loopg [5] t.n (fun g s5 wr => ∃ t' p' S', g = t'.n ∧ s5 = .pointer (pa p') ∧ IsT wr t' p' S' ∧ Hid (t.has (V, i') = t'.has (V, i')) ∧ Below (w.heap.size + 1) (w.alloc (pairObj V (.slice la ll lc) i')) wr)
  case atStart => exact ⟨t, p, S, rfl, rfl, HT.out.below ((Below.refl _ w).alloc (Nat.le_refl _) _), rfl, Below.refl _ _⟩
  case round =>
    obtain ⟨t', p', S', hg, rfl, hT', HE, hB⟩ := hrel
    have HG := Lib.hid hg
    clear hg
    have hBw : Below w.heap.size w wr := ((Below.refl _ w).alloc (Nat.le_refl _) _).trans (hB.mono (by omega))
    have HBw := Lib.hid hBw
    have HB := Lib.hid hB
    have pb : wr.heap[w.heap.size]? = some (pairObj V (.slice la ll lc) i') := (hB.block _ (by omega)).trans (new_block w _ _ rfl)
    have pbl : w.heap.size < wr.heap.size := lt_of_block pb
    obtain ⟨d0, d1, d2, d3, d4⟩ := pair_cells pb
    clear hB hBw
    cases t' with
    | nil =>
      obtain ⟨rfl, _⟩ := hT'
      rw [show pa none = none from rfl]
      go_wp2_with fail
      go_ret
      rw [HE.out]
      exact ⟨rfl, HBw.out⟩
    | node l v i r =>
      obtain ⟨b, lp, rp, sl, Sl, Sr, rfl, hn, hS⟩ := Node.of_T hT'
      obtain ⟨ra, rl, rc, rfl⟩ := hn.lst.1.slice
      rw [show pa (some b) = some ⟨b, 0, none⟩ from rfl]
      obtain ⟨h0, hN⟩ := hn.obj
      obtain ⟨⟨c0, c1, c2, c3, c4⟩, c5, c6, c7⟩ := node_cells hN
      have HN := Lib.hid hn
      have HN0 := Lib.hid hN
      clear hn hN hT' hS
      have hO := Lib.hid (order_any v V _ _ i i' wr.drew (HN.out.lst.1.below (Below.refl _ wr).drew) (HL.out.below (HBw.out.drew)))
      unfold prV at hO
      go_wp2_with fail
      refine wp_still_tail 5 (by kernel_rfl) (by kernel_rfl) ?_
      simp only [List.take_succ_cons, List.take_zero, List.drop_succ_cons, List.drop_zero]
      repeat still_step
      refine wpStill_nil ?_
      by_cases q0 : ordP (v, i) (V, i') = 0
      · have qz : (ordP (v, i) (V, i') == 0) = true := by rw [q0]; rfl
        have HEQ := Lib.hid (HE.out.trans (show (Tr.node l v i r).has (V, i') = true by rw [Tr.has, if_pos q0]))
        clear q0
        go_wp2_with fail
        refine hO.out.mono ?_
        rintro e w1 ⟨rfl, b1⟩
        have B1 := Lib.hid (show Below w.heap.size w w1 from HBw.out.drew.trans (b1.mono (Nat.le_of_lt pbl)))
        clear b1
        go_wp2_with fail
        go_ret
        rw [HEQ.out]
        exact ⟨rfl, B1.out⟩
      · have qz : (ordP (v, i) (V, i') == 0) = false := beq_eq_false_iff_ne.2 q0
        by_cases q1 : 0 < ordP (v, i) (V, i')
        · have HEQ := Lib.hid (HE.out.trans (show (Tr.node l v i r).has (V, i') = l.has (V, i') by rw [Tr.has, if_neg q0, if_pos q1]))
          clear q0
          go_wp2_with fail
          refine hO.out.mono ?_
          rintro e w1 ⟨rfl, b1⟩
          have nb1 : w1.heap[b]? = _ := (b1.block b (lt_of_block HN0.out)).trans HN0.out
          have T1 := Lib.hid ((HN.out.lt.below (Below.refl _ wr).drew).below b1)
          have B1 := Lib.hid (show Below (w.heap.size + 1) (w.alloc (pairObj V (.slice la ll lc) i')) w1 from HB.out.drew.trans (b1.mono (by show _ ≤ wr.heap.size; omega)))
          clear b1 c0 c1 c2 c3 c4 c5 c6 c7 d0 d1 d2 d3 d4
          obtain ⟨⟨c0, c1, c2, c3, c4⟩, c5, c6, c7⟩ := node_cells nb1
          clear nb1
          go_wp2_with fail
          go_roundg l.n
          case measure => rw [HG.out, Tr.n]; omega
          case rel => exact ⟨l, lp, Sl, rfl, rfl, T1.out, HEQ.out, B1.out⟩
        · have HEQ := Lib.hid (HE.out.trans (show (Tr.node l v i r).has (V, i') = r.has (V, i') by rw [Tr.has, if_neg q0, if_neg q1]))
          clear q0
          go_wp2_with fail
          refine hO.out.mono ?_
          rintro e w1 ⟨rfl, b1⟩
          have nb1 : w1.heap[b]? = _ := (b1.block b (lt_of_block HN0.out)).trans HN0.out
          have T1 := Lib.hid ((HN.out.rt.below (Below.refl _ wr).drew).below b1)
          have B1 := Lib.hid (show Below (w.heap.size + 1) (w.alloc (pairObj V (.slice la ll lc) i')) w1 from HB.out.drew.trans (b1.mono (by show _ ≤ wr.heap.size; omega)))
          clear b1 c0 c1 c2 c3 c4 c5 c6 c7 d0 d1 d2 d3 d4
          obtain ⟨⟨c0, c1, c2, c3, c4⟩, c5, c6, c7⟩ := node_cells nb1
          clear nb1
          go_wp2_with fail
          go_roundg r.n
          case measure => rw [HG.out, Tr.n]; omega
          case rel => exact ⟨r, rp, Sr, rfl, rfl, T1.out, HEQ.out, B1.out⟩
end Go.Proofs.YtifaaacbbjlffaaDoor
