/- The contract of the law's Val where it makes a list. -/
import Derived.Test.YtifaaacbbjlffaaDoorLawPick
namespace Go.Proofs.YtifaaacbbjlffaaDoor
open Go.RowKit Mor

/-- the list that is made, a value behind its box -/
structure ListAt (B vb : Nat) (wr : World) (l : List Pv) (v : Value) : Prop where
  blk : wr.heap[vb]? = some (valObj ⟨5, 0, ⟨#[]⟩, []⟩ v)
  row : wr.ownsRow B 41 4 v l.length (flatP l)
  nil : l.length = 0 → v = .slice none 0 0

theorem val_setL {w : World} {b : Nat} {V : Vl} {sl : Value} (h : w.heap[b]? = some (valObj V sl)) (v : Value) : (w.setCell ⟨b, 3, none⟩ v).heap[b]? = some (valObj V v) := heap_setCell_same _ h

set_option maxHeartbeats 4000000 in
theorem val_list (r : RawD) (sl : Value) (w : World) (h : RawOk w r sl) {pk : Int} (hpk : pk = 6) (hp : ∀ W, Calls Tryd.prog 24 #[.int .i64 r.k, .int .i64 7] W fun e w' => e = .returned (.int .i64 pk) ∧ W = w') :
    Calls Tryd.prog 15 #[.agg #[.int .i64 r.k, .int .i64 r.n, .string r.s, sl]] w (GivesV ⟨5, 0, ⟨#[]⟩, listOf r.l⟩ w) := by
  subst hpk
  have HPK := Lib.hid hp
  obtain ⟨hI, la, lc, hsl, hlen, hj⟩ := h.l
  subst hsl
  have HJ := Lib.hid hj
  have HI := Lib.hid hI
  have HP := Lib.hid (fun c W (hc : I64 c) => pick_any c 3 hc (by decide) (by decide) W)
  obtain ⟨i0, hi, hz0, hz1, hz2⟩ := info_parts info_val
  have HW : Hid (Below w.heap.size w (((w.alloc (.cells #[.int .i64 r.k, .int .i64 r.n, .string r.s, .slice la r.l.length lc] 25)).alloc zeroObj).alloc (valObj ⟨5, 0, ⟨#[]⟩, []⟩ (.slice none 0 0)))) := (((Below.refl w.heap.size w).alloc (Nat.le_refl _) _).alloc (by simp) _).alloc (by simp; omega) _
  clear hj h hp hI
  go_enter Tryd.func15, Tryd.ntmps15
  go_wp2_with fail
  refine (HPK.out _).mono ?_
  rintro e w1 ⟨rfl, rfl⟩
  go_wp2_with fail
  go_loopw [4] (fun i wr => ∃ (k : Nat) (v : Value), k ≤ r.l.length ∧ k ≤ 3 ∧ i = .int .i64 k ∧ ListAt (w.heap.size + 3) (w.heap.size + 1 + 1) wr ((r.l.take k).map numP) v ∧ Below (w.heap.size + 2) (((w.alloc (.cells #[.int .i64 r.k, .int .i64 r.n, .string r.s, .slice la r.l.length lc] 25)).alloc zeroObj).alloc (valObj ⟨5, 0, ⟨#[]⟩, []⟩ (.slice none 0 0))) wr) (fun i _ => 3 - (intOf i).toNat)
  case atStart => exact ⟨0, .slice none 0 0, by omega, by omega, rfl, ⟨new_block _ _ _ (by simp), World.ownsRow_nil _ _ _ _, fun _ => rfl⟩, Below.refl _ _⟩
  case round =>
    obtain ⟨k, v, hk, hk3, rfl, hL, hB⟩ := hrel
    have hsz : w.heap.size + 3 ≤ wr.heap.size := by have := hB.size; simpa using this
    have rb : wr.heap[w.heap.size]? = some (.cells #[.int .i64 r.k, .int .i64 r.n, .string r.s, .slice la r.l.length lc] 25 (0, 0)) := (hB.block _ (by omega)).trans ((Below.heap_alloc _ _ _ (by simp; omega)).trans ((Below.heap_alloc _ _ _ (by simp)).trans (new_block w _ _ rfl)))
    have zb : wr.heap[w.heap.size + 1]? = some zeroObj := (hB.block _ (by omega)).trans ((Below.heap_alloc _ _ _ (by simp)).trans (new_block _ _ _ (by simp)))
    have r3 : wr.cell? ⟨w.heap.size, 3, none⟩ = some (.slice la r.l.length lc) := by simp [World.cell?, rb]
    obtain ⟨v0, v1, v2, v3⟩ := val_cells hL.blk
    have fv := val_free hL.blk 3
    have hvl : w.heap.size + 1 + 1 < wr.heap.size := by omega
    obtain ⟨va, vn, vc, rfl⟩ := ownsRow_slice hL.row
    have HBw : Hid (Below w.heap.size w wr) := HW.out.trans (hB.mono (by omega))
    have HLA := Lib.hid hL
    have HB := Lib.hid hB
    have ZB := Lib.hid zb
    clear hL hB rb zb
    by_cases h3 : k < 3
    · have i3 : (k : Int) < 3 := by omega
      by_cases hlt : k < r.l.length
      · have i1 : (0 : Int) ≤ (k : Int) := by omega
        have i2 : (k : Int) < (r.l.length : Int) := by omega
        obtain ⟨x, hx⟩ : ∃ x, r.l[k]? = some x := ⟨_, List.getElem?_eq_getElem hlt⟩
        obtain ⟨b, o, rfl, hc⟩ := HJ.out k x hx
        have hc1 : wr.cell? ⟨b, o + k, none⟩ = some (.int .i64 x) := by
          obtain ⟨o', ho, _⟩ := cells_of_cell hc
          rw [HBw.out.cell (p := ⟨b, o + k, none⟩) (lt_of_block ho)]; exact hc
        have HX := Lib.hid (show (r.l.take (k + 1)).map numP = (r.l.take k).map numP ++ [numP x] by
          rw [List.take_succ_eq_append_getElem hlt, List.map_append]
          rw [List.getElem?_eq_getElem hlt] at hx
          rw [Option.some.inj hx]; rfl)
        have PX := Lib.hid (fun W => HP.out x W (HI.out x (List.mem_of_getElem? hx)))
        have hln : ((r.l.take k).map numP).length = k := by simp; omega
        have HLN := Lib.hid hln
        have fin : ∀ v' w1, w1.ownsRow (w.heap.size + 3) 41 4 v' (k + 1) (flatP ((r.l.take k).map numP) ++ [.int .i64 1, .int .i64 (pickZ x 3), .string ⟨#[]⟩, .slice none 0 0]) → ∀ o', (wr.alloc o').drew.grownBy w1 (Value.ownBlock (.slice va vn vc)) → w1.cell? ⟨w.heap.size + 1 + 1, 3, none⟩ = some (.slice va vn vc) ∧ w1.frozen? ⟨w.heap.size + 1 + 1, 3, none⟩ = false ∧ ListAt (w.heap.size + 3) (w.heap.size + 1 + 1) (w1.setCell ⟨w.heap.size + 1 + 1, 3, none⟩ v') ((r.l.take (k + 1)).map numP) v' ∧ Below (w.heap.size + 2) (((w.alloc (.cells #[.int .i64 r.k, .int .i64 r.n, .string r.s, .slice (some ⟨b, o, none⟩) r.l.length lc] 25)).alloc zeroObj).alloc (valObj ⟨5, 0, ⟨#[]⟩, []⟩ (.slice none 0 0))) (w1.setCell ⟨w.heap.size + 1 + 1, 3, none⟩ v') := by
          intro v' w1 ho o' hgr
          have hrow := HLA.out.row
          have hown : ∀ j, Value.ownBlock (.slice va vn vc) = some j → w.heap.size + 3 ≤ j := fun j e => (hrow.lt j e).1
          have hvb : w1.heap[w.heap.size + 1 + 1]? = some (valObj ⟨5, 0, ⟨#[]⟩, []⟩ (.slice va vn vc)) := (hgr.block _ (by simp; omega) (fun e => by have := hown _ e.symm; omega)).trans ((Below.heap_alloc wr _ _ (by omega)).trans HLA.out.blk)
          refine ⟨(val_cells hvb).2.2.2, val_free hvb 3, ⟨val_setL hvb v', ?_, fun h => ?_⟩, ?_⟩
          · rw [HX.out, flatP_snoc, List.length_append, hln]
            exact ownsRow_setCell_below ho (a := ⟨w.heap.size + 1 + 1, 3, none⟩) (by show w.heap.size + 1 + 1 < w.heap.size + 3; omega) v'
          · rw [HX.out, List.length_append, hln] at h; simp at h
          · exact ((HB.out.alloc (by omega) o').drew.grown hgr (by simp; omega) (fun j e => by have := hown j e; omega)).setCell (by show w.heap.size + 2 ≤ w.heap.size + 1 + 1; omega) _
        have FIN := Lib.hid fin
        have ROW := Lib.hid (show wr.ownsRow (w.heap.size + 3) 41 4 (.slice va vn vc) k (flatP ((r.l.take k).map numP)) from by have := HLA.out.row; rwa [hln] at this)
        clear fin hx hc hln v0 v1 v2
        go_wp2_with fail
        go_region_law (first | (refine step_append_own rfl (.tmp 55) (.tmp 63) 39 rfl (w.heap.size + 3) 41 i0 (.agg #[.int .i64 0, .int .i64 0, .string ⟨#[]⟩, .slice none 0 0]) 4 56 Tryd.underlying39 hi hz0 hz1 hz2 rfl (by decide) _ _ _ (by simp [Act.eval]) (ROW.out.drew.alloc _) ⟨wr.heap.size, 0, none⟩ 1 1 [.int .i64 1, .int .i64 (pickZ x 3), .string ⟨#[]⟩, .slice none 0 0] (by simp [Act.eval]) rfl (cell_four_new _ _ _ _ _ _ _ (by simp)) (by intro u hu; simp at hu; rcases hu with rfl | rfl | rfl | rfl <;> rfl) (by unfold maxLen; omega) (by omega) (by simp; omega) ?_; intro v' w1 hown' hgrow; obtain ⟨xa, xn, xc, rfl⟩ := ownsRow_slice hown'; obtain ⟨g1, g2, g3, g4⟩ := FIN.out _ w1 hown' _ hgrow; have G3 := Lib.hid g3; have G4 := Lib.hid g4; clear g3 g4 hown' hgrow) | (go_simp; go_at_call 24; refine (PX.out _).mono ?_; rintro e w' ⟨rfl, rfl⟩))
        all_goals
          go_wp2_with fail
          go_roundw
          case rel => exact ⟨k + 1, _, by omega, by omega, by go_num, G3.out, G4.out⟩
          case measure => simp [intOf]; omega
      · have i2 : ¬ (k : Int) < (r.l.length : Int) := by omega
        have TK := Lib.hid (show (r.l.take k) = r.l.take 3 by rw [List.take_of_length_le (by omega), List.take_of_length_le (by omega)])
        have fz := zero_free ZB.out
        obtain ⟨y0, y1, y2, y3⟩ := zero_cells ZB.out
        go_wp2_with fail
        have q1 : ((((wr.setCell ⟨w.heap.size + 1, 0, none⟩ (.int .i64 5)).setCell ⟨w.heap.size + 1, 1, none⟩ (.int .i64 0)).setCell ⟨w.heap.size + 1, 2, none⟩ (.string ⟨#[]⟩)).setCell ⟨w.heap.size + 1, 3, none⟩ (.slice va vn vc)).heap[w.heap.size + 1]? = some (valObj ⟨5, 0, ⟨#[]⟩, []⟩ (.slice va vn vc)) := heap_setCell_same _ (heap_setCell_same _ (heap_setCell_same _ (heap_setCell_same _ ZB.out)))
        have q2 := ownsRow_setCell_below (ownsRow_setCell_below (ownsRow_setCell_below (ownsRow_setCell_below HLA.out.row (a := ⟨w.heap.size + 1, 0, none⟩) (by simp) (.int .i64 5)) (a := ⟨w.heap.size + 1, 1, none⟩) (by simp) (.int .i64 0)) (a := ⟨w.heap.size + 1, 2, none⟩) (by simp) (.string ⟨#[]⟩)) (a := ⟨w.heap.size + 1, 3, none⟩) (by simp) (.slice va vn vc)
        have q3 : Below w.heap.size w ((((wr.setCell ⟨w.heap.size + 1, 0, none⟩ (.int .i64 5)).setCell ⟨w.heap.size + 1, 1, none⟩ (.int .i64 0)).setCell ⟨w.heap.size + 1, 2, none⟩ (.string ⟨#[]⟩)).setCell ⟨w.heap.size + 1, 3, none⟩ (.slice va vn vc)) := (((HBw.out.setCell (by simp) _).setCell (by simp) _).setCell (by simp) _).setCell (by simp) _
        generalize ((((wr.setCell ⟨w.heap.size + 1, 0, none⟩ (.int .i64 5)).setCell ⟨w.heap.size + 1, 1, none⟩ (.int .i64 0)).setCell ⟨w.heap.size + 1, 2, none⟩ (.string ⟨#[]⟩)).setCell ⟨w.heap.size + 1, 3, none⟩ (.slice va vn vc)) = Wf at *
        obtain ⟨z0, z1, z2, z3⟩ := val_cells q1
        have G : Hid (GivesV ⟨5, 0, ⟨#[]⟩, listOf r.l⟩ w (.returned (.agg #[.int .i64 5, .int .i64 0, .string ⟨#[]⟩, .slice va vn vc])) Wf) := by
          refine ⟨_, rfl, ⟨_, rfl, ?_⟩, q3⟩
          have hh := TK.out
          have hn := HLA.out.nil
          rw [hh] at q2 hn
          show IsLx Wf _ ((r.l.take 3).map numP)
          exact isLx_own rfl (by simp; omega) q2 hn
        clear q1 q2 q3 v0 v1 v2 v3 y0 y1 y2 y3 fv fz
        exact bodyPost_ret (v := .agg #[.int .i64 5, .int .i64 0, .string ⟨#[]⟩, .slice va vn vc]) (by simp [results, Tryd.results15, go_sem, z0, z1, z2, z3]) rfl G.out
    · have i3 : ¬ (k : Int) < 3 := by omega
      have i4 : (k : Int) < (r.l.length : Int) ∨ ¬ (k : Int) < (r.l.length : Int) := by omega
      rcases i4 with i4 | i4
      all_goals
        have TK := Lib.hid (show (r.l.take k) = r.l.take 3 by rw [show k = 3 by omega])
        have fz := zero_free ZB.out
        obtain ⟨y0, y1, y2, y3⟩ := zero_cells ZB.out
        go_wp2_with fail
        have q1 : ((((wr.setCell ⟨w.heap.size + 1, 0, none⟩ (.int .i64 5)).setCell ⟨w.heap.size + 1, 1, none⟩ (.int .i64 0)).setCell ⟨w.heap.size + 1, 2, none⟩ (.string ⟨#[]⟩)).setCell ⟨w.heap.size + 1, 3, none⟩ (.slice va vn vc)).heap[w.heap.size + 1]? = some (valObj ⟨5, 0, ⟨#[]⟩, []⟩ (.slice va vn vc)) := heap_setCell_same _ (heap_setCell_same _ (heap_setCell_same _ (heap_setCell_same _ ZB.out)))
        have q2 := ownsRow_setCell_below (ownsRow_setCell_below (ownsRow_setCell_below (ownsRow_setCell_below HLA.out.row (a := ⟨w.heap.size + 1, 0, none⟩) (by simp) (.int .i64 5)) (a := ⟨w.heap.size + 1, 1, none⟩) (by simp) (.int .i64 0)) (a := ⟨w.heap.size + 1, 2, none⟩) (by simp) (.string ⟨#[]⟩)) (a := ⟨w.heap.size + 1, 3, none⟩) (by simp) (.slice va vn vc)
        have q3 : Below w.heap.size w ((((wr.setCell ⟨w.heap.size + 1, 0, none⟩ (.int .i64 5)).setCell ⟨w.heap.size + 1, 1, none⟩ (.int .i64 0)).setCell ⟨w.heap.size + 1, 2, none⟩ (.string ⟨#[]⟩)).setCell ⟨w.heap.size + 1, 3, none⟩ (.slice va vn vc)) := (((HBw.out.setCell (by simp) _).setCell (by simp) _).setCell (by simp) _).setCell (by simp) _
        generalize ((((wr.setCell ⟨w.heap.size + 1, 0, none⟩ (.int .i64 5)).setCell ⟨w.heap.size + 1, 1, none⟩ (.int .i64 0)).setCell ⟨w.heap.size + 1, 2, none⟩ (.string ⟨#[]⟩)).setCell ⟨w.heap.size + 1, 3, none⟩ (.slice va vn vc)) = Wf at *
        obtain ⟨z0, z1, z2, z3⟩ := val_cells q1
        have G : Hid (GivesV ⟨5, 0, ⟨#[]⟩, listOf r.l⟩ w (.returned (.agg #[.int .i64 5, .int .i64 0, .string ⟨#[]⟩, .slice va vn vc])) Wf) := by
          refine ⟨_, rfl, ⟨_, rfl, ?_⟩, q3⟩
          have hh := TK.out
          have hn := HLA.out.nil
          rw [hh] at q2 hn
          show IsLx Wf _ ((r.l.take 3).map numP)
          exact isLx_own rfl (by simp; omega) q2 hn
        clear q1 q2 q3 v0 v1 v2 v3 y0 y1 y2 y3 fv fz
        exact bodyPost_ret (v := .agg #[.int .i64 5, .int .i64 0, .string ⟨#[]⟩, .slice va vn vc]) (by simp [results, Tryd.results15, go_sem, z0, z1, z2, z3]) rfl G.out
end Go.Proofs.YtifaaacbbjlffaaDoor
