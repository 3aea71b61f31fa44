/- The contract of moraineref15.SameInts. -/
import Derived.Test.YtifaaacbbjlffaaDoorLawVal
import Derived.Test.YtifaaacbbjlffaaDoorSched
namespace Go.Proofs.YtifaaacbbjlffaaDoor
open Go.RowKit Mor

theorem IsI.len {w : World} {v : Value} {l : List Int} (h : IsI w v l) : ∃ a c, v = .slice a l.length c := by
  obtain ⟨a, c, h1, _⟩ := h
  exact ⟨a, c, h1⟩

set_option maxHeartbeats 1000000 in
theorem sameInts_any (l r : List Int) (u v : Value) (w : World) (hl : IsI w u l) (hr : IsI w v r) : Calls Tryd.prog 13 #[u, v] w fun e w' => e = .returned (.bool (decide (l = r))) ∧ Below w.heap.size w w' := by
  obtain ⟨la, lc, rfl, l2, l3, l4, l5, l6⟩ := hl
  obtain ⟨ra, rc, rfl, r2, r3, r4, r5, r6⟩ := hr
  have HL := Lib.hid l6
  have HR := Lib.hid r6
  clear l3 l4 l5 l6 r3 r4 r5 r6
  by_cases hn : l.length = r.length
  · have e1 : ((l.length : Int) != (r.length : Int)) = false := by rw [hn]; simp
    go_enter Tryd.func13, Tryd.ntmps13
    have HN := Lib.hid hn
    clear hn
    go_wp2_with fail
    go_loopw [5] (fun i wr => ∃ k : Nat, k ≤ l.length ∧ i = .int .i64 k ∧ Hid (l.take k = r.take k) ∧ Below w.heap.size w wr) (fun i _ => l.length - (intOf i).toNat)
    case atStart => exact ⟨0, by omega, rfl, rfl, Below.refl _ _⟩
    case round =>
      obtain ⟨k, hk, rfl, HE, hB⟩ := hrel
      have HBw := Lib.hid hB
      by_cases hlt : k < l.length
      · have hltr : k < r.length := by have := HN.out; omega
        obtain ⟨x, hx⟩ : ∃ x, l[k]? = some x := ⟨_, List.getElem?_eq_getElem hlt⟩
        obtain ⟨y, hy⟩ : ∃ y, r[k]? = some y := ⟨_, List.getElem?_eq_getElem hltr⟩
        obtain ⟨⟨b, o, rfl, hc⟩, _⟩ := HL.out k x hx
        obtain ⟨⟨b', o', rfl, hc'⟩, _⟩ := HR.out k y hy
        have c1 : wr.cell? ⟨b, o + k, none⟩ = some (.int .i64 x) := by
          obtain ⟨q, hq, _⟩ := cells_of_cell hc
          rw [hB.cell (p := ⟨b, o + k, none⟩) (lt_of_block hq)]; exact hc
        have c2 : wr.cell? ⟨b', o' + k, none⟩ = some (.int .i64 y) := by
          obtain ⟨q, hq, _⟩ := cells_of_cell hc'
          rw [hB.cell (p := ⟨b', o' + k, none⟩) (lt_of_block hq)]; exact hc'
        have i1 : (0 : Int) ≤ (k : Int) := by omega
        have i2 : (k : Int) < (l.length : Int) := by omega
        have i3 : (k : Int) < (r.length : Int) := by omega
        have T1 := Lib.hid (show l.take (k + 1) = l.take k ++ [x] by
          rw [List.take_succ_eq_append_getElem hlt]
          rw [List.getElem?_eq_getElem hlt] at hx
          rw [Option.some.inj hx])
        have T2 := Lib.hid (show r.take (k + 1) = r.take k ++ [y] by
          rw [List.take_succ_eq_append_getElem hltr]
          rw [List.getElem?_eq_getElem hltr] at hy
          rw [Option.some.inj hy])
        have HX := Lib.hid hx
        have HY := Lib.hid hy
        clear hx hy hc hc' hB
        by_cases hxy : x = y
        · have e2 : (x != y) = false := by rw [hxy]; simp
          have HXY := Lib.hid hxy
          clear hxy
          go_wp2_with fail
          refine wp_still (by kernel_rfl) (by kernel_rfl) ?_
          repeat still_step
          refine wpStill_nil ?_
          go_wp2_with fail
          go_roundw
          case rel => exact ⟨k + 1, by omega, by go_num, by show _ = _; rw [T1.out, T2.out, HE.out, HXY.out], HBw.out.drew⟩
          case measure => simp [intOf]; omega
        · have e2 : (x != y) = true := by rw [bne_iff_ne]; exact hxy
          have D := Lib.hid (show decide (l = r) = false from decide_eq_false fun e => hxy (by
            have h1 := HX.out
            have h2 := HY.out
            rw [e, h2] at h1
            exact (Option.some.inj h1).symm))
          clear hxy
          go_wp2_with fail
          refine wp_still (by kernel_rfl) (by kernel_rfl) ?_
          repeat still_step
          refine wpStill_nil ?_
          go_wp2_with fail
          go_ret
          rw [D.out]
          exact ⟨rfl, HBw.out.drew⟩
      · have i2 : ¬ (k : Int) < (l.length : Int) := by omega
        have D := Lib.hid (show decide (l = r) = true from decide_eq_true (by
          have h := HE.out
          have := HN.out
          rw [List.take_of_length_le (by omega), List.take_of_length_le (by omega)] at h
          exact h))
        clear hB
        go_wp2_with fail
        go_ret
        rw [D.out]
        exact ⟨rfl, HBw.out⟩
  · have e1 : ((l.length : Int) != (r.length : Int)) = true := by rw [bne_iff_ne]; omega
    have D := Lib.hid (show decide (l = r) = false from decide_eq_false fun e => hn (by rw [e]))
    rw [D.out]
    clear hn
    go_enter Tryd.func13, Tryd.ntmps13
    go_wp2_with fail
    go_ret
    exact ⟨rfl, Below.refl _ _⟩
end Go.Proofs.YtifaaacbbjlffaaDoor
