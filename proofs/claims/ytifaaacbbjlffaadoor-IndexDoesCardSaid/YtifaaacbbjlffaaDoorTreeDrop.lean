/- The contract of drop. -/
import Derived.Test.YtifaaacbbjlffaaDoorTreeHas
namespace Go.Proofs.YtifaaacbbjlffaaDoor
open Go.RowKit Mor

set_option maxHeartbeats 1000000 in
theorem drop_left {w : World} {b : Nat} {lp rp : Option Nat} {sl sl' : Value} {l r : Tr} {v V : Vl} {i i' : Int} {Sl Sr : Nat → Prop} (hn : Node w b lp rp sl l v i r Sl Sr) (sz : l.n + r.n < 800) (hL : IsLt w sl' V.l) (ho : 0 < ordP (v, i) (V, i')) (hsz : (Tr.drop l (V, i')).n ≤ l.n)
    (ih : ∀ W, IsT W l lp Sl → IsLt W sl' V.l → Calls Tryd.prog 42 #[.pointer (pa lp), prV V sl' i'] W (GivesNew (Tr.drop l (V, i')) Sl W)) :
    Calls Tryd.prog 42 #[.pointer (some ⟨b, 0, none⟩), prV V sl' i'] w (GivesNew (Tr.bal (Tr.drop l (V, i')) v i r) (fun x => x = b ∨ Sl x ∨ Sr x) w) := by
  obtain ⟨la, ll, lc, rfl⟩ := hL.1.slice
  obtain ⟨ra, rl, rc, rfl⟩ := hn.lst.1.slice
  have HB := Lib.hid hn.blocks
  have HN := Lib.hid hn
  have HL := Lib.hid hL
  have IH := Lib.hid ih
  have hn2 := hn
  obtain ⟨h0, hN⟩ := hn.obj
  obtain ⟨⟨c0, c1, c2, c3, c4⟩, c5, c6, c7⟩ := node_cells hN
  have hlt : b < w.heap.size := lt_of_block hN
  have HN0 := Lib.hid hN
  have hne : b ≠ w.heap.size := by omega
  have hne' : w.heap.size ≠ b := by omega
  clear hn hL ih hN
  have hO := Lib.hid (fun (W : World) (h : Below w.heap.size w W) => order_any v V _ _ i i' W (hn2.lst.1.below h) (HL.out.1.below h))
  clear hn2
  unfold prV at hO IH ⊢
  go_enter Tryd.func42, Tryd.ntmps42
  go_wp2_with fail
  refine wp_still_tail 5 (by kernel_rfl) (by kernel_rfl) ?_
  simp only [List.take_succ_cons, List.take_zero, List.drop_succ_cons, List.drop_zero]
  repeat still_step
  refine wpStill_nil ?_
  go_wp2_with fail
  refine (hO.out _ ((Below.refl _ w).alloc (Nat.le_refl _) _).drew).mono ?_
  rintro e w1 ⟨rfl, b1⟩
  have nb1 : w1.heap[b]? = some (nodeObj v.k v.n v.s (.slice ra rl rc) i lp rp h0) := (b1.block b (by simp; omega)).trans ((Below.heap_alloc w _ b hlt).trans HN0.out)
  have pb1 : w1.heap[w.heap.size]? = some (pairObj V (.slice la ll lc) i') := (b1.block w.heap.size (by simp)).trans (new_block w _ _ rfl)
  have B1 := Lib.hid (((Below.refl _ w).alloc (Nat.le_refl _) (pairObj V (.slice la ll lc) i')).drew.trans (b1.mono (by simp)))
  clear c0 c1 c2 c3 c4 c5 c6 c7 b1
  obtain ⟨⟨c0, c1, c2, c3, c4⟩, c5, c6, c7⟩ := node_cells nb1
  obtain ⟨d0, d1, d2, d3, d4⟩ := pair_cells pb1
  have NB1 := Lib.hid nb1
  clear nb1 pb1
  go_wp2_with fail
  refine wp_take_tail 6 (.pointer (some ⟨b, 0, none⟩)) (by kernel_rfl) (by kernel_rfl) (fun _ _ _ h => h) (Or.inl ⟨by rfl, fun w => by go_simp⟩) ?_
  simp only [List.take_succ_cons, List.take_zero, List.drop_succ_cons, List.drop_zero, Nat.reduceSub]
  go_simp
  repeat still_step
  refine wpStill_nil ?_
  go_wp2_with fail
  refine (IH.out _ (HN.out.lt.fr (Fr.of_below B1.out).drew (fun _ _ h => h)) (HL.out.fr (Fr.of_below B1.out).drew)).mono ?_
  intro e w2 hG
  obtain ⟨p', S', rfl, g1, g2, g3⟩ := hG
  have hsz1 := B1.out.size
  have nb2 : w2.heap[b]? = some (nodeObj v.k v.n v.s (.slice ra rl rc) i lp rp h0) := (g3.block b (lt_of_block NB1.out) HN.out.nl).trans NB1.out
  have q5 := (node_cells nb2).2.1
  have qf := node_free nb2 5
  have e3 : (w2.setCell ⟨b, 5, none⟩ (.pointer (pa p'))).heap[b]? = some (nodeObj v.k v.n v.s (.slice ra rl rc) i p' rp h0) := node_setL nb2 p'
  have fs := Fr.set (w := w2) (show w2.heap[b]? = some (.cells _ 68 _) from nb2) 5 (.pointer (pa p'))
  have f01 := ((Fr.of_below B1.out).drew.trans g3)
  have fall := f01.trans fs
  have nS : ¬ S' b := fun h => (g2 b h).elim HN.out.nl (fun h => by have : w1.heap.size ≤ b := h; omega)
  have hnew : Node (w2.setCell ⟨b, 5, none⟩ (.pointer (pa p'))) b p' rp (.slice ra rl rc) (Tr.drop l (V, i')) v i r S' Sr := by
    refine ⟨⟨_, e3⟩, HN.out.lst.fr fall, g1.fr fs (fun x hx e => nS (e ▸ hx)), HN.out.rt.fr fall (fun x hx e => ?_), nS, HN.out.nr, fun x hx hr => ?_⟩
    · rcases e with (e | e) | e
      · exact e
      · exact HN.out.ap x e hx
      · exact HN.out.nr (e ▸ hx)
    · rcases g2 x hx with h | h
      · exact HN.out.ap x h hr
      · have := HN.out.rt.lt hr; have : w1.heap.size ≤ x := h; omega
  have HNEW := Lib.hid hnew
  have FALL := Lib.hid fall
  have G2 := Lib.hid (fun x (h : S' x) => (g2 x h).imp_right (fun h => Nat.le_trans hsz1 h))
  clear g1 g2 g3 nb2 e3 fs f01 fall nS hnew
  go_wp2_with fail
  refine (balance_T HNEW.out (by omega)).mono ?_
  intro e w4 hG
  obtain ⟨p4, rfl, k1, k2, k3⟩ := hG
  have K1 := Lib.hid k1
  have K2 := Lib.hid k2
  clear k1 k2 k3
  go_wp2_with fail
  go_ret
  refine ⟨p4, _, rfl, K1.out, fun x hx => ?_, (FALL.out.trans K2.out).mono (fun x hlt h => ?_) (fun x h _ => HB.out x h)⟩
  · rcases hx with h | h | h
    · exact .inl (.inl h)
    · exact (G2.out x h).imp_left (fun h => .inr (.inl h))
    · exact .inl (.inr (.inr h))
  · rcases h with ((h | h) | h) | (h | h | h)
    · exact h.elim
    · exact .inr (.inl h)
    · exact .inl h
    · exact .inl h
    · exact (G2.out x h).elim (fun h => .inr (.inl h)) (fun h => by omega)
    · exact .inr (.inr h)
set_option maxHeartbeats 1000000 in
theorem drop_right {w : World} {b : Nat} {lp rp : Option Nat} {sl sl' : Value} {l r : Tr} {v V : Vl} {i i' : Int} {Sl Sr : Nat → Prop} (hn : Node w b lp rp sl l v i r Sl Sr) (sz : l.n + r.n < 800) (hL : IsLt w sl' V.l) (ho : ordP (v, i) (V, i') < 0) (hsz : (Tr.drop r (V, i')).n ≤ r.n)
    (ih : ∀ W, IsT W r rp Sr → IsLt W sl' V.l → Calls Tryd.prog 42 #[.pointer (pa rp), prV V sl' i'] W (GivesNew (Tr.drop r (V, i')) Sr W)) :
    Calls Tryd.prog 42 #[.pointer (some ⟨b, 0, none⟩), prV V sl' i'] w (GivesNew (Tr.bal l v i (Tr.drop r (V, i'))) (fun x => x = b ∨ Sl x ∨ Sr x) w) := by
  obtain ⟨la, ll, lc, rfl⟩ := hL.1.slice
  obtain ⟨ra, rl, rc, rfl⟩ := hn.lst.1.slice
  have HB := Lib.hid hn.blocks
  have HN := Lib.hid hn
  have HL := Lib.hid hL
  have IH := Lib.hid ih
  have hn2 := hn
  obtain ⟨h0, hN⟩ := hn.obj
  obtain ⟨⟨c0, c1, c2, c3, c4⟩, c5, c6, c7⟩ := node_cells hN
  have hlt : b < w.heap.size := lt_of_block hN
  have HN0 := Lib.hid hN
  have hne : b ≠ w.heap.size := by omega
  have hne' : w.heap.size ≠ b := by omega
  clear hn hL ih hN
  have hO := Lib.hid (fun (W : World) (h : Below w.heap.size w W) => order_any v V _ _ i i' W (hn2.lst.1.below h) (HL.out.1.below h))
  clear hn2
  unfold prV at hO IH ⊢
  go_enter Tryd.func42, Tryd.ntmps42
  go_wp2_with fail
  refine wp_still_tail 5 (by kernel_rfl) (by kernel_rfl) ?_
  simp only [List.take_succ_cons, List.take_zero, List.drop_succ_cons, List.drop_zero]
  repeat still_step
  refine wpStill_nil ?_
  go_wp2_with fail
  refine (hO.out _ ((Below.refl _ w).alloc (Nat.le_refl _) _).drew).mono ?_
  rintro e w1 ⟨rfl, b1⟩
  have nb1 : w1.heap[b]? = some (nodeObj v.k v.n v.s (.slice ra rl rc) i lp rp h0) := (b1.block b (by simp; omega)).trans ((Below.heap_alloc w _ b hlt).trans HN0.out)
  have pb1 : w1.heap[w.heap.size]? = some (pairObj V (.slice la ll lc) i') := (b1.block w.heap.size (by simp)).trans (new_block w _ _ rfl)
  have B1 := Lib.hid (((Below.refl _ w).alloc (Nat.le_refl _) (pairObj V (.slice la ll lc) i')).drew.trans (b1.mono (by simp)))
  clear c0 c1 c2 c3 c4 c5 c6 c7 b1
  obtain ⟨⟨c0, c1, c2, c3, c4⟩, c5, c6, c7⟩ := node_cells nb1
  obtain ⟨d0, d1, d2, d3, d4⟩ := pair_cells pb1
  have NB1 := Lib.hid nb1
  clear nb1 pb1
  go_wp2_with fail
  refine wp_take_tail 6 (.pointer (some ⟨b, 0, none⟩)) (by kernel_rfl) (by kernel_rfl) (fun _ _ _ h => h) (Or.inl ⟨by rfl, fun w => by go_simp⟩) ?_
  simp only [List.take_succ_cons, List.take_zero, List.drop_succ_cons, List.drop_zero, Nat.reduceSub]
  go_simp
  repeat still_step
  refine wpStill_nil ?_
  go_wp2_with fail
  refine (IH.out _ (HN.out.rt.fr (Fr.of_below B1.out).drew (fun _ _ h => h)) (HL.out.fr (Fr.of_below B1.out).drew)).mono ?_
  intro e w2 hG
  obtain ⟨p', S', rfl, g1, g2, g3⟩ := hG
  have hsz1 := B1.out.size
  have nb2 : w2.heap[b]? = some (nodeObj v.k v.n v.s (.slice ra rl rc) i lp rp h0) := (g3.block b (lt_of_block NB1.out) HN.out.nr).trans NB1.out
  have q6 := (node_cells nb2).2.2.1
  have qf := node_free nb2 6
  have e3 : (w2.setCell ⟨b, 6, none⟩ (.pointer (pa p'))).heap[b]? = some (nodeObj v.k v.n v.s (.slice ra rl rc) i lp p' h0) := node_setR nb2 p'
  have fs := Fr.set (w := w2) (show w2.heap[b]? = some (.cells _ 68 _) from nb2) 6 (.pointer (pa p'))
  have f01 := ((Fr.of_below B1.out).drew.trans g3)
  have fall := f01.trans fs
  have nS : ¬ S' b := fun h => (g2 b h).elim HN.out.nr (fun h => by have : w1.heap.size ≤ b := h; omega)
  have hnew : Node (w2.setCell ⟨b, 6, none⟩ (.pointer (pa p'))) b lp p' (.slice ra rl rc) l v i (Tr.drop r (V, i')) Sl S' := by
    refine ⟨⟨_, e3⟩, HN.out.lst.fr fall, HN.out.lt.fr fall (fun x hx e => ?_), g1.fr fs (fun x hx e => nS (e ▸ hx)), HN.out.nl, nS, fun x hr hx => ?_⟩
    · rcases e with (e | e) | e
      · exact e
      · exact HN.out.ap x hx e
      · exact HN.out.nl (e ▸ hx)
    · rcases g2 x hx with h | h
      · exact HN.out.ap x hr h
      · have := HN.out.lt.lt hr; have : w1.heap.size ≤ x := h; omega
  have HNEW := Lib.hid hnew
  have FALL := Lib.hid fall
  have G2 := Lib.hid (fun x (h : S' x) => (g2 x h).imp_right (fun h => Nat.le_trans hsz1 h))
  clear g1 g2 g3 nb2 e3 fs f01 fall nS hnew
  go_wp2_with fail
  refine (balance_T HNEW.out (by omega)).mono ?_
  intro e w4 hG
  obtain ⟨p4, rfl, k1, k2, k3⟩ := hG
  have K1 := Lib.hid k1
  have K2 := Lib.hid k2
  clear k1 k2 k3
  go_wp2_with fail
  go_ret
  refine ⟨p4, _, rfl, K1.out, fun x hx => ?_, (FALL.out.trans K2.out).mono (fun x hlt h => ?_) (fun x h _ => HB.out x h)⟩
  · rcases hx with h | h | h
    · exact .inl (.inl h)
    · exact .inl (.inr (.inl h))
    · exact (G2.out x h).imp_left (fun h => .inr (.inr h))
  · rcases h with ((h | h) | h) | (h | h | h)
    · exact h.elim
    · exact .inr (.inr h)
    · exact .inl h
    · exact .inl h
    · exact .inr (.inl h)
    · exact (G2.out x h).elim (fun h => .inr (.inr h)) (fun h => by omega)

set_option maxHeartbeats 1000000 in
theorem drop_eq_l {w : World} {b : Nat} {lp rp : Option Nat} {sl sl' : Value} {r : Tr} {v V : Vl} {i i' : Int} {Sl Sr : Nat → Prop} (hn : Node w b lp rp sl .nil v i r Sl Sr) (hL : IsLt w sl' V.l) (ho : ordP (v, i) (V, i') = 0) :
    Calls Tryd.prog 42 #[.pointer (some ⟨b, 0, none⟩), prV V sl' i'] w (GivesNew r (fun x => x = b ∨ Sl x ∨ Sr x) w) := by
  obtain ⟨la, ll, lc, rfl⟩ := hL.1.slice
  obtain ⟨ra, rl, rc, rfl⟩ := hn.lst.1.slice
  have HB := Lib.hid hn.blocks
  have hlp : lp = none := hn.lt.1
  subst hlp
  have HN := Lib.hid hn
  have HL := Lib.hid hL
  have hn2 := hn
  obtain ⟨h0, hN⟩ := hn.obj
  obtain ⟨⟨c0, c1, c2, c3, c4⟩, c5, c6, c7⟩ := node_cells hN
  have hlt : b < w.heap.size := lt_of_block hN
  have HN0 := Lib.hid hN
  have hne : b ≠ w.heap.size := by omega
  have hne' : w.heap.size ≠ b := by omega
  clear hn hL hN
  have hO := Lib.hid (fun (W : World) (h : Below w.heap.size w W) => order_any v V _ _ i i' W (hn2.lst.1.below h) (HL.out.1.below h))
  clear hn2
  rw [ho] at hO
  clear ho
  unfold prV at hO ⊢
  go_enter Tryd.func42, Tryd.ntmps42
  go_wp2_with fail
  refine wp_still_tail 5 (by kernel_rfl) (by kernel_rfl) ?_
  simp only [List.take_succ_cons, List.take_zero, List.drop_succ_cons, List.drop_zero]
  repeat still_step
  refine wpStill_nil ?_
  go_wp2_with fail
  refine (hO.out _ ((Below.refl _ w).alloc (Nat.le_refl _) _).drew).mono ?_
  rintro e w1 ⟨rfl, b1⟩
  have nb1 : w1.heap[b]? = some (nodeObj v.k v.n v.s (.slice ra rl rc) i none rp h0) := (b1.block b (by simp; omega)).trans ((Below.heap_alloc w _ b hlt).trans HN0.out)
  have B1 := Lib.hid (((Below.refl _ w).alloc (Nat.le_refl _) (pairObj V (.slice la ll lc) i')).drew.trans (b1.mono (by simp)))
  clear c0 c1 c2 c3 c4 c5 c6 c7 b1
  obtain ⟨⟨c0, c1, c2, c3, c4⟩, c5, c6, c7⟩ := node_cells nb1
  replace c5 : w1.cell? ⟨b, 5, none⟩ = some (.pointer none) := c5
  clear nb1
  go_wp2_with fail
  go_ret
  exact ⟨rp, Sr, rfl, HN.out.rt.fr (Fr.of_below B1.out) (fun _ _ h => h), fun x hx => .inl (.inr (.inr hx)), (Fr.of_below B1.out).mono (fun _ _ h => h.elim) (fun x h _ => HB.out x h)⟩

set_option maxHeartbeats 1000000 in
theorem drop_eq_r {w : World} {b lb : Nat} {rp : Option Nat} {sl sl' : Value} {l : Tr} {v V : Vl} {i i' : Int} {Sl Sr : Nat → Prop} (hn : Node w b (some lb) rp sl l v i .nil Sl Sr) (hL : IsLt w sl' V.l) (ho : ordP (v, i) (V, i') = 0) :
    Calls Tryd.prog 42 #[.pointer (some ⟨b, 0, none⟩), prV V sl' i'] w (GivesNew l (fun x => x = b ∨ Sl x ∨ Sr x) w) := by
  obtain ⟨la, ll, lc, rfl⟩ := hL.1.slice
  obtain ⟨ra, rl, rc, rfl⟩ := hn.lst.1.slice
  have HB := Lib.hid hn.blocks
  have hrp : rp = none := hn.rt.1
  subst hrp
  have HN := Lib.hid hn
  have HL := Lib.hid hL
  have hn2 := hn
  obtain ⟨h0, hN⟩ := hn.obj
  obtain ⟨⟨c0, c1, c2, c3, c4⟩, c5, c6, c7⟩ := node_cells hN
  have hlt : b < w.heap.size := lt_of_block hN
  have HN0 := Lib.hid hN
  have hne : b ≠ w.heap.size := by omega
  have hne' : w.heap.size ≠ b := by omega
  clear hn hL hN
  have hO := Lib.hid (fun (W : World) (h : Below w.heap.size w W) => order_any v V _ _ i i' W (hn2.lst.1.below h) (HL.out.1.below h))
  clear hn2
  rw [ho] at hO
  clear ho
  unfold prV at hO ⊢
  go_enter Tryd.func42, Tryd.ntmps42
  go_wp2_with fail
  refine wp_still_tail 5 (by kernel_rfl) (by kernel_rfl) ?_
  simp only [List.take_succ_cons, List.take_zero, List.drop_succ_cons, List.drop_zero]
  repeat still_step
  refine wpStill_nil ?_
  go_wp2_with fail
  refine (hO.out _ ((Below.refl _ w).alloc (Nat.le_refl _) _).drew).mono ?_
  rintro e w1 ⟨rfl, b1⟩
  have nb1 : w1.heap[b]? = some (nodeObj v.k v.n v.s (.slice ra rl rc) i (some lb) none h0) := (b1.block b (by simp; omega)).trans ((Below.heap_alloc w _ b hlt).trans HN0.out)
  have B1 := Lib.hid (((Below.refl _ w).alloc (Nat.le_refl _) (pairObj V (.slice la ll lc) i')).drew.trans (b1.mono (by simp)))
  clear c0 c1 c2 c3 c4 c5 c6 c7 b1
  obtain ⟨⟨c0, c1, c2, c3, c4⟩, c5, c6, c7⟩ := node_cells nb1
  replace c5 : w1.cell? ⟨b, 5, none⟩ = some (.pointer (some ⟨lb, 0, none⟩)) := c5
  replace c6 : w1.cell? ⟨b, 6, none⟩ = some (.pointer none) := c6
  clear nb1
  go_wp2_with fail
  go_ret
  exact ⟨some lb, Sl, rfl, HN.out.lt.fr (Fr.of_below B1.out) (fun _ _ h => h), fun x hx => .inl (.inr (.inl hx)), (Fr.of_below B1.out).mono (fun _ _ h => h.elim) (fun x h _ => HB.out x h)⟩

theorem node_setP {w : World} {b : Nat} {k n k' n' : Int} {s s' : ByteArray} {sl sl' : Value} {i i' : Int} {lp rp : Option Nat} {h : Int} (hN : w.heap[b]? = some (nodeObj k n s sl i lp rp h)) :
    (((((w.setCell ⟨b, 0, none⟩ (.int .i64 k')).setCell ⟨b, 1, none⟩ (.int .i64 n')).setCell ⟨b, 2, none⟩ (.string s')).setCell ⟨b, 3, none⟩ sl').setCell ⟨b, 4, none⟩ (.int .i64 i')).heap[b]? = some (nodeObj k' n' s' sl' i' lp rp h) :=
  heap_setCell_same _ (heap_setCell_same _ (heap_setCell_same _ (heap_setCell_same _ (heap_setCell_same _ hN))))

set_option maxHeartbeats 2000000 in
theorem drop_eq {w : World} {b lb rb : Nat} {sl sl' : Value} {l rl rr : Tr} {v V rv : Vl} {i i' ri : Int} {Sl Sr : Nat → Prop} (hn : Node w b (some lb) (some rb) sl l v i (.node rl rv ri rr) Sl Sr) (sz : l.n + (Tr.node rl rv ri rr).n < 800) (hL : IsLt w sl' V.l) (ho : ordP (v, i) (V, i') = 0)
    (hsz : (Tr.drop (.node rl rv ri rr) (Tr.low (rv, ri) rl)).n ≤ (Tr.node rl rv ri rr).n)
    (ih : ∀ W sl2, IsT W (.node rl rv ri rr) (some rb) Sr → IsLt W sl2 (Tr.low (rv, ri) rl).1.l → Calls Tryd.prog 42 #[.pointer (some ⟨rb, 0, none⟩), prV (Tr.low (rv, ri) rl).1 sl2 (Tr.low (rv, ri) rl).2] W (GivesNew (Tr.drop (.node rl rv ri rr) (Tr.low (rv, ri) rl)) Sr W)) :
    Calls Tryd.prog 42 #[.pointer (some ⟨b, 0, none⟩), prV V sl' i'] w (GivesNew (Tr.bal l (Tr.low (rv, ri) rl).1 (Tr.low (rv, ri) rl).2 (Tr.drop (.node rl rv ri rr) (Tr.low (rv, ri) rl))) (fun x => x = b ∨ Sl x ∨ Sr x) w) := by
  obtain ⟨la, ll, lc, rfl⟩ := hL.1.slice
  obtain ⟨ra, rlen, rc, rfl⟩ := hn.lst.1.slice
  have HB := Lib.hid hn.blocks
  have HN := Lib.hid hn
  have HL := Lib.hid hL
  have IH := Lib.hid ih
  have hn2 := hn
  obtain ⟨h0, hN⟩ := hn.obj
  obtain ⟨⟨c0, c1, c2, c3, c4⟩, c5, c6, c7⟩ := node_cells hN
  have hlt : b < w.heap.size := lt_of_block hN
  have HN0 := Lib.hid hN
  have hne : b ≠ w.heap.size := by omega
  have hne' : w.heap.size ≠ b := by omega
  clear hn hL hN ih
  have hO := Lib.hid (fun (W : World) (h : Below w.heap.size w W) => order_any v V _ _ i i' W (hn2.lst.1.below h) (HL.out.1.below h))
  clear hn2
  rw [ho] at hO
  clear ho
  generalize hlow : Tr.low (rv, ri) rl = low at *
  have HLOW := Lib.hid hlow
  clear hlow
  generalize hdr : Tr.drop (.node rl rv ri rr) low = dr at *
  clear hdr
  obtain ⟨lv, li⟩ := low
  unfold prV at hO IH ⊢
  go_enter Tryd.func42, Tryd.ntmps42
  go_wp2_with fail
  refine wp_still_tail 5 (by kernel_rfl) (by kernel_rfl) ?_
  simp only [List.take_succ_cons, List.take_zero, List.drop_succ_cons, List.drop_zero]
  repeat still_step
  refine wpStill_nil ?_
  go_wp2_with fail
  refine (hO.out _ ((Below.refl _ w).alloc (Nat.le_refl _) _).drew).mono ?_
  rintro e w1 ⟨rfl, b1⟩
  have nb1 : w1.heap[b]? = some (nodeObj v.k v.n v.s (.slice ra rlen rc) i (some lb) (some rb) h0) := (b1.block b (by simp; omega)).trans ((Below.heap_alloc w _ b hlt).trans HN0.out)
  have B1 := Lib.hid (((Below.refl _ w).alloc (Nat.le_refl _) (pairObj V (.slice la ll lc) i')).drew.trans (b1.mono (by simp)))
  clear c0 c1 c2 c3 c4 c5 c6 c7 b1
  obtain ⟨⟨c0, c1, c2, c3, c4⟩, c5, c6, c7⟩ := node_cells nb1
  replace c5 : w1.cell? ⟨b, 5, none⟩ = some (.pointer (some ⟨lb, 0, none⟩)) := c5
  replace c6 : w1.cell? ⟨b, 6, none⟩ = some (.pointer (some ⟨rb, 0, none⟩)) := c6
  have NB1 := Lib.hid nb1
  have RT := Lib.hid (HN.out.rt.fr (Fr.of_below B1.out) (fun _ _ h => h))
  clear nb1
  go_wp2_with fail
  go_loopg [6] (Tr.node rl rv ri rr).n (fun g s6 wr => w1 = wr ∧ ∃ l' v' i2 r' c S', g = (Tr.node l' v' i2 r').n ∧ s6 = .pointer (some ⟨c, 0, none⟩) ∧ IsT wr (.node l' v' i2 r') (some c) S' ∧ Hid (∀ x, S' x → Sr x) ∧ Hid (Tr.low (v', i2) l' = (lv, li)))
  case atStart => exact ⟨rfl, rl, rv, ri, rr, rb, Sr, rfl, rfl, RT.out, fun x h => h, HLOW.out⟩
  case round =>
    obtain ⟨rfl, l', v', i2, r', c, S', hg, rfl, hT', HS', HLO⟩ := hrel
    have HG := Lib.hid hg
    clear hg
    obtain ⟨c', lp', rp', sl2, Sl', Sr', hc', hnc, hSc⟩ := Node.of_T hT'
    obtain rfl : c = c' := Option.some.inj hc'
    obtain ⟨ra2, rl2, rc2, rfl⟩ := hnc.lst.1.slice
    obtain ⟨hh, hNc⟩ := hnc.obj
    obtain ⟨⟨e0, e1, e2, e3, e4⟩, e5, e6, e7⟩ := node_cells hNc
    have HNC := Lib.hid hnc
    have HSC := Lib.hid hSc
    have HCO := Lib.hid hNc
    clear hc' hT' hnc hNc hSc
    cases l' with
    | node l2 v2 i3 r2 =>
      obtain ⟨b2, lp2, rp2, sl3, Sl2, Sr2, hlp, hn2', hS2⟩ := Node.of_T HNC.out.lt
      subst hlp
      replace e5 : w1.cell? ⟨c, 5, none⟩ = some (.pointer (some ⟨b2, 0, none⟩)) := e5
      have H2 := Lib.hid HNC.out.lt
      have HX : Hid (∀ x, Sl' x → Sr x) := fun x hx => HS'.out x ((HSC.out x).2 (.inr (.inl hx)))
      have HLO2 := Lib.hid (show Tr.low (v2, i3) l2 = (lv, li) from HLO.out)
      clear hn2' hS2
      go_wp2_with fail
      go_roundg (Tr.node l2 v2 i3 r2).n
      case measure => rw [HG.out]; simp only [Tr.n]; omega
      case rel => exact ⟨rfl, l2, v2, i3, r2, b2, Sl', rfl, rfl, H2.out, HX.out, HLO2.out⟩
    | nil =>
      have hlo : (v', i2) = (lv, li) := HLO.out
      obtain ⟨rfl, rfl⟩ := Prod.mk.inj hlo
      have hlp' : lp' = none := HNC.out.lt.1
      subst hlp'
      replace e5 : w1.cell? ⟨c, 5, none⟩ = some (.pointer none) := e5
      have hcb : c ≠ b := fun e => HN.out.nr (e ▸ HS'.out c ((HSC.out c).2 (.inl rfl)))
      have hbc : b ≠ c := Ne.symm hcb
      have fr0 := node_free NB1.out 0
      have fr1 := node_free NB1.out 1
      have fr2 := node_free NB1.out 2
      have fr3 := node_free NB1.out 3
      have fr4 := node_free NB1.out 4
      clear hlo
      go_wp2_with fail
      have nb2 := node_setP (k' := v'.k) (n' := v'.n) (s' := v'.s) (sl' := .slice ra2 rl2 rc2) (i' := i2) NB1.out
      have f2 : Fr (fun x => x = b) w1 (((((w1.setCell ⟨b, 0, none⟩ (.int .i64 v'.k)).setCell ⟨b, 1, none⟩ (.int .i64 v'.n)).setCell ⟨b, 2, none⟩ (.string v'.s)).setCell ⟨b, 3, none⟩ (.slice ra2 rl2 rc2)).setCell ⟨b, 4, none⟩ (.int .i64 i2)) := by
        refine ⟨rfl, rfl, rfl, by simp [World.setCell], fun k _ hk => ?_, fun k hk _ => hk ▸ ⟨_, _, NB1.out⟩⟩
        rw [Below.heap_setCell _ _ _ _ hk, Below.heap_setCell _ _ _ _ hk, Below.heap_setCell _ _ _ _ hk, Below.heap_setCell _ _ _ _ hk, Below.heap_setCell _ _ _ _ hk]
      generalize (((((w1.setCell ⟨b, 0, none⟩ (.int .i64 v'.k)).setCell ⟨b, 1, none⟩ (.int .i64 v'.n)).setCell ⟨b, 2, none⟩ (.string v'.s)).setCell ⟨b, 3, none⟩ (.slice ra2 rl2 rc2)).setCell ⟨b, 4, none⟩ (.int .i64 i2)) = w2 at *
      have co2 := (f2.block c (lt_of_block HCO.out) hcb).trans HCO.out
      have RT2 := Lib.hid (RT.out.fr f2 (fun x hx e => HN.out.nr (e ▸ hx)))
      have LT2 := Lib.hid ((HN.out.lt.fr (Fr.of_below B1.out) (fun _ _ h => h)).fr f2 (fun x hx e => HN.out.nl (e ▸ hx)))
      have LS2 := Lib.hid (HNC.out.lst.fr f2)
      have F2 := Lib.hid ((Fr.of_below B1.out).trans f2)
      have NB2 := Lib.hid nb2
      have z2 := f2.size
      clear c0 c1 c2 c3 c4 c5 c6 c7 e0 e1 e2 e3 e4 e5 e6 e7 fr0 fr1 fr2 fr3 fr4 f2
      obtain ⟨⟨c0, c1, c2, c3, c4⟩, c5, c6, c7⟩ := node_cells nb2
      obtain ⟨⟨e0, e1, e2, e3, e4⟩, e5, e6, e7⟩ := node_cells co2
      replace c6 : w2.cell? ⟨b, 6, none⟩ = some (.pointer (some ⟨rb, 0, none⟩)) := c6
      clear nb2 co2
      refine wp_take_tail 9 (.pointer (some ⟨b, 0, none⟩)) (by kernel_rfl) (by kernel_rfl) (fun _ _ _ h => h) (Or.inl ⟨by rfl, fun w => by go_simp⟩) ?_
      simp only [List.take_succ_cons, List.take_zero, List.drop_succ_cons, List.drop_zero, Nat.reduceSub]
      go_simp
      repeat still_step
      refine wpStill_nil ?_
      go_wp2_with fail
      refine (IH.out _ _ (RT2.out.fr (Fr.refl w2).drew (fun _ _ h => h)) (LS2.out.fr (Fr.refl w2).drew)).mono ?_
      intro e w3 hG
      obtain ⟨p', S3, rfl, g1, g2, g3⟩ := hG
      have hsz1 := B1.out.size
      have nb3 : w3.heap[b]? = some (nodeObj v'.k v'.n v'.s (.slice ra2 rl2 rc2) i2 (some lb) (some rb) h0) := (g3.block b (lt_of_block NB2.out) HN.out.nr).trans NB2.out
      have q6 := (node_cells nb3).2.2.1
      have qf := node_free nb3 6
      have e3' : (w3.setCell ⟨b, 6, none⟩ (.pointer (pa p'))).heap[b]? = some (nodeObj v'.k v'.n v'.s (.slice ra2 rl2 rc2) i2 (some lb) p' h0) := node_setR nb3 p'
      have fs := Fr.set (w := w3) (show w3.heap[b]? = some (.cells _ 68 _) from nb3) 6 (.pointer (pa p'))
      have f23 := (Fr.refl w2).drew.trans (g3.trans fs)
      have nS : ¬ S3 b := fun h => (g2 b h).elim HN.out.nr (fun h => by have : w2.heap.size ≤ b := h; omega)
      have hnew : Node (w3.setCell ⟨b, 6, none⟩ (.pointer (pa p'))) b (some lb) p' (.slice ra2 rl2 rc2) l v' i2 dr Sl S3 := by
        refine ⟨⟨_, e3'⟩, LS2.out.fr f23, LT2.out.fr f23 (fun x hx e => ?_), g1.fr fs (fun x hx e => nS (e ▸ hx)), HN.out.nl, nS, fun x hr hx => ?_⟩
        · rcases e with e | e | e
          · exact e
          · exact HN.out.ap x hx e
          · exact HN.out.nl (e ▸ hx)
        · rcases g2 x hx with h | h
          · exact HN.out.ap x hr h
          · have := HN.out.lt.lt hr; have : w2.heap.size ≤ x := h; omega
      have HNEW := Lib.hid hnew
      have FALL := Lib.hid (F2.out.trans f23)
      have G2 := Lib.hid (fun x (h : S3 x) => (g2 x h).imp_right (fun h => Nat.le_trans hsz1 (Nat.le_trans z2 h)))
      clear g1 g2 g3 nb3 e3' fs f23 nS hnew
      go_wp2_with fail
      refine (balance_T HNEW.out (by omega)).mono ?_
      intro e w4 hG
      obtain ⟨p4, rfl, k1, k2, k3⟩ := hG
      have K1 := Lib.hid k1
      have K2 := Lib.hid k2
      clear k1 k2 k3
      go_wp2_with fail
      go_ret
      refine ⟨p4, _, rfl, K1.out, fun x hx => ?_, (FALL.out.trans K2.out).mono (fun x hlt h => ?_) (fun x h _ => HB.out x h)⟩
      · rcases hx with h | h | h
        · exact .inl (.inl h)
        · exact .inl (.inr (.inl h))
        · exact (G2.out x h).imp_left (fun h => .inr (.inr h))
      · rcases h with ((h | h) | h | h | h) | (h | h | h)
        · exact h.elim
        · exact .inl h
        · exact h.elim
        · exact .inr (.inr h)
        · exact .inl h
        · exact .inl h
        · exact .inr (.inl h)
        · exact (G2.out x h).elim (fun h => .inr (.inr h)) (fun h => by omega)

theorem n_drop : ∀ (t : Tr) (p : Pr), (t.drop p).n ≤ t.n
  | .nil, _ => Nat.le_refl _
  | .node l v i r, p => by
    have h1 := n_drop l p
    unfold Tr.drop; split
    · rw [n_bal, Tr.n]; omega
    · split
      · have h2 := n_drop r p
        rw [n_bal, Tr.n]; omega
      · split
        · simp only [Tr.n]; omega
        · simp only [Tr.n]; omega
        · rename_i rl rv ri rr _
          have h2 := n_drop (.node rl rv ri rr) (Tr.low (rv, ri) rl)
          rw [n_bal, Tr.n]; omega

theorem drop_nil (w : World) (V : Vl) (i : Int) (sl : Value) (hL : IsLt w sl V.l) : Calls Tryd.prog 42 #[.pointer none, prV V sl i] w (GivesNew .nil (fun _ => False) w) := by
  obtain ⟨la, ll, lc, rfl⟩ := hL.1.slice
  clear hL
  unfold prV
  go_enter Tryd.func42, Tryd.ntmps42
  go_wp2_with fail
  go_ret
  exact ⟨none, fun _ => False, rfl, ⟨rfl, fun _ h => h⟩, fun _ h => h.elim, (Fr.refl w).alloc _⟩

theorem drop_T (t : Tr) : ∀ (V : Vl) (i' : Int) (sl' : Value) (w : World) (p : Option Nat) (S : Nat → Prop), IsT w t p S → t.n < 700 → IsLt w sl' V.l → Calls Tryd.prog 42 #[.pointer (pa p), prV V sl' i'] w (GivesNew (t.drop (V, i')) S w) := by
  induction t with
  | nil =>
    intro V i' sl' w p S h _ hL
    obtain ⟨rfl, h2⟩ := h
    rw [show pa none = none from rfl]
    refine (drop_nil w V i' sl' hL).mono ?_
    rintro e w' ⟨p, S', e1, e2, e3, e4⟩
    exact ⟨p, S', e1, e2, fun x hx => .inr ((e3 x hx).elim (fun h => h.elim) id), e4.mono (fun x _ h => h.elim) (fun x h => absurd h (h2 x))⟩
  | node l v i r ihl ihr =>
    intro V i' sl' w p S h sz hL
    obtain ⟨b, lp, rp, sl, Sl, Sr, rfl, hn, hS⟩ := Node.of_T h
    rw [show pa (some b) = some ⟨b, 0, none⟩ from rfl]
    rw [Tr.n] at sz
    have fin : ∀ {t' : Tr} {e : Ending} {w' : World}, GivesNew t' (fun x => x = b ∨ Sl x ∨ Sr x) w e w' → GivesNew t' S w e w' := by
      rintro t' e w' ⟨p, S', e1, e2, e3, e4⟩
      exact ⟨p, S', e1, e2, fun x hx => (e3 x hx).imp_left (hS x).2, e4.mono (fun x _ h => (hS x).2 h) (fun x h _ => hn.blocks x ((hS x).1 h))⟩
    unfold Tr.drop
    split
    · rename_i ho
      exact (drop_left hn (by omega) hL ho (n_drop _ _) fun W h1 h2 => ihl V i' sl' W lp Sl h1 (by omega) h2).mono fun e w' h => fin h
    · split
      · rename_i _ ho
        exact (drop_right hn (by omega) hL ho (n_drop _ _) fun W h1 h2 => ihr V i' sl' W rp Sr h1 (by omega) h2).mono fun e w' h => fin h
      · rename_i ho1 ho2
        have ho : ordP (v, i) (V, i') = 0 := by omega
        split
        · exact (drop_eq_l hn hL ho).mono fun e w' h => fin h
        · rename_i hne
          cases l with
          | nil => exact absurd rfl hne
          | node l1 v1 i1 r1 =>
            obtain ⟨lb, _, _, _, _, _, rfl, _⟩ := Node.of_T hn.lt
            exact (drop_eq_r hn hL ho).mono fun e w' h => fin h
        · rename_i rl rv ri rr hne
          cases l with
          | nil => exact absurd rfl hne
          | node l1 v1 i1 r1 =>
            obtain ⟨lb, _, _, _, _, _, rfl, _⟩ := Node.of_T hn.lt
            obtain ⟨rb, _, _, _, _, _, rfl, _⟩ := Node.of_T hn.rt
            exact (drop_eq hn (by omega) hL ho (n_drop _ _) fun W sl2 h1 h2 => ihr _ _ sl2 W (some rb) Sr h1 (by omega) h2).mono fun e w' h => fin h
end Go.Proofs.YtifaaacbbjlffaaDoor
