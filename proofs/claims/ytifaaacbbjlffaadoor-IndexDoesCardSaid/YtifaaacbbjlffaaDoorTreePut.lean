/- The contracts of balance, pair.order, put. -/
import Derived.Test.YtifaaacbbjlffaaDoorTreeBal
import Derived.Test.YtifaaacbbjlffaaDoorTake
namespace Go.Proofs.YtifaaacbbjlffaaDoor
open Go.RowKit Mor

theorem balance_T {w : World} {b : Nat} {lp rp : Option Nat} {sl : Value} {l r : Tr} {v : Vl} {i : Int} {Sl Sr : Nat → Prop} (hn : Node w b lp rp sl l v i r Sl Sr) (sz : l.n + r.n < 900) :
    Calls Tryd.prog 54 #[.pointer (some ⟨b, 0, none⟩)] w (Gives (Tr.bal l v i r) (fun x => x = b ∨ Sl x ∨ Sr x) w) := by
  by_cases h1 : r.h + 1 < l.h
  · cases hl : l with
    | nil => rw [hl] at h1; simp [Tr.h] at h1
    | node ll lv li lr =>
      by_cases h2 : ll.h < lr.h
      · cases hlr : lr with
        | nil => rw [hlr] at h2; simp [Tr.h] at h2
        | node a u j c =>
          refine (balance_left2 (Lib.hid hl) (Lib.hid hlr) hn sz h1 h2).mono fun e w' h => h.mono ?_ fun _ => Iff.rfl
          rw [hlr] at h2
          rw [hl, hlr] at h1
          unfold Tr.bal
          rw [if_pos h1, show (Tr.node ll lv li (.node a u j c)).lh = ll.h from rfl, show (Tr.node ll lv li (.node a u j c)).rh = (Tr.node a u j c).h from rfl, if_pos h2]
          rfl
      · refine (balance_left (Lib.hid hl) hn sz h1 h2).mono fun e w' h => h.mono ?_ fun _ => Iff.rfl
        rw [hl] at h1
        unfold Tr.bal
        rw [if_pos h1, show (Tr.node ll lv li lr).lh = ll.h from rfl, show (Tr.node ll lv li lr).rh = lr.h from rfl, if_neg h2]
        rfl
  · by_cases h1' : l.h + 1 < r.h
    · cases hr : r with
      | nil => rw [hr] at h1'; simp [Tr.h] at h1'
      | node rl rv ri rr =>
        by_cases h2 : rr.h < rl.h
        · cases hrl : rl with
          | nil => rw [hrl] at h2; simp [Tr.h] at h2
          | node a u j c =>
            refine (balance_right2 (Lib.hid hr) (Lib.hid hrl) hn sz h1' h2).mono fun e w' h => h.mono ?_ fun _ => Iff.rfl
            rw [hrl] at h2
            rw [hr, hrl] at h1' h1
            unfold Tr.bal
            rw [if_neg h1, if_pos h1', show (Tr.node (.node a u j c) rv ri rr).rh = rr.h from rfl, show (Tr.node (.node a u j c) rv ri rr).lh = (Tr.node a u j c).h from rfl, if_pos h2]
            rfl
        · refine (balance_right (Lib.hid hr) hn sz h1' h2).mono fun e w' h => h.mono ?_ fun _ => Iff.rfl
          rw [hr] at h1' h1
          unfold Tr.bal
          rw [if_neg h1, if_pos h1', show (Tr.node rl rv ri rr).lh = rl.h from rfl, show (Tr.node rl rv ri rr).rh = rr.h from rfl, if_neg h2]
          rfl
    · refine (balance_none hn sz h1 h1').mono fun e w' h => h.mono ?_ fun _ => Iff.rfl
      unfold Tr.bal
      rw [if_neg h1, if_neg h1']

/-- a pair, as the program holds it -/
def prV (V : Vl) (sl : Value) (i : Int) : Value := .agg #[.int .i64 V.k, .int .i64 V.n, .string V.s, sl, .int .i64 i]

set_option maxHeartbeats 400000 in
theorem order_any (V U : Vl) (sl sr : Value) (i j : Int) (w : World) (hl : IsL w sl V.l) (hr : IsL w sr U.l) :
    Calls Tryd.prog 53 #[prV V sl i, prV U sr j] w fun e w' => e = .returned (.int .i64 (ordP (V, i) (U, j))) ∧ Below w.heap.size w w' := by
  unfold prV
  have hb : ∀ a b : Obj, Below w.heap.size w ((w.alloc a).alloc b) := fun a b => ((Below.refl _ w).alloc (Nat.le_refl _) _).alloc (by simp) _
  have HB := Lib.hid hb
  have HC := Lib.hid (fun (W : World) (h : Below w.heap.size w W) => compare_any V U _ _ W ⟨sl, rfl, hl.below h⟩ ⟨sr, rfl, hr.below h⟩)
  clear hb
  obtain ⟨la, ll, lc, rfl⟩ := hl.slice
  obtain ⟨ra, rl, rc, rfl⟩ := hr.slice
  clear hl hr
  by_cases h : cmpV V U = 0
  · have hz : (cmpV V U != 0) = false := by rw [h]; rfl
    have E := Lib.hid (show ordP (V, i) (U, j) = ordI i j by simp [ordP, thenC, h])
    rw [E.out]
    clear h E
    go_enter Tryd.func53, Tryd.ntmps53
    go_wp2_with fail
    refine (HC.out _ (HB.out _ _)).mono ?_
    rintro e w1 ⟨rfl, b1⟩
    obtain ⟨hc1, hf1⟩ := bcell b1
    have B1 := Lib.hid ((HB.out _ _).trans (b1.mono (by simp; omega)))
    clear b1
    go_wp2_with (go_at_call 35; refine (cmpInt _ _ _).mono ?_; rintro e w' ⟨rfl, rfl⟩)
    go_ret
    exact ⟨rfl, B1.out⟩
  · have hz : (cmpV V U != 0) = true := by rw [bne_iff_ne]; exact h
    have E := Lib.hid (show ordP (V, i) (U, j) = cmpV V U by simp [ordP, thenC, h])
    rw [E.out]
    clear h E
    go_enter Tryd.func53, Tryd.ntmps53
    go_wp2_with fail
    refine (HC.out _ (HB.out _ _)).mono ?_
    rintro e w1 ⟨rfl, b1⟩
    have B1 := Lib.hid ((HB.out _ _).trans (b1.mono (by simp; omega)))
    clear b1
    go_wp2_with fail
    go_ret
    exact ⟨rfl, B1.out⟩

/-- a pair's block -/
def pairObj (V : Vl) (sl : Value) (i : Int) : Obj := .cells #[.int .i64 V.k, .int .i64 V.n, .string V.s, sl, .int .i64 i] 66 (0, 0)
theorem pair_cells {w : World} {b : Nat} {V : Vl} {sl : Value} {i : Int} (h : w.heap[b]? = some (pairObj V sl i)) : w.cell? ⟨b, 0, none⟩ = some (.int .i64 V.k) ∧ w.cell? ⟨b, 1, none⟩ = some (.int .i64 V.n) ∧ w.cell? ⟨b, 2, none⟩ = some (.string V.s) ∧ w.cell? ⟨b, 3, none⟩ = some sl ∧ w.cell? ⟨b, 4, none⟩ = some (.int .i64 i) := by
  unfold pairObj at h
  simp [World.cell?, h]
theorem pair_free {w : World} {b : Nat} {V : Vl} {sl : Value} {i : Int} (h : w.heap[b]? = some (pairObj V sl i)) (o : Nat) : w.frozen? ⟨b, o, none⟩ = false := by
  unfold pairObj at h
  simp [World.frozen?, h]

/-- what a call leaves that hands back a tree made of given blocks and of new ones -/
def GivesNew (t : Tr) (S : Nat → Prop) (w : World) (e : Ending) (w' : World) : Prop := ∃ p S', e = .returned (.pointer (pa p)) ∧ IsT w' t p S' ∧ (∀ x, S' x → S x ∨ w.heap.size ≤ x) ∧ Fr S w w'

theorem new_block (w : World) (o : Obj) (b : Nat) (hb : b = w.heap.size) : (w.alloc o).heap[b]? = some o := by
  subst hb
  show (w.heap.push o)[w.heap.size]? = _
  simp
theorem put_nil (w : World) (V : Vl) (i : Int) (sl : Value) (hL : IsLt w sl V.l) : Calls Tryd.prog 41 #[.pointer none, prV V sl i] w (GivesNew (Tr.put (V, i) .nil) (fun _ => False) w) := by
  obtain ⟨la, ll, lc, rfl⟩ := hL.1.slice
  have HL := Lib.hid hL
  clear hL
  unfold prV
  go_enter Tryd.func41, Tryd.ntmps41
  go_wp2_with fail
  go_ret
  have hF : ∀ a b : Obj, Fr (fun _ => False) w ((w.alloc a).alloc b) := fun a b => ((Fr.refl w).alloc a).alloc b
  refine ⟨some (w.heap.size + 1), fun x => x = w.heap.size + 1, rfl, ⟨w.heap.size + 1, none, none, .slice la ll lc, fun _ => False, fun _ => False, rfl, ?_, HL.out.fr (hF _ _), ⟨rfl, fun _ h => h⟩, ⟨rfl, fun _ h => h⟩, id, id, fun _ h => h.elim, fun x => by simp⟩, fun x hx => .inr (by omega), hF _ _⟩
  have : ((w.alloc (Obj.cells #[Value.int IntKind.i64 V.k, Value.int IntKind.i64 V.n, Value.string V.s, Value.slice la ll lc, Value.int IntKind.i64 i] 66)).alloc (nodeObj V.k V.n V.s (.slice la ll lc) i none none 1)).heap[w.heap.size + 1]? = some (nodeObj V.k V.n V.s (.slice la ll lc) i none none 1) := new_block _ _ _ (by simp)
  exact this

set_option maxHeartbeats 1000000 in
theorem put_left {w : World} {b : Nat} {lp rp : Option Nat} {sl sl' : Value} {l r : Tr} {v V : Vl} {i i' : Int} {Sl Sr : Nat → Prop} (hn : Node w b lp rp sl l v i r Sl Sr) (sz : l.n + r.n < 800) (hL : IsLt w sl' V.l) (ho : 0 < ordP (v, i) (V, i')) (hsz : (Tr.put (V, i') l).n = l.n + 1)
    (ih : ∀ W, IsT W l lp Sl → IsLt W sl' V.l → Calls Tryd.prog 41 #[.pointer (pa lp), prV V sl' i'] W (GivesNew (Tr.put (V, i') l) Sl W)) :
    Calls Tryd.prog 41 #[.pointer (some ⟨b, 0, none⟩), prV V sl' i'] w (GivesNew (Tr.bal (Tr.put (V, i') l) v i r) (fun x => x = b ∨ Sl x ∨ Sr x) w) := by
  obtain ⟨la, ll, lc, rfl⟩ := hL.1.slice
  obtain ⟨ra, rl, rc, rfl⟩ := hn.lst.1.slice
  have HB := Lib.hid hn.blocks
  have HN := Lib.hid hn
  have HL := Lib.hid hL
  have IH := Lib.hid ih
  have hn2 := hn
  obtain ⟨h0, hN⟩ := hn.obj
  obtain ⟨⟨c0, c1, c2, c3, c4⟩, c5, c6, c7⟩ := node_cells hN
  have hlt : b < w.heap.size := lt_of_block hN
  have HN0 := Lib.hid hN
  have hne : b ≠ w.heap.size := by omega
  have hne' : w.heap.size ≠ b := by omega
  clear hn hL ih hN
  have hO := Lib.hid (fun (W : World) (h : Below w.heap.size w W) => order_any v V _ _ i i' W (hn2.lst.1.below h) (HL.out.1.below h))
  clear hn2
  unfold prV at hO IH ⊢
  go_enter Tryd.func41, Tryd.ntmps41
  go_wp2_with fail
  refine wp_still_tail 5 (by kernel_rfl) (by kernel_rfl) ?_
  simp only [List.take_succ_cons, List.take_zero, List.drop_succ_cons, List.drop_zero]
  repeat still_step
  refine wpStill_nil ?_
  go_wp2_with fail
  refine (hO.out _ ((Below.refl _ w).alloc (Nat.le_refl _) _).drew).mono ?_
  rintro e w1 ⟨rfl, b1⟩
  have nb1 : w1.heap[b]? = some (nodeObj v.k v.n v.s (.slice ra rl rc) i lp rp h0) := (b1.block b (by simp; omega)).trans ((Below.heap_alloc w _ b hlt).trans HN0.out)
  have pb1 : w1.heap[w.heap.size]? = some (pairObj V (.slice la ll lc) i') := (b1.block w.heap.size (by simp)).trans (new_block w _ _ rfl)
  have B1 := Lib.hid (((Below.refl _ w).alloc (Nat.le_refl _) (pairObj V (.slice la ll lc) i')).drew.trans (b1.mono (by simp)))
  clear c0 c1 c2 c3 c4 c5 c6 c7 b1
  obtain ⟨⟨c0, c1, c2, c3, c4⟩, c5, c6, c7⟩ := node_cells nb1
  obtain ⟨d0, d1, d2, d3, d4⟩ := pair_cells pb1
  have NB1 := Lib.hid nb1
  clear nb1 pb1
  go_wp2_with fail
  refine wp_take_tail 6 (.pointer (some ⟨b, 0, none⟩)) (by kernel_rfl) (by kernel_rfl) (fun _ _ _ h => h) (Or.inl ⟨by rfl, fun w => by go_simp⟩) ?_
  simp only [List.take_succ_cons, List.take_zero, List.drop_succ_cons, List.drop_zero, Nat.reduceSub]
  go_simp
  repeat still_step
  refine wpStill_nil ?_
  go_wp2_with fail
  refine (IH.out _ (HN.out.lt.fr (Fr.of_below B1.out).drew (fun _ _ h => h)) (HL.out.fr (Fr.of_below B1.out).drew)).mono ?_
  intro e w2 hG
  obtain ⟨p', S', rfl, g1, g2, g3⟩ := hG
  have hsz1 := B1.out.size
  have nb2 : w2.heap[b]? = some (nodeObj v.k v.n v.s (.slice ra rl rc) i lp rp h0) := (g3.block b (lt_of_block NB1.out) HN.out.nl).trans NB1.out
  have q5 := (node_cells nb2).2.1
  have qf := node_free nb2 5
  have e3 : (w2.setCell ⟨b, 5, none⟩ (.pointer (pa p'))).heap[b]? = some (nodeObj v.k v.n v.s (.slice ra rl rc) i p' rp h0) := node_setL nb2 p'
  have fs := Fr.set (w := w2) (show w2.heap[b]? = some (.cells _ 68 _) from nb2) 5 (.pointer (pa p'))
  have f01 := ((Fr.of_below B1.out).drew.trans g3)
  have fall := f01.trans fs
  have nS : ¬ S' b := fun h => (g2 b h).elim HN.out.nl (fun h => by have : w1.heap.size ≤ b := h; omega)
  have hnew : Node (w2.setCell ⟨b, 5, none⟩ (.pointer (pa p'))) b p' rp (.slice ra rl rc) (Tr.put (V, i') l) v i r S' Sr := by
    refine ⟨⟨_, e3⟩, HN.out.lst.fr fall, g1.fr fs (fun x hx e => nS (e ▸ hx)), HN.out.rt.fr fall (fun x hx e => ?_), nS, HN.out.nr, fun x hx hr => ?_⟩
    · rcases e with (e | e) | e
      · exact e
      · exact HN.out.ap x e hx
      · exact HN.out.nr (e ▸ hx)
    · rcases g2 x hx with h | h
      · exact HN.out.ap x h hr
      · have := HN.out.rt.lt hr; have : w1.heap.size ≤ x := h; omega
  have HNEW := Lib.hid hnew
  have FALL := Lib.hid fall
  have G2 := Lib.hid (fun x (h : S' x) => (g2 x h).imp_right (fun h => Nat.le_trans hsz1 h))
  clear g1 g2 g3 nb2 e3 fs f01 fall nS hnew
  go_wp2_with fail
  refine (balance_T HNEW.out (by omega)).mono ?_
  intro e w4 hG
  obtain ⟨p4, rfl, k1, k2, k3⟩ := hG
  have K1 := Lib.hid k1
  have K2 := Lib.hid k2
  clear k1 k2 k3
  go_wp2_with fail
  go_ret
  refine ⟨p4, _, rfl, K1.out, fun x hx => ?_, (FALL.out.trans K2.out).mono (fun x hlt h => ?_) (fun x h _ => HB.out x h)⟩
  · rcases hx with h | h | h
    · exact .inl (.inl h)
    · exact (G2.out x h).imp_left (fun h => .inr (.inl h))
    · exact .inl (.inr (.inr h))
  · rcases h with ((h | h) | h) | (h | h | h)
    · exact h.elim
    · exact .inr (.inl h)
    · exact .inl h
    · exact .inl h
    · exact (G2.out x h).elim (fun h => .inr (.inl h)) (fun h => by omega)
    · exact .inr (.inr h)
set_option maxHeartbeats 1000000 in
theorem put_right {w : World} {b : Nat} {lp rp : Option Nat} {sl sl' : Value} {l r : Tr} {v V : Vl} {i i' : Int} {Sl Sr : Nat → Prop} (hn : Node w b lp rp sl l v i r Sl Sr) (sz : l.n + r.n < 800) (hL : IsLt w sl' V.l) (ho : ¬ 0 < ordP (v, i) (V, i')) (hsz : (Tr.put (V, i') r).n = r.n + 1)
    (ih : ∀ W, IsT W r rp Sr → IsLt W sl' V.l → Calls Tryd.prog 41 #[.pointer (pa rp), prV V sl' i'] W (GivesNew (Tr.put (V, i') r) Sr W)) :
    Calls Tryd.prog 41 #[.pointer (some ⟨b, 0, none⟩), prV V sl' i'] w (GivesNew (Tr.bal l v i (Tr.put (V, i') r)) (fun x => x = b ∨ Sl x ∨ Sr x) w) := by
  obtain ⟨la, ll, lc, rfl⟩ := hL.1.slice
  obtain ⟨ra, rl, rc, rfl⟩ := hn.lst.1.slice
  have HB := Lib.hid hn.blocks
  have HN := Lib.hid hn
  have HL := Lib.hid hL
  have IH := Lib.hid ih
  have hn2 := hn
  obtain ⟨h0, hN⟩ := hn.obj
  obtain ⟨⟨c0, c1, c2, c3, c4⟩, c5, c6, c7⟩ := node_cells hN
  have hlt : b < w.heap.size := lt_of_block hN
  have HN0 := Lib.hid hN
  have hne : b ≠ w.heap.size := by omega
  have hne' : w.heap.size ≠ b := by omega
  clear hn hL ih hN
  have hO := Lib.hid (fun (W : World) (h : Below w.heap.size w W) => order_any v V _ _ i i' W (hn2.lst.1.below h) (HL.out.1.below h))
  clear hn2
  unfold prV at hO IH ⊢
  go_enter Tryd.func41, Tryd.ntmps41
  go_wp2_with fail
  refine wp_still_tail 5 (by kernel_rfl) (by kernel_rfl) ?_
  simp only [List.take_succ_cons, List.take_zero, List.drop_succ_cons, List.drop_zero]
  repeat still_step
  refine wpStill_nil ?_
  go_wp2_with fail
  refine (hO.out _ ((Below.refl _ w).alloc (Nat.le_refl _) _).drew).mono ?_
  rintro e w1 ⟨rfl, b1⟩
  have nb1 : w1.heap[b]? = some (nodeObj v.k v.n v.s (.slice ra rl rc) i lp rp h0) := (b1.block b (by simp; omega)).trans ((Below.heap_alloc w _ b hlt).trans HN0.out)
  have pb1 : w1.heap[w.heap.size]? = some (pairObj V (.slice la ll lc) i') := (b1.block w.heap.size (by simp)).trans (new_block w _ _ rfl)
  have B1 := Lib.hid (((Below.refl _ w).alloc (Nat.le_refl _) (pairObj V (.slice la ll lc) i')).drew.trans (b1.mono (by simp)))
  clear c0 c1 c2 c3 c4 c5 c6 c7 b1
  obtain ⟨⟨c0, c1, c2, c3, c4⟩, c5, c6, c7⟩ := node_cells nb1
  obtain ⟨d0, d1, d2, d3, d4⟩ := pair_cells pb1
  have NB1 := Lib.hid nb1
  clear nb1 pb1
  go_wp2_with fail
  refine wp_take_tail 6 (.pointer (some ⟨b, 0, none⟩)) (by kernel_rfl) (by kernel_rfl) (fun _ _ _ h => h) (Or.inl ⟨by rfl, fun w => by go_simp⟩) ?_
  simp only [List.take_succ_cons, List.take_zero, List.drop_succ_cons, List.drop_zero, Nat.reduceSub]
  go_simp
  repeat still_step
  refine wpStill_nil ?_
  go_wp2_with fail
  refine (IH.out _ (HN.out.rt.fr (Fr.of_below B1.out).drew (fun _ _ h => h)) (HL.out.fr (Fr.of_below B1.out).drew)).mono ?_
  intro e w2 hG
  obtain ⟨p', S', rfl, g1, g2, g3⟩ := hG
  have hsz1 := B1.out.size
  have nb2 : w2.heap[b]? = some (nodeObj v.k v.n v.s (.slice ra rl rc) i lp rp h0) := (g3.block b (lt_of_block NB1.out) HN.out.nr).trans NB1.out
  have q6 := (node_cells nb2).2.2.1
  have qf := node_free nb2 6
  have e3 : (w2.setCell ⟨b, 6, none⟩ (.pointer (pa p'))).heap[b]? = some (nodeObj v.k v.n v.s (.slice ra rl rc) i lp p' h0) := node_setR nb2 p'
  have fs := Fr.set (w := w2) (show w2.heap[b]? = some (.cells _ 68 _) from nb2) 6 (.pointer (pa p'))
  have f01 := ((Fr.of_below B1.out).drew.trans g3)
  have fall := f01.trans fs
  have nS : ¬ S' b := fun h => (g2 b h).elim HN.out.nr (fun h => by have : w1.heap.size ≤ b := h; omega)
  have hnew : Node (w2.setCell ⟨b, 6, none⟩ (.pointer (pa p'))) b lp p' (.slice ra rl rc) l v i (Tr.put (V, i') r) Sl S' := by
    refine ⟨⟨_, e3⟩, HN.out.lst.fr fall, HN.out.lt.fr fall (fun x hx e => ?_), g1.fr fs (fun x hx e => nS (e ▸ hx)), HN.out.nl, nS, fun x hr hx => ?_⟩
    · rcases e with (e | e) | e
      · exact e
      · exact HN.out.ap x hx e
      · exact HN.out.nl (e ▸ hx)
    · rcases g2 x hx with h | h
      · exact HN.out.ap x hr h
      · have := HN.out.lt.lt hr; have : w1.heap.size ≤ x := h; omega
  have HNEW := Lib.hid hnew
  have FALL := Lib.hid fall
  have G2 := Lib.hid (fun x (h : S' x) => (g2 x h).imp_right (fun h => Nat.le_trans hsz1 h))
  clear g1 g2 g3 nb2 e3 fs f01 fall nS hnew
  go_wp2_with fail
  refine (balance_T HNEW.out (by omega)).mono ?_
  intro e w4 hG
  obtain ⟨p4, rfl, k1, k2, k3⟩ := hG
  have K1 := Lib.hid k1
  have K2 := Lib.hid k2
  clear k1 k2 k3
  go_wp2_with fail
  go_ret
  refine ⟨p4, _, rfl, K1.out, fun x hx => ?_, (FALL.out.trans K2.out).mono (fun x hlt h => ?_) (fun x h _ => HB.out x h)⟩
  · rcases hx with h | h | h
    · exact .inl (.inl h)
    · exact .inl (.inr (.inl h))
    · exact (G2.out x h).imp_left (fun h => .inr (.inr h))
  · rcases h with ((h | h) | h) | (h | h | h)
    · exact h.elim
    · exact .inr (.inr h)
    · exact .inl h
    · exact .inl h
    · exact .inr (.inl h)
    · exact (G2.out x h).elim (fun h => .inr (.inr h)) (fun h => by omega)

theorem n_bal (l : Tr) (v : Vl) (i : Int) (r : Tr) : (Tr.bal l v i r).n = l.n + r.n + 1 := by
  rw [← Tr.n_toL, Tr.toL_bal]
  simp only [List.length_append, List.length_cons, Tr.n_toL]; omega
theorem n_put (p : Pr) : ∀ t : Tr, (t.put p).n = t.n + 1
  | .nil => rfl
  | .node l v i r => by
    unfold Tr.put; split
    · rw [n_bal, n_put p l, Tr.n]; omega
    · rw [n_bal, n_put p r, Tr.n]; omega

theorem put_T (V : Vl) (i' : Int) (sl' : Value) (t : Tr) : ∀ (w : World) (p : Option Nat) (S : Nat → Prop), IsT w t p S → t.n < 700 → IsLt w sl' V.l → Calls Tryd.prog 41 #[.pointer (pa p), prV V sl' i'] w (GivesNew (Tr.put (V, i') t) S w) := by
  induction t with
  | nil =>
    intro w p S h _ hL
    obtain ⟨rfl, h2⟩ := h
    rw [show pa none = none from rfl]
    refine (put_nil w V i' sl' hL).mono ?_
    rintro e w' ⟨p, S', e1, e2, e3, e4⟩
    exact ⟨p, S', e1, e2, fun x hx => .inr ((e3 x hx).elim (fun h => h.elim) id), e4.mono (fun x _ h => h.elim) (fun x h => absurd h (h2 x))⟩
  | node l v i r ihl ihr =>
    intro w p S h sz hL
    obtain ⟨b, lp, rp, sl, Sl, Sr, rfl, hn, hS⟩ := Node.of_T h
    rw [show pa (some b) = some ⟨b, 0, none⟩ from rfl]
    rw [Tr.n] at sz
    have fin : ∀ {t' : Tr} {e : Ending} {w' : World}, GivesNew t' (fun x => x = b ∨ Sl x ∨ Sr x) w e w' → GivesNew t' S w e w' := by
      rintro t' e w' ⟨p, S', e1, e2, e3, e4⟩
      exact ⟨p, S', e1, e2, fun x hx => (e3 x hx).imp_left (hS x).2, e4.mono (fun x _ h => (hS x).2 h) (fun x h _ => hn.blocks x ((hS x).1 h))⟩
    unfold Tr.put
    split
    · rename_i ho
      exact (put_left hn (by omega) hL ho (n_put _ _) fun W h1 h2 => ihl W lp Sl h1 (by omega) h2).mono fun e w' h => fin h
    · rename_i ho
      exact (put_right hn (by omega) hL ho (n_put _ _) fun W h1 h2 => ihr W rp Sr h1 (by omega) h2).mono fun e w' h => fin h
end Go.Proofs.YtifaaacbbjlffaaDoor
