/- A node of the tree in memory; the contracts of tall, measure, turnLeft, turnRight. -/
import Derived.Test.YtifaaacbbjlffaaDoorValItems
import Derived.Test.YtifaaacbbjlffaaDoorIdxPlain
import Derived.OneCell
import Derived.RegionTactic
import Derived.Deep.RegionWith
namespace Go.Proofs.YtifaaacbbjlffaaDoor
open Go.RowKit Mor

/-- a pointer to a node's block, or to none -/
def pa : Option Nat → Option Addr
  | none => none
  | some b => some ⟨b, 0, none⟩
/-- a node's block -/
def nodeObj (k n : Int) (s : ByteArray) (sl : Value) (i : Int) (lp rp : Option Nat) (h : Int) : Obj :=
  .cells #[.int .i64 k, .int .i64 n, .string s, sl, .int .i64 i, .pointer (pa lp), .pointer (pa rp), .int .i64 h] 68 (0, 0)

theorem node_cells {w : World} {b : Nat} {k n : Int} {s : ByteArray} {sl : Value} {i : Int} {lp rp : Option Nat} {h : Int} (hN : w.heap[b]? = some (nodeObj k n s sl i lp rp h)) :
    (w.cell? ⟨b, 0, none⟩ = some (.int .i64 k) ∧ w.cell? ⟨b, 1, none⟩ = some (.int .i64 n) ∧ w.cell? ⟨b, 2, none⟩ = some (.string s) ∧ w.cell? ⟨b, 3, none⟩ = some sl ∧ w.cell? ⟨b, 4, none⟩ = some (.int .i64 i)) ∧
    w.cell? ⟨b, 5, none⟩ = some (.pointer (pa lp)) ∧ w.cell? ⟨b, 6, none⟩ = some (.pointer (pa rp)) ∧ w.cell? ⟨b, 7, none⟩ = some (.int .i64 h) := by
  unfold nodeObj at hN
  simp [World.cell?, hN]
theorem node_free {w : World} {b : Nat} {k n : Int} {s : ByteArray} {sl : Value} {i : Int} {lp rp : Option Nat} {h : Int} (hN : w.heap[b]? = some (nodeObj k n s sl i lp rp h)) (o : Nat) : w.frozen? ⟨b, o, none⟩ = false := by
  unfold nodeObj at hN
  simp [World.frozen?, hN]
theorem heap_setCell_same {w : World} {b o : Nat} {arr : Array Value} {t : TypeId} {fr : Nat × Nat} (v : Value) (h : w.heap[b]? = some (.cells arr t fr)) : (w.setCell ⟨b, o, none⟩ v).heap[b]? = some (.cells (arr.setIfInBounds o v) t fr) := by
  simp only [World.setCell, Array.getElem?_modify, if_true]
  rw [h]
  simp
theorem node_setL {w : World} {b : Nat} {k n : Int} {s : ByteArray} {sl : Value} {i : Int} {lp rp : Option Nat} {h : Int} (hN : w.heap[b]? = some (nodeObj k n s sl i lp rp h)) (v : Option Nat) : (w.setCell ⟨b, 5, none⟩ (.pointer (pa v))).heap[b]? = some (nodeObj k n s sl i v rp h) := heap_setCell_same _ hN
theorem node_setR {w : World} {b : Nat} {k n : Int} {s : ByteArray} {sl : Value} {i : Int} {lp rp : Option Nat} {h : Int} (hN : w.heap[b]? = some (nodeObj k n s sl i lp rp h)) (v : Option Nat) : (w.setCell ⟨b, 6, none⟩ (.pointer (pa v))).heap[b]? = some (nodeObj k n s sl i lp v h) := heap_setCell_same _ hN
theorem node_setH {w : World} {b : Nat} {k n : Int} {s : ByteArray} {sl : Value} {i : Int} {lp rp : Option Nat} {h : Int} (hN : w.heap[b]? = some (nodeObj k n s sl i lp rp h)) (h' : Int) : (w.setCell ⟨b, 7, none⟩ (.int .i64 h')).heap[b]? = some (nodeObj k n s sl i lp rp h') := heap_setCell_same _ hN

/-- how high a pointer's tree says to be -/
def Tall (w : World) (p : Option Nat) (h : Int) : Prop := (p = none ∧ h = 0) ∨ ∃ b, p = some b ∧ w.cell? ⟨b, 7, none⟩ = some (.int .i64 h)

theorem tall_any {w : World} {p : Option Nat} {h : Int} (ht : Tall w p h) : Calls Tryd.prog 61 #[.pointer (pa p)] w fun e w' => e = .returned (.int .i64 h) ∧ w' = w := by
  rcases ht with ⟨rfl, rfl⟩ | ⟨b, rfl, hc⟩
  · show Calls Tryd.prog 61 #[.pointer none] w _
    go_enter Tryd.func61, Tryd.ntmps61
    go_wp2
    go_ret
    exact ⟨rfl, rfl⟩
  · show Calls Tryd.prog 61 #[.pointer (some ⟨b, 0, none⟩)] w _
    go_enter Tryd.func61, Tryd.ntmps61
    go_wp2
    go_ret
    exact ⟨rfl, rfl⟩

/-- only blocks of S, nodes all of them, may have changed, of what there was -/
structure Fr (S : Nat → Prop) (w w' : World) : Prop where
  os : w'.os = w.os
  tape : w'.tape = w.tape
  output : w'.output = w.output
  size : w.heap.size ≤ w'.heap.size
  block : ∀ k, k < w.heap.size → ¬ S k → w'.heap[k]? = w.heap[k]?
  node : ∀ k, S k → k < w.heap.size → ∃ arr fr, w.heap[k]? = some (.cells arr 68 fr)

theorem Fr.refl (w : World) : Fr (fun _ => False) w w := ⟨rfl, rfl, rfl, Nat.le_refl _, fun _ _ _ => rfl, fun _ h => h.elim⟩
theorem Fr.drew {S : Nat → Prop} {w w' : World} (h : Fr S w w') : Fr S w w'.drew := ⟨h.os, h.tape, h.output, h.size, h.block, h.node⟩
theorem Fr.drew0 {S : Nat → Prop} {w w' : World} (h : Fr S w.drew w') : Fr S w w' := ⟨h.os, h.tape, h.output, h.size, h.block, h.node⟩
theorem Fr.trans {S T : Nat → Prop} {a b c : World} (h : Fr S a b) (k : Fr T b c) : Fr (fun x => S x ∨ T x) a c :=
  ⟨k.os.trans h.os, k.tape.trans h.tape, k.output.trans h.output, Nat.le_trans h.size k.size, fun i hi hn => (k.block i (Nat.lt_of_lt_of_le hi h.size) (fun x => hn (.inr x))).trans (h.block i hi (fun x => hn (.inl x))), fun i hi hlt => by
    rcases Classical.em (S i) with hs | hs
    · exact h.node i hs hlt
    · rcases hi with hi | hi
      · exact absurd hi hs
      · rw [← h.block i hlt hs]; exact k.node i hi (Nat.lt_of_lt_of_le hlt h.size)⟩
/-- more blocks may change, if those that were there are nodes -/
theorem Fr.mono {S T : Nat → Prop} {w w' : World} (h : Fr S w w') (hs : ∀ k, k < w.heap.size → S k → T k) (hn : ∀ k, T k → k < w.heap.size → ∃ arr fr, w.heap[k]? = some (.cells arr 68 fr)) : Fr T w w' :=
  ⟨h.os, h.tape, h.output, h.size, fun k hk ht => h.block k hk fun x => ht (hs k hk x), hn⟩
theorem Fr.alloc {S : Nat → Prop} {a w : World} (h : Fr S a w) (o : Obj) : Fr S a (w.alloc o) :=
  ⟨h.os, h.tape, h.output, by have := h.size; simp; omega, fun k hk hn => by rw [← h.block k hk hn]; exact Below.heap_alloc _ _ _ (Nat.lt_of_lt_of_le hk h.size), h.node⟩
theorem Fr.of_below {w w' : World} (h : Below w.heap.size w w') : Fr (fun _ => False) w w' := ⟨h.os, h.tape, h.output, h.size, fun k hk _ => h.block k hk, fun _ h => h.elim⟩
theorem Fr.below {S : Nat → Prop} {w w' : World} {B : Nat} (h : Fr S w w') (hB : B ≤ w.heap.size) (hs : ∀ k, S k → B ≤ k) : Below B w w' := ⟨h.os, h.tape, h.output, h.size, fun k hk => h.block k (by omega) fun x => by have := hs k x; omega⟩
theorem Fr.set {w : World} {b : Nat} {arr : Array Value} {fr : Nat × Nat} (hN : w.heap[b]? = some (.cells arr 68 fr)) (o : Nat) (v : Value) : Fr (fun x => x = b) w (w.setCell ⟨b, o, none⟩ v) :=
  ⟨rfl, rfl, rfl, by simp [World.setCell], fun k _ hk => Below.heap_setCell _ _ _ _ hk, fun k hk _ => hk ▸ ⟨_, _, hN⟩⟩

theorem Tall.fr {S : Nat → Prop} {w w' : World} {p : Option Nat} {h : Int} (ht : Tall w p h) (hf : Fr S w w') (hs : ∀ b, p = some b → ¬ S b) : Tall w' p h := by
  rcases ht with h0 | ⟨b, rfl, hc⟩
  · exact .inl h0
  · refine .inr ⟨b, rfl, ?_⟩
    obtain ⟨o, ho, _⟩ := cells_of_cell hc
    rw [← hc]
    exact World.cell?_of_block (w := w) (hf.block b (lt_of_block ho) (hs b rfl))

set_option maxHeartbeats 400000 in
theorem measure_any {w : World} {b : Nat} {k n : Int} {s : ByteArray} {sl : Value} {i : Int} {lp rp : Option Nat} {h hl hr : Int} (hN : w.heap[b]? = some (nodeObj k n s sl i lp rp h)) (tl : Tall w lp hl) (tr : Tall w rp hr) (hl0 : 0 ≤ hl ∧ hl < 100000) (hr0 : 0 ≤ hr ∧ hr < 100000) :
    Calls Tryd.prog 60 #[.pointer (some ⟨b, 0, none⟩)] w fun e w' => e = .returned (.tuple #[]) ∧ w'.heap[b]? = some (nodeObj k n s sl i lp rp (1 + max hl hr)) ∧ Fr (fun x => x = b) w w' ∧ w'.heap.size = w.heap.size := by
  obtain ⟨⟨c0, c1, c2, c3, c4⟩, c5, c6, c7⟩ := node_cells hN
  have f7 := node_free hN 7
  have HN := Lib.hid hN
  have TL := Lib.hid tl
  have TR := Lib.hid tr
  obtain ⟨hm, hm0, hm1, em, EM⟩ : ∃ m : Int, 0 ≤ m ∧ m < 100000 ∧ (if hl < hr then hr else hl) = m ∧ Hid (max hl hr = m) := ⟨max hl hr, by omega, by omega, by split <;> omega, rfl⟩
  obtain ⟨l1, l2⟩ := hl0
  obtain ⟨r1, r2⟩ := hr0
  clear hN tl tr
  go_enter Tryd.func60, Tryd.ntmps60
  refine wp_still_tail 15 (by kernel_rfl) (by kernel_rfl) ?_
  simp only [List.take_succ_cons, List.take_zero, List.drop_succ_cons, List.drop_zero]
  iterate 5 still_step
  still_call (tall_any (show Tall w.drew lp hl from TL.out))
  iterate 4 still_step
  still_call (tall_any (show Tall w.drew rp hr from TR.out))
  repeat still_step
  refine wpStill_nil ?_
  go_wp2
  go_end0
  rw [EM.out]
  exact ⟨rfl, node_setH HN.out _, (Fr.set (w := w) HN.out 7 _).drew, by simp [World.setCell]⟩

/-- a pointer that is not at b -/
def NotAt (p : Option Nat) (b : Nat) : Prop := ∀ x, p = some x → x ≠ b

set_option maxHeartbeats 400000 in
theorem turnLeft_any {w : World} {b c : Nat} {k n k' n' : Int} {s s' : ByteArray} {sl sl' : Value} {i i' : Int} {lp ml rp : Option Nat} {h h' hl hm hr : Int} (hN : w.heap[b]? = some (nodeObj k n s sl i lp (some c) h)) (hC : w.heap[c]? = some (nodeObj k' n' s' sl' i' ml rp h')) (hbc : c ≠ b)
    (tl : Tall w lp hl) (tm : Tall w ml hm) (tr : Tall w rp hr) (hl0 : 0 ≤ hl ∧ hl < 10000) (hm0 : 0 ≤ hm ∧ hm < 10000) (hr0 : 0 ≤ hr ∧ hr < 10000) (al : NotAt lp b ∧ NotAt lp c) (am : NotAt ml b ∧ NotAt ml c) (ar : NotAt rp b ∧ NotAt rp c) :
    Calls Tryd.prog 62 #[.pointer (some ⟨b, 0, none⟩)] w fun e w' => e = .returned (.pointer (some ⟨c, 0, none⟩)) ∧ w'.heap[b]? = some (nodeObj k n s sl i lp ml (1 + max hl hm)) ∧ w'.heap[c]? = some (nodeObj k' n' s' sl' i' (some b) rp (1 + max (1 + max hl hm) hr)) ∧ Fr (fun x => x = b ∨ x = c) w w' ∧ w'.heap.size = w.heap.size := by
  obtain ⟨⟨c0, c1, c2, c3, c4⟩, c5, c6', c7⟩ := node_cells hN
  obtain ⟨⟨d0, d1, d2, d3, d4⟩, d5, d6, d7⟩ := node_cells hC
  have c6 : w.cell? ⟨b, 6, none⟩ = some (.pointer (some ⟨c, 0, none⟩)) := c6'
  clear c6'
  have fb := node_free hN 6
  have fc := node_free hC 5
  have F1 := Fr.set (w := w) hN 6 (.pointer (pa ml))
  have e1 := node_setR hN ml
  have e2 : (w.setCell ⟨b, 6, none⟩ (.pointer (pa ml))).heap[c]? = some (nodeObj k' n' s' sl' i' ml rp h') := (Below.heap_setCell w ⟨b, 6, none⟩ _ c hbc).trans hC
  have F2 := Fr.set (w := w.setCell ⟨b, 6, none⟩ (.pointer (pa ml))) e2 5 (.pointer (some ⟨b, 0, none⟩))
  have e3 : ((w.setCell ⟨b, 6, none⟩ (.pointer (pa ml))).setCell ⟨c, 5, none⟩ (.pointer (some ⟨b, 0, none⟩))).heap[c]? = some (nodeObj k' n' s' sl' i' (some b) rp h') := node_setL e2 (some b)
  have e4 : ((w.setCell ⟨b, 6, none⟩ (.pointer (pa ml))).setCell ⟨c, 5, none⟩ (.pointer (some ⟨b, 0, none⟩))).heap[b]? = some (nodeObj k n s sl i lp ml h) := (Below.heap_setCell _ ⟨c, 5, none⟩ _ b (Ne.symm hbc)).trans e1
  have F3 := F1.trans F2
  have fc' : (w.setCell ⟨b, 6, none⟩ (.pointer (pa ml))).frozen? ⟨c, 5, none⟩ = false := node_free e2 5
  have g5 : (w.setCell ⟨b, 6, none⟩ (.pointer (pa ml))).cell? ⟨c, 5, none⟩ = some (.pointer (pa ml)) := (node_cells e2).2.1
  have q : ∀ p, NotAt p b ∧ NotAt p c → ∀ x, p = some x → ¬ (x = b ∨ x = c) := fun p hp x hx hor => hor.elim (hp.1 x hx) (hp.2 x hx)
  have T1 := Lib.hid (tl.fr F3 (q _ al))
  have T2 := Lib.hid (tm.fr F3 (q _ am))
  have T3 := Lib.hid (tr.fr F3 (q _ ar))
  have NB : Hid (∀ x, (x = b ∨ x = c) → x < w.heap.size → ∃ arr fr, w.heap[x]? = some (.cells arr 68 fr)) := fun x hx _ => hx.elim (fun e => e ▸ ⟨_, _, hN⟩) (fun e => e ▸ ⟨_, _, hC⟩)
  have HF := Lib.hid (F3.mono (T := fun x => x = b ∨ x = c) (fun _ _ h => h) NB.out)
  have E3 := Lib.hid e3
  have E4 := Lib.hid e4
  have HC := Lib.hid hC
  have HS := Lib.hid (show ((w.setCell ⟨b, 6, none⟩ (.pointer (pa ml))).setCell ⟨c, 5, none⟩ (.pointer (some ⟨b, 0, none⟩))).heap.size = w.heap.size by simp [World.setCell])
  clear q F1 F2 F3 e1 e2 e3 e4 hN hC tl tm tr
  go_enter Tryd.func62, Tryd.ntmps62
  go_wp2_with fail
  refine (measure_any E4.out T1.out T2.out ⟨hl0.1, by omega⟩ ⟨hm0.1, by omega⟩).mono ?_
  rintro e w1 ⟨rfl, n1, f1, s1⟩
  have T4 := Lib.hid (T3.out.fr f1 (fun x hx => ar.1 x hx))
  have N1 := Lib.hid n1
  have C1 := Lib.hid ((f1.block c (lt_of_block E3.out) hbc).trans E3.out)
  have TB : Hid (Tall w1 (some b) (1 + max hl hm)) := .inr ⟨b, rfl, (node_cells n1).2.2.2⟩
  have F4 := Lib.hid (HF.out.trans f1)
  have S1 := Lib.hid (s1.trans HS.out)
  clear n1 f1 s1
  go_wp2_with fail
  refine (measure_any C1.out TB.out T4.out ⟨by omega, by omega⟩ ⟨hr0.1, by omega⟩).mono ?_
  rintro e w2 ⟨rfl, n2, f2, s2⟩
  have R := Lib.hid (show w2.heap[b]? = some (nodeObj k n s sl i lp ml (1 + max hl hm)) from (f2.block b (lt_of_block N1.out) (Ne.symm hbc)).trans N1.out)
  have N2 := Lib.hid n2
  have F5 := Lib.hid (F4.out.trans f2)
  have S2 := Lib.hid (s2.trans S1.out)
  clear n2 f2 s2
  go_wp2_with fail
  go_ret
  refine ⟨rfl, R.out, N2.out, F5.out.mono (fun x _ hx => ?_) NB.out, S2.out⟩
  rcases hx with (hx | hx) | hx
  · exact hx
  · exact .inl hx
  · exact .inr hx
set_option maxHeartbeats 400000 in
theorem turnRight_any {w : World} {b c : Nat} {k n k' n' : Int} {s s' : ByteArray} {sl sl' : Value} {i i' : Int} {lp ml rp : Option Nat} {h h' hl hm hr : Int} (hN : w.heap[b]? = some (nodeObj k n s sl i (some c) rp h)) (hC : w.heap[c]? = some (nodeObj k' n' s' sl' i' lp ml h')) (hbc : c ≠ b)
    (tl : Tall w lp hl) (tm : Tall w ml hm) (tr : Tall w rp hr) (hl0 : 0 ≤ hl ∧ hl < 10000) (hm0 : 0 ≤ hm ∧ hm < 10000) (hr0 : 0 ≤ hr ∧ hr < 10000) (al : NotAt lp b ∧ NotAt lp c) (am : NotAt ml b ∧ NotAt ml c) (ar : NotAt rp b ∧ NotAt rp c) :
    Calls Tryd.prog 63 #[.pointer (some ⟨b, 0, none⟩)] w fun e w' => e = .returned (.pointer (some ⟨c, 0, none⟩)) ∧ w'.heap[b]? = some (nodeObj k n s sl i ml rp (1 + max hm hr)) ∧ w'.heap[c]? = some (nodeObj k' n' s' sl' i' lp (some b) (1 + max hl (1 + max hm hr))) ∧ Fr (fun x => x = b ∨ x = c) w w' ∧ w'.heap.size = w.heap.size := by
  obtain ⟨⟨c0, c1, c2, c3, c4⟩, c5', c6, c7⟩ := node_cells hN
  obtain ⟨⟨d0, d1, d2, d3, d4⟩, d5, d6, d7⟩ := node_cells hC
  have c5 : w.cell? ⟨b, 5, none⟩ = some (.pointer (some ⟨c, 0, none⟩)) := c5'
  clear c5'
  have fb := node_free hN 5
  have fc := node_free hC 6
  have F1 := Fr.set (w := w) hN 5 (.pointer (pa ml))
  have e1 := node_setL hN ml
  have e2 : (w.setCell ⟨b, 5, none⟩ (.pointer (pa ml))).heap[c]? = some (nodeObj k' n' s' sl' i' lp ml h') := (Below.heap_setCell w ⟨b, 5, none⟩ _ c hbc).trans hC
  have F2 := Fr.set (w := w.setCell ⟨b, 5, none⟩ (.pointer (pa ml))) e2 6 (.pointer (some ⟨b, 0, none⟩))
  have e3 : ((w.setCell ⟨b, 5, none⟩ (.pointer (pa ml))).setCell ⟨c, 6, none⟩ (.pointer (some ⟨b, 0, none⟩))).heap[c]? = some (nodeObj k' n' s' sl' i' lp (some b) h') := node_setR e2 (some b)
  have e4 : ((w.setCell ⟨b, 5, none⟩ (.pointer (pa ml))).setCell ⟨c, 6, none⟩ (.pointer (some ⟨b, 0, none⟩))).heap[b]? = some (nodeObj k n s sl i ml rp h) := (Below.heap_setCell _ ⟨c, 6, none⟩ _ b (Ne.symm hbc)).trans e1
  have F3 := F1.trans F2
  have fc' : (w.setCell ⟨b, 5, none⟩ (.pointer (pa ml))).frozen? ⟨c, 6, none⟩ = false := node_free e2 6
  have g5 : (w.setCell ⟨b, 5, none⟩ (.pointer (pa ml))).cell? ⟨c, 6, none⟩ = some (.pointer (pa ml)) := (node_cells e2).2.2.1
  have q : ∀ p, NotAt p b ∧ NotAt p c → ∀ x, p = some x → ¬ (x = b ∨ x = c) := fun p hp x hx hor => hor.elim (hp.1 x hx) (hp.2 x hx)
  have T1 := Lib.hid (tl.fr F3 (q _ al))
  have T2 := Lib.hid (tm.fr F3 (q _ am))
  have T3 := Lib.hid (tr.fr F3 (q _ ar))
  have NB : Hid (∀ x, (x = b ∨ x = c) → x < w.heap.size → ∃ arr fr, w.heap[x]? = some (.cells arr 68 fr)) := fun x hx _ => hx.elim (fun e => e ▸ ⟨_, _, hN⟩) (fun e => e ▸ ⟨_, _, hC⟩)
  have HF := Lib.hid (F3.mono (T := fun x => x = b ∨ x = c) (fun _ _ h => h) NB.out)
  have E3 := Lib.hid e3
  have E4 := Lib.hid e4
  have HC := Lib.hid hC
  have HS := Lib.hid (show ((w.setCell ⟨b, 5, none⟩ (.pointer (pa ml))).setCell ⟨c, 6, none⟩ (.pointer (some ⟨b, 0, none⟩))).heap.size = w.heap.size by simp [World.setCell])
  clear q F1 F2 F3 e1 e2 e3 e4 hN hC tl tm tr
  go_enter Tryd.func63, Tryd.ntmps63
  go_wp2_with fail
  refine (measure_any E4.out T2.out T3.out ⟨hm0.1, by omega⟩ ⟨hr0.1, by omega⟩).mono ?_
  rintro e w1 ⟨rfl, n1, f1, s1⟩
  have T4 := Lib.hid (T1.out.fr f1 (fun x hx => al.1 x hx))
  have N1 := Lib.hid n1
  have C1 := Lib.hid ((f1.block c (lt_of_block E3.out) hbc).trans E3.out)
  have TB : Hid (Tall w1 (some b) (1 + max hm hr)) := .inr ⟨b, rfl, (node_cells n1).2.2.2⟩
  have F4 := Lib.hid (HF.out.trans f1)
  have S1 := Lib.hid (s1.trans HS.out)
  clear n1 f1 s1
  go_wp2_with fail
  refine (measure_any C1.out T4.out TB.out ⟨hl0.1, by omega⟩ ⟨by omega, by omega⟩).mono ?_
  rintro e w2 ⟨rfl, n2, f2, s2⟩
  have R := Lib.hid (show w2.heap[b]? = some (nodeObj k n s sl i ml rp (1 + max hm hr)) from (f2.block b (lt_of_block N1.out) (Ne.symm hbc)).trans N1.out)
  have N2 := Lib.hid n2
  have F5 := Lib.hid (F4.out.trans f2)
  have S2 := Lib.hid (s2.trans S1.out)
  clear n2 f2 s2
  go_wp2_with fail
  go_ret
  refine ⟨rfl, R.out, N2.out, F5.out.mono (fun x _ hx => ?_) NB.out, S2.out⟩
  rcases hx with (hx | hx) | hx
  · exact hx
  · exact .inl hx
  · exact .inr hx
end Go.Proofs.YtifaaacbbjlffaaDoor
