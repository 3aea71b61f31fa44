/- The contracts of the reference's Order and Compare: they tell what val.Compare tells. -/
import Derived.Test.YtifaaacbbjlffaaDoorIdxCopied
namespace Go.Proofs.YtifaaacbbjlffaaDoor
open Go.RowKit Mor

theorem refOrder (a b : Int) (w : World) : Calls Tryd.prog 50 #[.int .i64 a, .int .i64 b] w fun e w' => e = .returned (.int .i64 (ordI a b)) ∧ w = w' := by
  by_cases h1 : a < b
  · have H := Lib.hid (show ordI a b = -1 by simp [ordI, h1])
    go_enter Tryd.func50, Tryd.ntmps50
    go_wp2
    go_ret
    rw [H.out]
    exact ⟨rfl, rfl⟩
  · by_cases h2 : b < a
    · have H := Lib.hid (show ordI a b = 1 by simp [ordI, h1, h2])
      go_enter Tryd.func50, Tryd.ntmps50
      go_wp2
      go_ret
      rw [H.out]
      exact ⟨rfl, rfl⟩
    · have H := Lib.hid (show ordI a b = 0 by simp [ordI, h1, h2])
      go_enter Tryd.func50, Tryd.ntmps50
      go_wp2
      go_ret
      rw [H.out]
      exact ⟨rfl, rfl⟩

theorem less_l (s t : ByteArray) : Op.bytesLess s.toList t.toList = decide (ordS s.data.toList t.data.toList = -1) := by rw [Lib.toList_data, Lib.toList_data, less_iff]
theorem same_s (s t : ByteArray) : (s.toList == t.toList) = decide (ordS s.data.toList t.data.toList = 0) := by
  rw [Lib.toList_data, Lib.toList_data, Bool.eq_iff_iff, beq_iff_eq, decide_eq_true_eq, ordS_zero]

set_option maxHeartbeats 1000000 in
theorem refCompare_head (k n k' n' : Int) (s s' : ByteArray) (sl sr : Value) (isl : ∃ a l c, sl = .slice a l c) (isr : ∃ a l c, sr = .slice a l c) (w : World)
    (hne : fst3 (ordI k k') (ordI n n') (ordS s.data.toList s'.data.toList) ≠ 0) :
    Calls Tryd.prog 34 #[.agg #[.int .i64 k, .int .i64 n, .string s, sl], .agg #[.int .i64 k', .int .i64 n', .string s', sr]] w fun e w' =>
      e = .returned (.int .i64 (fst3 (ordI k k') (ordI n n') (ordS s.data.toList s'.data.toList))) ∧ Below w.heap.size w w' := by
  obtain ⟨la, ll, lc, rfl⟩ := isl
  obtain ⟨ra, rl, rc, rfl⟩ := isr
  have hb : ∀ a b : Obj, Below w.heap.size w ((w.alloc a).alloc b) := fun a b => ((Below.refl _ w).alloc (Nat.le_refl _) _).alloc (by simp) _
  have HB := Lib.hid hb
  clear hb
  have z1 := less_l s s'
  have z2 := same_s s s'
  generalize hz : ordS s.data.toList s'.data.toList = z at *
  generalize hx : ordI k k' = x at *
  generalize hy : ordI n n' = y at *
  have h3 : z = -1 ∨ z = 0 ∨ z = 1 := hz ▸ ordS_three _ _
  by_cases h1 : x = 0
  · by_cases h2 : y = 0
    · rcases h3 with h3 | h3 | h3
      · have H := Lib.hid (show fst3 x y z = -1 by simp [fst3, h1, h2, h3])
        have y1 : Op.bytesLess s.toList s'.toList = true := by rw [z1, h3]; rfl
        have y2 : (s.toList == s'.toList) = false := by rw [z2, h3]; rfl
        rw [H.out]
        subst h1 h2
        clear H h3 z1 z2 hne hz
        go_enter Tryd.func34, Tryd.ntmps34
        go_wp2_with (go_at_call 50; refine (refOrder _ _ _).mono ?_; rintro e w' ⟨rfl, rfl⟩)
        refine wp_loop_rounds 1 ?_
        rw [rounds_succ]
        go_wp2
        go_ret
        exact ⟨rfl, HB.out _ _⟩
      · exact absurd (by simp [fst3, h1, h2, h3]) hne
      · have H := Lib.hid (show fst3 x y z = 1 by simp [fst3, h1, h2, h3])
        have y1 : Op.bytesLess s.toList s'.toList = false := by rw [z1, h3]; rfl
        have y2 : (s.toList == s'.toList) = false := by rw [z2, h3]; rfl
        rw [H.out]
        subst h1 h2
        clear H h3 z1 z2 hne hz
        go_enter Tryd.func34, Tryd.ntmps34
        go_wp2_with (go_at_call 50; refine (refOrder _ _ _).mono ?_; rintro e w' ⟨rfl, rfl⟩)
        refine wp_loop_rounds 1 ?_
        rw [rounds_succ]
        go_wp2
        go_ret
        exact ⟨rfl, HB.out _ _⟩
    · have H := Lib.hid (show fst3 x y z = y by simp [fst3, h1, h2])
      have hb : (y == 0) = false := beq_eq_false_iff_ne.2 h2
      rw [H.out]
      subst h1
      clear H h2 h3 z1 z2 hne hz
      go_enter Tryd.func34, Tryd.ntmps34
      go_wp2_with (go_at_call 50; refine (refOrder _ _ _).mono ?_; rintro e w' ⟨rfl, rfl⟩)
      refine wp_loop_rounds 1 ?_
      rw [rounds_succ]
      go_wp2
      go_ret
      exact ⟨rfl, HB.out _ _⟩
  · have H := Lib.hid (show fst3 x y z = x by simp [fst3, h1])
    have hb : (x == 0) = false := beq_eq_false_iff_ne.2 h1
    rw [H.out]
    clear H h1 z1 z2 hne
    go_enter Tryd.func34, Tryd.ntmps34
    go_wp2_with (go_at_call 50; refine (refOrder _ _ _).mono ?_; rintro e w' ⟨rfl, rfl⟩)
    refine wp_loop_rounds 1 ?_
    rw [rounds_succ]
    go_wp2
    go_ret
    exact ⟨rfl, HB.out _ _⟩

/-- a list of values without lists, nil or not -/
def IsLs (w : World) (a : Option Addr) (l : List Pv) : Prop := ∀ i p, l[i]? = some p → ∃ b o, a = some ⟨b, o, none⟩ ∧ PvAt w b (o + i * 4) p
theorem IsL.ls {w : World} {sl : Value} {l : List Pv} (h : IsL w sl l) : ∃ a c, sl = .slice a l.length c ∧ l.length < 1000000 ∧ IsLs w a l := by
  rcases h with ⟨rfl, rfl⟩ | ⟨_, h2, b, o, c, rfl, h4⟩
  · exact ⟨none, 0, rfl, by simp, fun i p h => by simp at h⟩
  · exact ⟨_, _, rfl, h2, fun i p h => ⟨b, o, rfl, h4 i p h⟩⟩

theorem ls_at {w : World} {a : Option Addr} {l : List Pv} {k : Nat} (h : IsLs w a l) (hk : k < l.length) : ∃ p b o, l[k]? = some p ∧ a = some ⟨b, o, none⟩ ∧ PvAt w b (o + k * 4) p := by
  obtain ⟨b, o, e, hp⟩ := h k _ (List.getElem?_eq_getElem hk)
  exact ⟨_, b, o, List.getElem?_eq_getElem hk, e, hp⟩
theorem cmpL_out (l r : List Pv) (x : Int) (k : Nat) (h : cmpL l r = if x ≠ 0 then x else cmpL (l.drop k) (r.drop k)) (hx : x ≠ 0) : cmpL l r = x := by rw [h, if_pos hx]
theorem PvAt.lt {w : World} {b o : Nat} {p : Pv} (h : PvAt w b o p) : b < w.heap.size := by
  obtain ⟨q, hq, _⟩ := cells_of_cell h.k
  exact lt_of_block hq
theorem PvAt.belowB {B : Nat} {w w' : World} {b o : Nat} {p : Pv} (h : PvAt w b o p) (hB : Below B w w') (hb : b < B) : PvAt w' b o p :=
  ⟨(hB.cell (p := ⟨b, o, none⟩) hb).trans h.k, (hB.cell (p := ⟨b, o + 1, none⟩) hb).trans h.n, (hB.cell (p := ⟨b, o + 1 + 1, none⟩) hb).trans h.s, (hB.cell (p := ⟨b, o + 1 + 1 + 1, none⟩) hb).trans h.l⟩

set_option maxHeartbeats 2000000 in
theorem refCompare_list (l r : List Pv) (k n k' n' : Int) (s s' : ByteArray) (a a' : Option Addr) (c c' : Nat) (w : World) (hl63 : l.length < 1000000) (hl : IsLs w a l) (hr : IsLs w a' r)
    (hrec : l ≠ [] → ∀ (p q : Pv) (W : World), Calls Tryd.prog 34 #[encP p, encP q] W fun e w' => e = .returned (.int .i64 (cmpP p q)) ∧ Below W.heap.size W w')
    (he : fst3 (ordI k k') (ordI n n') (ordS s.data.toList s'.data.toList) = 0) :
    Calls Tryd.prog 34 #[.agg #[.int .i64 k, .int .i64 n, .string s, .slice a l.length c], .agg #[.int .i64 k', .int .i64 n', .string s', .slice a' r.length c']] w fun e w' =>
      e = .returned (.int .i64 (cmpL l r)) ∧ Below w.heap.size w w' := by
  have HB := Lib.hid (fun a b : Obj => ((Below.refl w.heap.size w).alloc (Nat.le_refl _) a).alloc (by simp) b)
  have HL := Lib.hid hl
  have HR := Lib.hid hr
  have HREC := Lib.hid hrec
  clear hl hr hrec
  have hx : ordI k k' = 0 := by unfold fst3 at he; split at he <;> omega
  have hy : ordI n n' = 0 := by unfold fst3 at he; split at he <;> (try split at he) <;> omega
  have hz : ordS s.data.toList s'.data.toList = 0 := by unfold fst3 at he; split at he <;> (try split at he) <;> omega
  have y1 : Op.bytesLess s.toList s'.toList = false := by rw [less_l, hz]; rfl
  have y2 : (s.toList == s'.toList) = true := by rw [same_s, hz]; rfl
  clear he hz
  go_enter Tryd.func34, Tryd.ntmps34
  go_wp2_with (go_at_call 50; refine (refOrder _ _ _).mono ?_; rintro e w' ⟨rfl, rfl⟩)
  clear hx hy y1 y2
  go_loopw [5, 6] (fun cc i wr => ∃ (j : Nat) (x : Int), j ≤ l.length ∧ j ≤ r.length ∧ cc = .int .i64 x ∧ i = .int .i64 j ∧ Hid (cmpL l r = if x ≠ 0 then x else cmpL (l.drop j) (r.drop j)) ∧ Below (w.heap.size + 1 + 1) ((w.alloc (valObj ⟨k, n, s, []⟩ (.slice a l.length c))).alloc (valObj ⟨k', n', s', []⟩ (.slice a' r.length c'))) wr) (fun _ i _ => l.length - (intOf i).toNat)
  case atStart => exact ⟨0, 0, by omega, by omega, rfl, rfl, rfl, Below.refl _ _⟩
  case round =>
    obtain ⟨j, x, hj1, hj2, rfl, rfl, HC, hB⟩ := hrel
    have hz0 := hB.size
    have hsz : w.heap.size + 2 ≤ wr.heap.size := by simpa using hz0
    clear hz0
    have va : wr.heap[w.heap.size]? = some (valObj ⟨k, n, s, []⟩ (.slice a l.length c)) := (hB.block _ (by omega)).trans ((Below.heap_alloc _ _ _ (by simp)).trans (new_block w _ _ rfl))
    have vb : wr.heap[w.heap.size + 1]? = some (valObj ⟨k', n', s', []⟩ (.slice a' r.length c')) := (hB.block _ (by omega)).trans (new_block _ _ _ (by simp))
    obtain ⟨_, _, _, a3⟩ := val_cells va
    obtain ⟨_, _, _, b3⟩ := val_cells vb
    clear va vb
    have HBw : Hid (Below w.heap.size w wr) := (HB.out _ _).trans (hB.mono (by omega))
    have HBr := Lib.hid hB
    clear hB
    by_cases hx : x = 0
    · subst hx
      by_cases h1 : j < l.length
      · by_cases h2 : j < r.length
        · obtain ⟨p, b, o, hp, rfl, f0⟩ := ls_at HL.out h1
          obtain ⟨q, b', o', hq, rfl, g0⟩ := ls_at HR.out h2
          have HD := Lib.hid (cmpL_drop l r j p q hp hq)
          have hne : l ≠ [] := by intro e; rw [e] at h1; simp at h1
          replace f0 := f0.belowB HBw.out f0.lt
          replace g0 := g0.belowB HBw.out g0.lt
          have f1 := f0.k
          have f2 := f0.n
          have f3 := f0.s
          have f4 := f0.l
          have g1 := g0.k
          have g2 := g0.n
          have g3 := g0.s
          have g4 := g0.l
          have i1 : (0 : Int) ≤ (j : Int) := by omega
          have i2 : (j : Int) < (l.length : Int) := by omega
          have i3 : (j : Int) < (r.length : Int) := by omega
          clear hp hq f0 g0
          go_wp2_with fail
          refine wp_still_tail 10 (by kernel_rfl) (by kernel_rfl) ?_
          simp only [List.take_succ_cons, List.take_zero, List.drop_succ_cons, List.drop_zero]
          repeat still_step
          refine wpStill_nil ?_
          go_wp2_with fail
          refine (HREC.out hne p q _).mono ?_
          rintro e w' ⟨rfl, hX⟩
          have HX := Lib.hid hX
          clear hX
          go_wp2_with fail
          go_roundw
          case rel => exact ⟨j + 1, cmpP p q, by omega, by omega, rfl, by go_num, HC.out.trans (by rw [if_neg (by decide)]; exact HD.out), HBr.out.trans ((Below.refl _ _).drew.trans (HX.out.mono hsz))⟩
          case measure => simp [intOf]; omega
        · have HE := Lib.hid (cmpL_end l r j (by omega))
          go_wp2_with (go_at_call 50; refine (refOrder _ _ _).mono ?_; rintro e w' ⟨rfl, rfl⟩)
          go_ret
          rw [HC.out, if_neg (by decide), HE.out]
          exact ⟨rfl, HBw.out⟩
      · have HE := Lib.hid (cmpL_end l r j (by omega))
        go_wp2_with (go_at_call 50; refine (refOrder _ _ _).mono ?_; rintro e w' ⟨rfl, rfl⟩)
        go_ret
        rw [HC.out, if_neg (by decide), HE.out]
        exact ⟨rfl, HBw.out⟩
    · have hxb : (x == 0) = false := beq_eq_false_iff_ne.2 hx
      have HX := Lib.hid (cmpL_out l r x j HC.out hx)
      clear hx
      go_wp2_with fail
      go_ret
      rw [HX.out]
      exact ⟨rfl, HBw.out⟩

theorem refCompareP (p q : Pv) (w : World) : Calls Tryd.prog 34 #[encP p, encP q] w fun e w' => e = .returned (.int .i64 (cmpP p q)) ∧ Below w.heap.size w w' := by
  by_cases h : fst3 (ordI p.k q.k) (ordI p.n q.n) (ordS p.s.data.toList q.s.data.toList) = 0
  · have e : cmpP p q = cmpL [] [] := h
    rw [e]
    exact refCompare_list [] [] p.k p.n q.k q.n p.s q.s none none 0 0 w (by decide) (fun i x hx => by simp at hx) (fun i x hx => by simp at hx) (fun h => absurd rfl h) h
  · exact refCompare_head p.k p.n q.k q.n p.s q.s _ _ ⟨_, _, _, rfl⟩ ⟨_, _, _, rfl⟩ w h
theorem refCompare_any (V U : Vl) (v u : Value) (w : World) (hv : IsV w v V) (hu : IsV w u U) : Calls Tryd.prog 34 #[v, u] w fun e w' => e = .returned (.int .i64 (cmpV V U)) ∧ Below w.heap.size w w' := by
  obtain ⟨sl, rfl, hl⟩ := hv
  obtain ⟨sr, rfl, hr⟩ := hu
  unfold cmpV
  by_cases h : fst3 (ordI V.k U.k) (ordI V.n U.n) (ordS V.s.data.toList U.s.data.toList) = 0
  · rw [if_neg (by simpa using h)]
    obtain ⟨a, c, rfl, h1, h2⟩ := hl.ls
    obtain ⟨a', c', rfl, k1, k2⟩ := hr.ls
    exact refCompare_list V.l U.l V.k V.n U.k U.n V.s U.s a a' c c' w h1 h2 k2 (fun _ => refCompareP) h
  · rw [if_pos h]
    exact refCompare_head V.k V.n U.k U.n V.s U.s sl sr hl.slice hr.slice w h
end Go.Proofs.YtifaaacbbjlffaaDoor
