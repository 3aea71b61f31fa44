/- The contract of val.byItems at lists of values without lists. -/
import Derived.Test.YtifaaacbbjlffaaDoorValCompare
namespace Go.Proofs.YtifaaacbbjlffaaDoor
open Go.RowKit Mor

/-- the cells of one value without a list -/
structure PvAt (w : World) (b o : Nat) (p : Pv) : Prop where
  k : w.cell? ⟨b, o, none⟩ = some (.int .i64 p.k)
  n : w.cell? ⟨b, o + 1, none⟩ = some (.int .i64 p.n)
  s : w.cell? ⟨b, o + 1 + 1, none⟩ = some (.string p.s)
  l : w.cell? ⟨b, o + 1 + 1 + 1, none⟩ = some (.slice none 0 0)

theorem compareP (p q : Pv) (w : World) : Calls Tryd.prog 20 #[encP p, encP q] w fun e w' => e = .returned (.int .i64 (cmpP p q)) ∧ Below w.heap.size w w' :=
  (compare_of p.k p.n q.k q.n p.s q.s _ _ ⟨_, _, _, rfl⟩ ⟨_, _, _, rfl⟩ 0 w (fun W _ => (byItems_nil W).mono fun e w' ⟨h1, h2⟩ => ⟨h1, h2 ▸ Below.refl _ _⟩)).mono fun e w' ⟨h1, h2⟩ => ⟨by
    rw [h1]
    unfold cmpP
    split
    · rfl
    · rename_i h; simp only [ne_eq, Decidable.not_not] at h; rw [h], h2⟩

theorem PvAt.below {w w' : World} {b o : Nat} {p : Pv} (h : PvAt w b o p) (hB : Below w.heap.size w w') : PvAt w' b o p := by
  have hb : b < w.heap.size := by
    obtain ⟨o', ho, _⟩ := cells_of_cell h.k
    exact (Array.getElem?_eq_some_iff.1 ho).1
  exact ⟨(hB.cell (p := ⟨b, o, none⟩) hb).trans h.k, (hB.cell (p := ⟨b, o + 1, none⟩) hb).trans h.n, (hB.cell (p := ⟨b, o + 1 + 1, none⟩) hb).trans h.s, (hB.cell (p := ⟨b, o + 1 + 1 + 1, none⟩) hb).trans h.l⟩

theorem cmpL_drop (l r : List Pv) (k : Nat) (p q : Pv) (hp : l[k]? = some p) (hq : r[k]? = some q) : cmpL (l.drop k) (r.drop k) = if cmpP p q ≠ 0 then cmpP p q else cmpL (l.drop (k + 1)) (r.drop (k + 1)) := by
  obtain ⟨h1, rfl⟩ := List.getElem?_eq_some_iff.1 hp
  obtain ⟨h2, rfl⟩ := List.getElem?_eq_some_iff.1 hq
  rw [List.drop_eq_getElem_cons h1, List.drop_eq_getElem_cons h2, cmpL]
theorem cmpL_end (l r : List Pv) (k : Nat) (h : k = min l.length r.length) : cmpL (l.drop k) (r.drop k) = ordI l.length r.length := by
  by_cases h1 : l.length < r.length
  · have e1 : l.drop k = [] := List.drop_eq_nil_of_le (by omega)
    have e2 : r.drop k ≠ [] := by intro e; have := congrArg List.length e; simp at this; omega
    rw [e1]
    cases hr : r.drop k with
    | nil => exact absurd hr e2
    | cons x y => unfold ordI; rw [if_pos (by omega)]; rfl
  · by_cases h2 : r.length < l.length
    · have e1 : r.drop k = [] := List.drop_eq_nil_of_le (by omega)
      have e2 : l.drop k ≠ [] := by intro e; have := congrArg List.length e; simp at this; omega
      rw [e1]
      cases hr : l.drop k with
      | nil => exact absurd hr e2
      | cons x y => unfold ordI; rw [if_neg (by omega), if_pos (by omega)]; rfl
    · have e1 : r.drop k = [] := List.drop_eq_nil_of_le (by omega)
      have e2 : l.drop k = [] := List.drop_eq_nil_of_le (by omega)
      rw [e1, e2]
      unfold ordI
      rw [if_neg (by omega), if_neg (by omega)]
      rfl

set_option maxHeartbeats 1000000 in
theorem byItems_some (l r : List Pv) (b o c b' o' c' : Nat) (w : World) (hl : ∀ i p, l[i]? = some p → PvAt w b (o + i * 4) p) (hr : ∀ i p, r[i]? = some p → PvAt w b' (o' + i * 4) p) (hl63 : l.length < 1000000) :
    Calls Tryd.prog 37 #[.slice (some ⟨b, o, none⟩) l.length c, .slice (some ⟨b', o', none⟩) r.length c', .func (.func 20) #[] #[]] w fun e w' => e = .returned (.int .i64 (cmpL l r)) ∧ Below w.heap.size w w' := by
  obtain ⟨m, e1⟩ : ∃ m : Nat, (if r.length < l.length then (r.length : Int) else (l.length : Int)) = (m : Int) := ⟨min l.length r.length, by split <;> omega⟩
  have hm := Lib.hid (show m = min l.length r.length by split at e1 <;> omega)
  have hm1 : m ≤ l.length := by have := hm.out; omega
  have hm2 : m ≤ r.length := by have := hm.out; omega
  have HL := Lib.hid hl
  have HR := Lib.hid hr
  clear hl hr
  go_enter Tryd.func37, Tryd.ntmps37
  go_wp2
  go_loopw [14] (fun i wr => ∃ k : Nat, k ≤ m ∧ i = .int .i64 k ∧ Hid (cmpL l r = cmpL (l.drop k) (r.drop k)) ∧ Below w.heap.size w wr) (fun i _ => m - (intOf i).toNat)
  case atStart => exact ⟨0, by omega, rfl, rfl, Below.refl _ _⟩
  case round =>
    obtain ⟨k, hk, rfl, HC, hB⟩ := hrel
    by_cases hlt : k < m
    · have hk1 : k < l.length := by omega
      have hk2 : k < r.length := by omega
      obtain ⟨p, hp⟩ : ∃ p, l[k]? = some p := ⟨_, List.getElem?_eq_getElem hk1⟩
      obtain ⟨q, hq⟩ : ∃ q, r[k]? = some q := ⟨_, List.getElem?_eq_getElem hk2⟩
      have HD := Lib.hid (cmpL_drop l r k p q hp hq)
      have f0 := (HL.out k p hp).below hB
      have g0 := (HR.out k q hq).below hB
      have f1 := f0.k
      have f2 := f0.n
      have f3 := f0.s
      have f4 := f0.l
      have g1 := g0.k
      have g2 := g0.n
      have g3 := g0.s
      have g4 := g0.l
      have i1 : (0 : Int) ≤ (k : Int) := by omega
      have i2 : (k : Int) < (l.length : Int) := by omega
      have i3 : (k : Int) < (r.length : Int) := by omega
      clear hp hq f0 g0
      go_wp2
      refine wp_still_tail 9 (by kernel_rfl) (by kernel_rfl) ?_
      simp only [List.take_succ_cons, List.take_zero, List.drop_succ_cons, List.drop_zero]
      repeat still_step
      refine wpStill_nil ?_
      by_cases hz : cmpP p q = 0
      · have hzb : (cmpP p q != 0) = false := by rw [hz]; rfl
        have HZ := Lib.hid hz
        clear hz
        go_wp2_with (go_at_call 20; refine (compareP p q _).mono ?_; rintro e w' ⟨rfl, hX⟩)
        go_roundw
        case rel => exact ⟨k + 1, by omega, by go_num, HC.out.trans (by rw [HD.out, HZ.out]; rfl), hB.trans ((Below.refl _ _).drew.trans (hX.mono hB.size))⟩
        case measure => simp [intOf]; omega
      · have hzb : (cmpP p q != 0) = true := by rw [bne_iff_ne]; exact hz
        have HZ := Lib.hid hz
        clear hz
        go_wp2_with (go_at_call 20; refine (compareP p q _).mono ?_; rintro e w' ⟨rfl, hX⟩)
        go_ret
        rw [HC.out, HD.out, if_pos HZ.out]
        exact ⟨rfl, hB.trans ((Below.refl _ _).drew.trans (hX.mono hB.size))⟩
    · have HE := Lib.hid (cmpL_end l r k (by have := hm.out; omega))
      go_wp2_with (go_at_call 35; refine (cmpInt _ _ _).mono ?_; rintro e w' ⟨rfl, rfl⟩)
      go_ret
      rw [HC.out, HE.out]
      exact ⟨rfl, hB⟩

set_option maxHeartbeats 400000 in
theorem byItems_nilL (a : Option Addr) (n c : Nat) (w : World) : Calls Tryd.prog 37 #[.slice none 0 0, .slice a n c, .func (.func 20) #[] #[]] w fun e w' => e = .returned (.int .i64 (ordI 0 n)) ∧ w = w' := by
  have e1 : ¬ (n : Int) < 0 := by omega
  go_enter Tryd.func37, Tryd.ntmps37
  go_wp2
  refine wp_loop_rounds 1 ?_
  rw [rounds_succ]
  go_wp2_with (go_at_call 35; refine (cmpInt _ _ _).mono ?_; rintro e w' ⟨rfl, rfl⟩)
  go_ret
  exact ⟨rfl, rfl⟩

set_option maxHeartbeats 400000 in
theorem byItems_nilR (a : Option Addr) (n c : Nat) (hn : 0 < n) (w : World) : Calls Tryd.prog 37 #[.slice a n c, .slice none 0 0, .func (.func 20) #[] #[]] w fun e w' => e = .returned (.int .i64 (ordI n 0)) ∧ w = w' := by
  have e1 : (0 : Int) < (n : Int) := by omega
  go_enter Tryd.func37, Tryd.ntmps37
  go_wp2
  refine wp_loop_rounds 1 ?_
  rw [rounds_succ]
  go_wp2_with (go_at_call 35; refine (cmpInt _ _ _).mono ?_; rintro e w' ⟨rfl, rfl⟩)
  go_ret
  exact ⟨rfl, rfl⟩

/-- a list of values without lists, as the program holds it -/
def IsL (w : World) (sl : Value) (l : List Pv) : Prop :=
  (l = [] ∧ sl = .slice none 0 0) ∨ (l ≠ [] ∧ l.length < 1000000 ∧ ∃ b o c, sl = .slice (some ⟨b, o, none⟩) l.length c ∧ ∀ i p, l[i]? = some p → PvAt w b (o + i * 4) p)
theorem IsL.slice {w : World} {sl : Value} {l : List Pv} (h : IsL w sl l) : ∃ a n c, sl = .slice a n c := by
  rcases h with ⟨_, rfl⟩ | ⟨_, _, b, o, c, rfl, _⟩
  · exact ⟨_, _, _, rfl⟩
  · exact ⟨_, _, _, rfl⟩
theorem IsL.below {w w' : World} {sl : Value} {l : List Pv} (h : IsL w sl l) (hB : Below w.heap.size w w') : IsL w' sl l := by
  rcases h with h | ⟨h1, h2, b, o, c, h3, h4⟩
  · exact .inl h
  · exact .inr ⟨h1, h2, b, o, c, h3, fun i p hp => (h4 i p hp).below hB⟩

theorem byItems_any (l r : List Pv) (sl sr : Value) (w : World) (hl : IsL w sl l) (hr : IsL w sr r) :
    Calls Tryd.prog 37 #[sl, sr, .func (.func 20) #[] #[]] w fun e w' => e = .returned (.int .i64 (cmpL l r)) ∧ Below w.heap.size w w' := by
  rcases hl with ⟨rfl, rfl⟩ | ⟨h1, h2, b, o, c, rfl, h4⟩
  · obtain ⟨a, n, c, hs⟩ := hr.slice
    have hn : r.length = n := by
      rcases hr with ⟨rfl, h⟩ | ⟨_, _, b, o, c', h, _⟩
      · rw [h] at hs; cases hs; rfl
      · rw [h] at hs; cases hs; rfl
    subst hs
    refine (byItems_nilL a n c w).mono fun e w' ⟨he, hw⟩ => ⟨?_, hw ▸ Below.refl _ _⟩
    rw [he, ← hn]
    have := cmpL_end [] r 0 (by simp)
    simp only [List.drop_zero, List.length_nil] at this
    rw [this]
    rfl
  · rcases hr with ⟨rfl, rfl⟩ | ⟨k1, k2, b', o', c', rfl, k4⟩
    · have hpos : 0 < l.length := List.length_pos_iff.2 h1
      refine (byItems_nilR _ _ _ hpos w).mono fun e w' ⟨he, hw⟩ => ⟨?_, hw ▸ Below.refl _ _⟩
      rw [he]
      have := cmpL_end l [] 0 (by simp)
      simp only [List.drop_zero, List.length_nil] at this
      rw [this]
      rfl
    · exact byItems_some l r b o c b' o' c' w h4 k4 h2

/-- a value, as the program holds it -/
def IsV (w : World) (v : Value) (V : Vl) : Prop := ∃ sl, v = .agg #[.int .i64 V.k, .int .i64 V.n, .string V.s, sl] ∧ IsL w sl V.l
theorem IsV.below {w w' : World} {v : Value} {V : Vl} (h : IsV w v V) (hB : Below w.heap.size w w') : IsV w' v V := by
  obtain ⟨sl, h1, h2⟩ := h
  exact ⟨sl, h1, h2.below hB⟩

theorem compare_any (V U : Vl) (v u : Value) (w : World) (hv : IsV w v V) (hu : IsV w u U) : Calls Tryd.prog 20 #[v, u] w fun e w' => e = .returned (.int .i64 (cmpV V U)) ∧ Below w.heap.size w w' := by
  obtain ⟨sl, rfl, hl⟩ := hv
  obtain ⟨sr, rfl, hr⟩ := hu
  exact compare_of V.k V.n U.k U.n V.s U.s sl sr hl.slice hr.slice _ w (fun W hB => byItems_any V.l U.l sl sr W (hl.below hB) (hr.below hB))

end Go.Proofs.YtifaaacbbjlffaaDoor
