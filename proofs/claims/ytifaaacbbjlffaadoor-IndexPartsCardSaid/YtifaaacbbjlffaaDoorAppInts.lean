/- Appends of slices of ints to a row of one's own; slices of slices of ints; a drawn region two of whose operations come in any order. -/
import Derived.Test.YtifaaacbbjlffaaDoorLawMore
import Derived.Laws.OwnMore
namespace Go.Proofs.YtifaaacbbjlffaaDoor
open Go.RowKit Mor

section
variable {P : Program} {ops : Array Oper} {Q : Exit → Act → World → Prop} {S : World → Prop}
/-- a schedule, then two operations in any order, then a schedule -/
def twoB (ops : Array Oper) (i j : Nat) (s1 : List (Nat × Bool)) : List (Nat × Bool) → Array Bool → Bool
  | [], listed => decide (Region.ready .any ops listed = [i, j]) && decide (Region.ready .any ops (listed.setIfInBounds i true) = [j]) && decide (Region.ready .any ops (listed.setIfInBounds j true) = [i]) &&
      decide ((listed.setIfInBounds i true).setIfInBounds j true = (listed.setIfInBounds j true).setIfInBounds i true) && schedB ops s1 ((listed.setIfInBounds i true).setIfInBounds j true)
  | (k, true) :: r, listed => (Region.ready .any ops listed).contains k && Region.free .any ops listed k && twoB ops i j s1 r (listed.setIfInBounds k true)
  | (k, false) :: r, listed => decide (Region.ready .any ops listed = [k]) && twoB ops i j s1 r (listed.setIfInBounds k true)
def twoOk (ops : Array Oper) (s0 : List (Nat × Bool)) (i j : Nat) (s1 : List (Nat × Bool)) : Bool := Region.noSelect ops && decide (s0.length + (s1.length + 1 + 1) = ops.size) && twoB ops i j s1 s0 (Array.replicate ops.size false)
def wpTwo (P : Program) (ops : Array Oper) (Q : Exit → Act → World → Prop) (S : World → Prop) (i j : Nat) (s1 : List (Nat × Bool)) : List (Nat × Bool) → Act → World → Prop
  | [], a, w => wpSched P ops Q S ((i, false) :: (j, false) :: s1) a w ∧ wpSched P ops Q S ((j, false) :: (i, false) :: s1) a w
  | (k, true) :: r, a, w => ∃ o v, ops[k]? = some o ∧ YieldsIf P ops S o v a ∧ wpTwo P ops Q S i j s1 r (a.put o.dst v) w
  | (k, false) :: r, a, w => wpOp P ops Q k (fun a' w' => S w' ∧ wpTwo P ops Q S i j s1 r a' w') a w
theorem wpAnyH_two (hsel : Region.noSelect ops = true) (hQ' : ∀ t v c a w, Q (.panic c) (a.put (some t) v) w → Q (.panic c) a w) (i j : Nat) (s1 : List (Nat × Bool)) : ∀ (s : List (Nat × Bool)) (listed : Array Bool) (a : Act) (w : World), twoB ops i j s1 s listed = true → S w → wpTwo P ops Q S i j s1 s a w → wpAnyH P .any ops Q S (s.length + (s1.length + 1 + 1)) listed a w
  | [], listed, a, w, hB, _, h => by
    simp only [twoB, Bool.and_eq_true, decide_eq_true_eq] at hB
    obtain ⟨⟨⟨⟨h1, h2⟩, h3⟩, h4⟩, h5⟩ := hB
    rw [show ([] : List (Nat × Bool)).length + (s1.length + 1 + 1) = s1.length + 1 + 1 by simp]
    refine wpAnyH_all (by rw [h1]) (by simp) fun k hk => ?_
    simp only [List.mem_cons, List.not_mem_nil, or_false] at hk
    rcases hk with rfl | rfl
    · refine wpOp_mono (fun a' w' h' => ⟨h'.1, ?_⟩) h.1
      exact wpAnyH_sched hsel hQ' ((j, false) :: s1) _ _ _ (by simp only [schedB, Bool.and_eq_true, decide_eq_true_eq]; exact ⟨h2, h5⟩) h'.1 h'.2
    · refine wpOp_mono (fun a' w' h' => ⟨h'.1, ?_⟩) h.2
      exact wpAnyH_sched hsel hQ' ((i, false) :: s1) _ _ _ (by simp only [schedB, Bool.and_eq_true, decide_eq_true_eq]; exact ⟨h3, h4 ▸ h5⟩) h'.1 h'.2
  | (k, true) :: r, listed, a, w, hB, hS, h => by
    simp only [twoB, Bool.and_eq_true] at hB
    obtain ⟨o, v, ho, hy, h'⟩ := h
    rw [show ((k, true) :: r).length + (s1.length + 1 + 1) = r.length + (s1.length + 1 + 1) + 1 by simp; omega]
    exact wpAnyH_take ho hsel hB.1.2 hB.1.1 (fun c a w => put_any hQ' _ _ c a w) hy hS (wpAnyH_two hsel hQ' i j s1 r _ _ _ hB.2 hS h')
  | (k, false) :: r, listed, a, w, hB, _, h => by
    simp only [twoB, Bool.and_eq_true, decide_eq_true_eq] at hB
    rw [show ((k, false) :: r).length + (s1.length + 1 + 1) = r.length + (s1.length + 1 + 1) + 1 by simp; omega]
    refine wpAnyH_all hB.1 (by simp) fun j' hj => ?_
    obtain rfl : j' = k := by simpa using hj
    exact wpOp_mono (fun a' w' h' => ⟨h'.1, wpAnyH_two hsel hQ' i j s1 r _ _ _ hB.2 h'.1 h'.2⟩) h
theorem wp_two {id : Nat} {a : Act} {w : World} (S : World → Prop) (s0 : List (Nat × Bool)) (i j : Nat) (s1 : List (Nat × Bool)) (hm : P.follows .mixedOrders = true) (hB : twoOk ops s0 i j s1 = true)
    (hQ : ∀ t v c a w, Q (.panic c) (a.put (some t) v) w → Q (.panic c) a w) (hS : S w.drew) (h : wpTwo P ops Q S i j s1 s0 a w.drew) : (Code.region id ops true).wp P Q a w := by
  simp only [twoOk, Bool.and_eq_true, decide_eq_true_eq] at hB
  refine wp_region_held (S := S) hm ?_
  have := wpAnyH_two hB.1.1 hQ i j s1 s0 _ a w.drew hB.2 hS h
  rw [hB.1.2] at this
  exact this
theorem wpTwo_read {i j k : Nat} {s1 : List (Nat × Bool)} {o : Oper} {r : List (Nat × Bool)} {a : Act} {w : World} {v : Value} (h0 : ops[k]? = some o) (hy : YieldsIf P ops S o v a) (h : wpTwo P ops Q S i j s1 r (a.put o.dst v) w) : wpTwo P ops Q S i j s1 ((k, true) :: r) a w := ⟨o, v, h0, hy, h⟩
theorem wpTwo_two {i j : Nat} {s1 : List (Nat × Bool)} {a : Act} {w : World} (h1 : wpSched P ops Q S ((i, false) :: (j, false) :: s1) a w) (h2 : wpSched P ops Q S ((j, false) :: (i, false) :: s1) a w) : wpTwo P ops Q S i j s1 [] a w := ⟨h1, h2⟩
end

/-- a row of ints of one's own -/
def Rowy (W : World) (base : Nat) (v : Value) (l : List Int) : Prop := W.ownsRow base 3 1 v l.length (l.map (Value.int .i64))
theorem run_app (base : Nat) (ty : TypeId) (v u : Value) (l m : List Int) (w : World) (hown : Rowy w base v l) (hi : IsI w u m) (hl : l.length < 1000000) (hb : base ≤ w.heap.size) :
    ∃ v' w', (Builtin.append_ #[23, 23] ty #[v, u]).run Tryd.prog w = .ok v' w' ∧ Rowy w' base v' (l ++ m) ∧ w.grownBy w' v.ownBlock ∧ (v'.ownBlock = v.ownBlock ∨ v'.ownBlock = some w.heap.size) := by
  obtain ⟨i0, hi0, hz0, hz1, hz2⟩ := info_parts info_int
  obtain ⟨a, c, rfl, hm, hmc, hcm, hnil, hat⟩ := hi
  cases a with
  | none =>
    obtain rfl := hnil rfl
    have hm0 : m = [] := List.eq_nil_of_length_eq_zero (by omega)
    subst hm0
    exact ⟨v, w, run_append_owned_none w base _ ty _ i0 1 Tryd.underlying23 hi0 v _ _ hown, by rw [List.append_nil]; exact hown, ⟨rfl, rfl, rfl, Nat.le_refl _, fun _ _ _ => rfl⟩, .inl rfl⟩
  | some ad =>
    have hc : ∀ j x, (m.map (Value.int .i64))[j]? = some x → w.cell? (ad.add j) = some x := by
      intro j x hj
      rw [List.getElem?_map] at hj
      obtain ⟨y, hy, rfl⟩ := Option.map_eq_some_iff.1 hj
      obtain ⟨⟨b, o, e, h⟩, _⟩ := hat j y hy
      cases e
      rw [show (⟨b, o, none⟩ : Addr).add j = ⟨b, o + j, none⟩ from Addr.add_lit ..]
      exact h
    have hln : (m.map (Value.int .i64)).length = m.length * 1 := by simp
    have h1 : ∀ x ∈ m.map (Value.int .i64), x.oneCell' = true := by
      intro x hx
      obtain ⟨y, _, rfl⟩ := List.mem_map.1 hx
      rfl
    obtain ⟨v', w', hr, ho, hg, _⟩ := run_append_own (P := Tryd.prog) w base 23 ty 3 i0 (.int .i64 0) 1 8 Tryd.underlying23 hi0 hz0 hz1 hz2 rfl (by decide) v l.length _ hown ad m.length c _ hln hc h1 (by unfold maxLen; omega) (by omega) hb
    refine ⟨v', w', hr, ?_, hg, ?_⟩
    · unfold Rowy
      rw [List.length_append, List.map_append]
      exact ho
    · rcases hown.2 with ⟨rfl, h0⟩ | ⟨g, cap, cur, rfl, hbg, hh, hnc, hcm', hcs, htake⟩
      · by_cases hz : m.length = 0
        · have hm0 : m = [] := List.eq_nil_of_length_eq_zero hz
          have hl0 : l = [] := List.eq_nil_of_length_eq_zero h0
          subst hm0 hl0
          rcases ho.2 with ⟨rfl, _⟩ | ⟨g, cap, cur, rfl, hbg, hh, hnc, hcm', hcs, htake⟩
          · exact .inl rfl
          · simp [Builtin.append_, run_underlying Tryd.underlying23, sizeOf, typeInfo, hi0, Builtin.lenOf, Builtin.firstCells, loadCells, loadCellsFrom] at hr
        · have hr2 := run_append_nil (P := Tryd.prog) w 23 ty 3 i0 (.int .i64 0) Tryd.underlying23 hi0 hz0 ad m.length c (m.map (Value.int .i64)) (by rw [hz1]; exact hln) hc (by omega) (by omega) (by rw [hz2]; omega)
          rw [hr] at hr2
          injection hr2 with e1 _
          right; rw [e1]; rfl
      · by_cases hroom : l.length + m.length ≤ cap
        · have hr2 := run_append_room (P := Tryd.prog) w 23 ty 3 i0 Tryd.underlying23 hi0 g l.length cap cur hh ad m.length c (m.map (Value.int .i64)) (by rw [hz1]; exact hln) hc h1 hroom (by rw [hz1, hln, hcs]; omega)
          rw [hr] at hr2
          injection hr2 with e1 _
          left; rw [e1]; rfl
        · have hr2 := run_append_grow (P := Tryd.prog) w 23 ty 3 i0 (.int .i64 0) Tryd.underlying23 hi0 hz0 ⟨g, 0, none⟩ l.length cap (l.map (Value.int .i64)) (by rw [hz1]; simp) (hown.cells rfl) ad m.length c (m.map (Value.int .i64)) (by rw [hz1]; exact hln) hc (by omega) (by omega) (growslice_fits (by omega) (by rw [hz2]; omega))
          rw [hr] at hr2
          injection hr2 with e1 _
          right; rw [e1]; rfl

/-- a row of one's own beside another slice of ints -/
structure Beside (W : World) (base : Nat) (v : Value) (l : List Int) (r : Value) (q : List Int) : Prop where
  own : Rowy W base v l
  other : IsI W r q
  apart : q = [] ∨ ∀ a n c, r = .slice (some a) n c → v.ownBlock ≠ some a.block
  base : base ≤ W.heap.size
theorem rowy_lt {W : World} {base : Nat} {v : Value} {l : List Int} (h : Rowy W base v l) : ∀ k, v.ownBlock = some k → base ≤ k := fun k hk => (World.ownsRow.lt h k hk).1
theorem IsI.grown {W W' : World} {row : Option Nat} {r : Value} {q : List Int} (h : IsI W r q) (hg : W.grownBy W' row) (ha : q = [] ∨ ∀ a n c, r = .slice (some a) n c → row ≠ some a.block) : IsI W' r q := by
  obtain ⟨a, c, rfl, h2, h3, h4, h5, h6⟩ := h
  refine ⟨a, c, rfl, h2, h3, h4, h5, fun j x hj => ?_⟩
  obtain ⟨⟨b, o, e, hc⟩, ad, arr, fr, had, hbk⟩ := h6 j x hj
  subst e
  cases had
  have hne : row ≠ some b := by
    rcases ha with rfl | ha
    · simp at hj
    · exact ha _ _ _ rfl
  have hkey : W'.heap[b]? = W.heap[b]? := hg.block b (lt_of_block hbk) (Ne.symm hne)
  exact ⟨⟨b, o, rfl, (World.cell?_of_block (w := W) (a := ⟨b, o + j, none⟩) hkey).trans hc⟩, _, arr, fr, rfl, hkey.trans hbk⟩
theorem Beside.app {W : World} {base : Nat} {v r : Value} {l q : List Int} (h : Beside W base v l r q) {v' : Value} {W' : World} {m : List Int} (ho : Rowy W' base v' (l ++ m)) (hg : W.grownBy W' v.ownBlock) (hv : v'.ownBlock = v.ownBlock ∨ v'.ownBlock = some W.heap.size) : Beside W' base v' (l ++ m) r q := by
  refine ⟨ho, h.other.grown hg h.apart, ?_, Nat.le_trans h.base hg.size⟩
  cases q with
  | nil => exact .inl rfl
  | cons x q =>
    right
    intro a n c hr
    subst hr
    rcases hv with hv | hv
    · rw [hv]
      rcases h.apart with h' | h'
      · cases h'
      · exact h' _ _ _ rfl
    · rw [hv]
      obtain ⟨a', c', e, _, _, _, _, h6⟩ := h.other
      obtain ⟨_, ad, arr, fr, had, hbk⟩ := h6 0 x rfl
      cases e
      cases had
      have := lt_of_block hbk
      simp only [ne_eq, Option.some.injEq]; omega
theorem Beside.below {W : World} {base : Nat} {v r : Value} {l q : List Int} {v' : Value} {W' : World} {m : List Int} (h : Beside W base v l r q) (hg : W.grownBy W' v.ownBlock) (_ho : Rowy W' base v' m) : Below base W W' :=
  (Below.refl base W).grown hg h.base (rowy_lt h.own)
theorem step_app {ops : Array Oper} {o : Oper} {a : Act} {w : World} {K : Act → World → Prop} {Q : Exit → Act → World → Prop} {E : Prop}
    (hw : Region.wanted o (yielded ops a.tmps) = true) (s x : Operand) (hop : o.op = Op.call { callee := Callee.builtin Builtin.append, args := #[s, x], argTypes := #[23, 23] })
    (base : Nat) (v u r : Value) (l m q : List Int) (hs : a.eval s = v) (hx : a.eval x = u) (hB : Beside w base v l r q) (hi : IsI w u m) (hl : l.length < 1000000)
    (hK : ∀ v' w', Beside w' base v' (l ++ m) r q → Below base w w' → K (a.put o.dst v') w') :
    if Region.wanted o (yielded ops a.tmps) = true then Oper.wp Tryd.prog o a w K Q else E := by
  rw [if_pos hw]
  obtain ⟨v', w', hr, h2, h3, h4⟩ := run_app base o.type v u l m w hB.own hi hl hB.base
  unfold Oper.wp execOp
  simp only [hop, resolve, invoke, builtin, Sem.run_bind, Sem.run_pure, Result.andThen_ok, List.map_toArray, List.map_cons, List.map_nil, hs, hx, hr]
  exact hK v' w' (hB.app h2 h3 h4) (hB.below h3 h2)

/-- `s[k:]` -/
theorem isI_from {W : World} {a : Option Addr} {c n k : Nat} {l : List Int} (h : IsI W (.slice a n c) l) (hk : k ≤ n) : IsI W (sliced a k n c 1) (l.drop k) := by
  obtain ⟨a', c', e, h2, h3, h4, h5, h6⟩ := h
  cases e
  unfold sliced
  refine ⟨_, _, by rw [List.length_drop], by rw [List.length_drop]; omega, by rw [List.length_drop]; omega, by omega, ?_, ?_⟩
  · intro hn
    split at hn
    · have := h5 hn; omega
    · cases a with
      | none => have := h5 rfl; omega
      | some ad => cases hn
  · intro j x hj
    rw [List.getElem?_drop] at hj
    have hlt := (List.getElem?_eq_some_iff.1 hj).1
    obtain ⟨⟨b, o, e, hc⟩, ad, arr, fr, had, hbk⟩ := h6 (k + j) x hj
    subst e
    cases had
    rw [if_neg (by omega)]
    have ea : Option.map (fun x : Addr => x.add (k * 1)) (some ⟨b, o, none⟩) = some ⟨b, o + k, none⟩ := by simp [Addr.add_lit]
    exact ⟨⟨b, o + k, ea, by rw [Nat.add_assoc]; exact hc⟩, _, arr, fr, ea, hbk⟩
/-- `s[:k]` -/
theorem isI_to {W : World} {a : Option Addr} {c n k : Nat} {l : List Int} (h : IsI W (.slice a n c) l) (hk : k ≤ n) : IsI W (sliced a 0 k c 1) (l.take k) := by
  obtain ⟨a', c', e, h2, h3, h4, h5, h6⟩ := h
  cases e
  have hlen : (l.take k).length = k := by rw [List.length_take]; omega
  unfold sliced
  refine ⟨_, _, by rw [hlen]; rfl, by rw [hlen]; omega, by rw [hlen]; omega, by omega, ?_, ?_⟩
  · intro hn
    split at hn
    · omega
    · cases a with
      | none => have := h5 rfl; omega
      | some ad => cases hn
  · intro j x hj
    rw [List.getElem?_take] at hj
    split at hj
    · have hlt := (List.getElem?_eq_some_iff.1 hj).1
      obtain ⟨⟨b, o, e, hc⟩, ad, arr, fr, had, hbk⟩ := h6 j x hj
      subst e
      cases had
      rw [if_neg (by omega)]
      have ea : Option.map (fun x : Addr => x.add (0 * 1)) (some ⟨b, o, none⟩) = some ⟨b, o, none⟩ := by simp [Addr.add_lit]
      exact ⟨⟨b, o, ea, hc⟩, _, arr, fr, ea, hbk⟩
    · cases hj
end Go.Proofs.YtifaaacbbjlffaaDoor
