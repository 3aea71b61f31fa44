/- Slices whose elements are flat cells: what they read, parts of them, appends of them to a row of one's own. -/
import Derived.Test.YtifaaacbbjlffaaDoorBase
import Derived.Laws.OwnMore
import Derived.Deep.Slices
namespace Go.Proofs.YtifaaacbbjlffaaDoor
open Go.RowKit

theorem lt_of_some {w : World} {k : Nat} {o : Obj} (h : w.heap[k]? = some o) : k < w.heap.size := (Array.getElem?_eq_some_iff.1 h).1

/-- a slice of n elements of type E, size cells each, that holds these cells -/
def Row (w : World) (E : TypeId) (size : Nat) (v : Value) (n : Nat) (xs : List Value) : Prop :=
  ∃ (a : Option Addr) (c : Nat), v = .slice a n c ∧ n ≤ c ∧ c ≤ maxLen ∧ (a = none → c = 0) ∧ xs.length = n * size ∧ (∀ x ∈ xs, x.oneCell' = true) ∧
    (0 < n → ∃ b o arr fr, a = some ⟨b, o, none⟩ ∧ w.heap[b]? = some (.cells arr E fr) ∧ ∀ (j : Nat) (x : Value), xs[j]? = some x → arr[o + j]? = some x)
theorem Row.keep {w w' : World} {E size n : Nat} {v : Value} {xs : List Value} (h : Row w E size v n xs) (hk : ∀ (k : Nat) (arr : Array Value) (fr : Nat × Nat), w.heap[k]? = some (.cells arr E fr) → w'.heap[k]? = w.heap[k]?) : Row w' E size v n xs := by
  obtain ⟨a, c, h1, h2, h3, h4, h5, h6, h7⟩ := h
  refine ⟨a, c, h1, h2, h3, h4, h5, h6, fun hn => ?_⟩
  obtain ⟨b, o, arr, fr, e, hb, hc⟩ := h7 hn
  exact ⟨b, o, arr, fr, e, (hk b arr fr hb).trans hb, hc⟩
theorem Row.below {w w' : World} {E size n : Nat} {v : Value} {xs : List Value} (h : Row w E size v n xs) (hb : Below w.heap.size w w') : Row w' E size v n xs := h.keep fun k _ _ hk => hb.block k (lt_of_some hk)
theorem row_nil (w : World) (E size : Nat) : Row w E size (.slice none 0 0) 0 [] := ⟨none, 0, rfl, Nat.le_refl _, by unfold maxLen; omega, fun _ => rfl, by simp, fun x hx => by simp at hx, fun h => absurd h (by decide)⟩
theorem Row.slice {w : World} {E size n : Nat} {v : Value} {xs : List Value} (h : Row w E size v n xs) : ∃ a c, v = .slice a n c := by obtain ⟨a, c, h, _⟩ := h; exact ⟨a, c, h⟩
theorem Row.len {w : World} {E size n : Nat} {v : Value} {xs : List Value} (h : Row w E size v n xs) : xs.length = n * size := by obtain ⟨a, c, _, _, _, _, h, _⟩ := h; exact h
/-- the cells of an element -/
theorem Row.at {w : World} {E size n : Nat} {a : Option Addr} {m c : Nat} {xs : List Value} (h : Row w E size (.slice a m c) n xs) {i : Nat} (hi : i < n) : ∃ b o, a = some ⟨b, o, none⟩ ∧ b < w.heap.size ∧ ∀ (j : Nat) (x : Value), xs[i * size + j]? = some x → w.cell? ⟨b, o + i * size + j, none⟩ = some x := by
  obtain ⟨a', c', e, _, _, _, _, _, h7⟩ := h
  obtain ⟨b, o, arr, fr, e2, hb, hc⟩ := h7 (by omega)
  cases e
  refine ⟨b, o, e2, lt_of_some hb, fun j x hj => ?_⟩
  have := hc _ x hj
  rw [← Nat.add_assoc] at this
  simp [World.cell?, hb, this]
/-- what a row of one's own reads -/
theorem row_own {w : World} {base E size n : Nat} {v : Value} {xs : List Value} (h : w.ownsRow base E size v n xs) (h1 : ∀ x ∈ xs, x.oneCell' = true) : Row w E size v n xs := by
  have hx := h
  rcases h.2 with ⟨rfl, h0⟩ | ⟨g, cap, cur, rfl, hg, hh, hc, hm, hsz, htk⟩
  · subst h0
    have : xs = [] := List.eq_nil_of_length_eq_zero (by have := h.1; omega)
    subst this
    exact row_nil _ _ _
  · refine ⟨some ⟨g, 0, none⟩, cap, rfl, hc, hm, (fun h => by cases h), h.1, h1, fun _ => ⟨g, 0, cur, _, rfl, hh, fun j x hj => ?_⟩⟩
    have hjl : j < xs.length := (List.getElem?_eq_some_iff.1 hj).1
    have hq := hx.cellAt j (by rw [h.1] at hjl; exact hjl)
    rw [hj] at hq
    rw [Nat.zero_add]
    simpa [World.cell?, hh] using hq
/-- `s[:k]` -/
theorem Row.take {w : World} {E size n k : Nat} {a : Option Addr} {m c : Nat} {xs : List Value} (h : Row w E size (.slice a m c) n xs) (hk : k ≤ n) : Row w E size (.slice a k c) k (xs.take (k * size)) := by
  obtain ⟨a', c', e, h2, h3, h4, h5, h6, h7⟩ := h
  cases e
  have hks : k * size ≤ n * size := Nat.mul_le_mul_right _ hk
  refine ⟨a, c, rfl, by omega, h3, h4, by rw [List.length_take]; omega, fun x hx => h6 x (List.mem_of_mem_take hx), fun hn => ?_⟩
  obtain ⟨b, o, arr, fr, e2, hb, hc⟩ := h7 (by omega)
  refine ⟨b, o, arr, fr, e2, hb, fun j x hj => hc j x ?_⟩
  have hlt := (List.getElem?_eq_some_iff.1 hj).1
  rw [List.length_take] at hlt
  rwa [List.getElem?_take_of_lt (by omega)] at hj
/-- `s[k:]` -/
theorem Row.drop {w : World} {E size n k : Nat} {a : Option Addr} {m c : Nat} {xs : List Value} (h : Row w E size (.slice a m c) n xs) (hk : k ≤ n) : Row w E size (.slice (if c = k then a else Option.map (fun x => x.add (k * size)) a) (n - k) (c - k)) (n - k) (xs.drop (k * size)) := by
  obtain ⟨a', c', e, h2, h3, h4, h5, h6, h7⟩ := h
  cases e
  have hks : k * size ≤ n * size := Nat.mul_le_mul_right _ hk
  refine ⟨_, _, rfl, by omega, by omega, ?_, by rw [List.length_drop, h5, Nat.sub_mul], fun x hx => h6 x (List.mem_of_mem_drop hx), fun hn => ?_⟩
  · intro hh
    split at hh
    · omega
    · cases a with
      | none => have := h4 rfl; omega
      | some ad => cases hh
  · obtain ⟨b, o, arr, fr, e2, hb, hc⟩ := h7 (by omega)
    subst e2
    rw [if_neg (by omega)]
    refine ⟨b, o + k * size, arr, fr, by simp [Addr.add_lit], hb, fun j x hj => ?_⟩
    rw [Nat.add_assoc]
    refine hc _ x ?_
    rwa [List.getElem?_drop] at hj

/-- a new row -/
theorem row_new (w : World) (E size n : Nat) (cs : Array Value) (hs : cs.size = n * size) (hn : n ≤ maxLen) (h1 : ∀ x ∈ cs.toList, x.oneCell' = true) : Row (w.alloc (.cells cs E)) E size (.slice (some ⟨w.heap.size, 0, none⟩) n n) n cs.toList :=
  ⟨_, _, rfl, Nat.le_refl _, hn, (fun h => by cases h), by simpa using hs, h1, fun _ => ⟨w.heap.size, 0, cs, (0, 0), rfl, heap_alloc_new w _, fun j x hj => by rw [Nat.zero_add]; simpa using hj⟩⟩

/-- what is known of an element's type -/
structure Elem (P : Program) (T E : TypeId) (size bytes : Nat) : Prop where
  u : P.underlying T = some (.slice E)
  i : ∃ i z, P.info? E = some i ∧ i.zero = some z ∧ i.size = size ∧ i.bytes = bytes ∧ z.cells.size = size
  s : 0 < size
  b : 0 < bytes
theorem elem_of {P : Program} {T E : TypeId} {size bytes : Nat} {z : Value} (hu : P.underlying T = some (.slice E)) (hi : (P.info? E).map (fun i => (i.zero, i.size, i.bytes)) = some (some z, size, bytes)) (hz : z.cells.size = size) (hs : 0 < size) (hb : 0 < bytes) : Elem P T E size bytes := by
  obtain ⟨i, h1, h2, h3, h4⟩ := info_parts hi
  exact ⟨hu, ⟨i, z, h1, h2, h3, h4, hz⟩, hs, hb⟩

/-- an append of a slice to a row of one's own -/
theorem run_appR {P : Program} {T E size bytes : Nat} (hE : Elem P T E size bytes) (base : Nat) (ty : TypeId) (v u : Value) (n m : Nat) (xs ys : List Value) (w : World) (hown : w.ownsRow base E size v n xs) (hu : Row w E size u m ys) (hl : (n + m) * bytes ≤ 140737488355328) (hb : base ≤ w.heap.size) :
    ∃ v' w', (Builtin.append_ #[T, T] ty #[v, u]).run P w = .ok v' w' ∧ w'.ownsRow base E size v' (n + m) (xs ++ ys) ∧ w.grownBy w' v.ownBlock := by
  obtain ⟨i0, z, hi, hz0, hz1, hz2, hz3⟩ := hE.i
  obtain ⟨a, c, rfl, h2, h3, h4, h5, h6, h7⟩ := hu
  have hb0 := hE.b
  have hnm : n + m ≤ 140737488355328 := Nat.le_trans (Nat.le_mul_of_pos_right _ hb0) hl
  cases a with
  | none =>
    obtain rfl := h4 rfl
    obtain rfl : m = 0 := by omega
    have : ys = [] := List.eq_nil_of_length_eq_zero (by omega)
    subst this
    exact ⟨v, w, run_append_owned_none w base T ty E i0 size hE.u hi v _ _ hown, by rw [List.append_nil]; exact hown, ⟨rfl, rfl, rfl, Nat.le_refl _, fun _ _ _ => rfl⟩⟩
  | some ad =>
    have hc : ∀ j x, ys[j]? = some x → w.cell? (ad.add j) = some x := by
      intro j x hj
      have hm : 0 < m := by
        rcases Nat.eq_zero_or_pos m with rfl | h
        · have : ys = [] := List.eq_nil_of_length_eq_zero (by omega)
          rw [this] at hj; simp at hj
        · exact h
      obtain ⟨b, o, arr, fr, e2, hbk, hcc⟩ := h7 hm
      cases e2
      rw [show (⟨b, o, none⟩ : Addr).add j = ⟨b, o + j, none⟩ from Addr.add_lit ..]
      simp [World.cell?, hbk, hcc j x hj]
    obtain ⟨v', w', hr, ho, hg, _⟩ := run_append_own (P := P) w base T ty E i0 z size bytes hE.u hi hz0 hz1 hz2 hz3 hE.s v n _ hown ad m c _ h5 hc h6 (by unfold maxLen; omega) hl hb
    exact ⟨v', w', hr, ho, hg⟩
theorem below_own {w w' : World} {base E size n : Nat} {v : Value} {xs : List Value} (hown : w.ownsRow base E size v n xs) (hg : w.grownBy w' v.ownBlock) (hb : base ≤ w.heap.size) : Below base w w' :=
  (Below.refl base w).grown hg hb fun k hk => (World.ownsRow.lt hown k hk).1
theorem step_append {P : Program} {ops : Array Oper} {o : Oper} {a : Act} {w : World} {K : Act → World → Prop} {Q : Exit → Act → World → Prop} {F : Prop} {T E size bytes : Nat}
    (hw : Region.wanted o (yielded ops a.tmps) = true) (s x : Operand) (hop : o.op = Op.call { callee := Callee.builtin Builtin.append, args := #[s, x], argTypes := #[T, T] }) (hE : Elem P T E size bytes)
    (base : Nat) (v u : Value) (n m : Nat) (xs ys : List Value) (hs : a.eval s = v) (hx : a.eval x = u) (hown : w.ownsRow base E size v n xs) (hu : Row w E size u m ys) (hl : (n + m) * bytes ≤ 140737488355328) (hb : base ≤ w.heap.size)
    (hK : ∀ v' w', w'.ownsRow base E size v' (n + m) (xs ++ ys) → Below base w w' → w.grownBy w' v.ownBlock → K (a.put o.dst v') w') :
    if Region.wanted o (yielded ops a.tmps) = true then Oper.wp P o a w K Q else F := by
  rw [if_pos hw]
  obtain ⟨v', w', hr, h2, h3⟩ := run_appR hE base o.type v u n m xs ys w hown hu hl hb
  unfold Oper.wp execOp
  simp only [hop, resolve, invoke, builtin, Sem.run_bind, Sem.run_pure, Result.andThen_ok, List.map_toArray, List.map_cons, List.map_nil, hs, hx, hr]
  exact hK v' w' h2 (below_own hown h3 hb) h3
theorem below_none {w w' : World} (hg : w.grownBy w' (Value.slice none 0 0).ownBlock) : Below w.heap.size w w' := (Below.refl _ w).grown hg (Nat.le_refl _) fun k hk => by cases hk
theorem wpList_appR {P : Program} {ops : Array Oper} {rest : List Oper} {o : Oper} {a : Act} {w : World} {Q : Exit → Act → World → Prop} {T E size bytes : Nat} (hgd : o.guard = none) (s x : Operand)
    (hop : o.op = Op.call { callee := Callee.builtin Builtin.append, args := #[s, x], argTypes := #[T, T] }) (hE : Elem P T E size bytes)
    (base : Nat) (v u : Value) (n m : Nat) (xs ys : List Value) (hs : a.eval s = v) (hx : a.eval x = u) (hown : w.ownsRow base E size v n xs) (hu : Row w E size u m ys) (hl : (n + m) * bytes ≤ 140737488355328) (hb : base ≤ w.heap.size)
    (hK : ∀ v' w', w'.ownsRow base E size v' (n + m) (xs ++ ys) → Below base w w' → wpList P ops Q rest (a.put o.dst v') w') : wpList P ops Q (o :: rest) a w := by
  refine wpList_plain hgd fun K hK' => ?_
  obtain ⟨v', w', hr, h2, h3⟩ := run_appR hE base o.type v u n m xs ys w hown hu hl hb
  unfold Oper.wp execOp
  simp only [hop, resolve, invoke, builtin, Sem.run_bind, Sem.run_pure, Result.andThen_ok, List.map_toArray, List.map_cons, List.map_nil, hs, hx, hr]
  exact hK' _ _ (hK v' w' h2 (below_own hown h3 hb))
end Go.Proofs.YtifaaacbbjlffaaDoor
