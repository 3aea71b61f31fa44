/- What the arguments of the index laws are: raw numbers, calls. -/
import Derived.Test.YtifaaacbbjlffaaDoorLawMade
import Derived.ProofKit
import Derived.OpenShut
import Derived.Deep.Slices
import Derived.Lib.SmallJoins
import Derived.Lib.LaidU8T
namespace Go.Proofs.YtifaaacbbjlffaaDoor
open Go.ChangeShapes Go.WideShapes Go.ChangeAt Go.RowKit Go.Deep Mor

section
variable {H : Type} {enc : TypeId × Value → H} {w : World} {base : Nat} {spare : Nat → Bool} {held : Bool}

theorem wf64 {n : Int} (h : (Lit.int .i64 n).wf = true) : I64 n := by
  have h' : IntKind.i64.min ≤ n ∧ n ≤ IntKind.i64.max := by simpa [Lit.wf] using h
  have e1 : IntKind.i64.min = -9223372036854775808 := rfl
  have e2 : IntKind.i64.max = 9223372036854775807 := rfl
  unfold I64
  omega
theorem wf8 {n : Int} (h : (Lit.int .u8 n).wf = true) : 0 ≤ n ∧ n < 256 := by
  have h' : IntKind.u8.min ≤ n ∧ n ≤ IntKind.u8.max := by simpa [Lit.wf] using h
  have e1 : IntKind.u8.min = 0 := rfl
  have e2 : IntKind.u8.max = 255 := rfl
  omega
theorem cellsInt : Tryd.prog.cellsOf 3 = 1 := by kernel_rfl
theorem cellsU8 : Tryd.prog.cellsOf 5 = 1 := by kernel_rfl
theorem cellsStr : Tryd.prog.cellsOf 9 = 1 := by kernel_rfl
theorem cellsInts : Tryd.prog.cellsOf 23 = 1 := by kernel_rfl
theorem cellsRaw : Tryd.prog.cellsOf 25 = 4 := by kernel_rfl
theorem cellsCall : Tryd.prog.cellsOf 35 = 10 := by kernel_rfl

/-- a list out of its places -/
theorem list_of {α : Type} (n : Nat) (p : Nat → α → Prop) (h : ∀ i, i < n → ∃ x, p i x) : ∃ l : List α, l.length = n ∧ ∀ i x, l[i]? = some x → p i x := by
  induction n with
  | zero => exact ⟨[], rfl, fun i x hx => by simp at hx⟩
  | succ n ih =>
    obtain ⟨l, h1, h2⟩ := ih fun i hi => h i (by omega)
    obtain ⟨x, hx⟩ := h n (by omega)
    refine ⟨l ++ [x], by simp [h1], fun i y hy => ?_⟩
    by_cases hi : i < n
    · rw [List.getElem?_append_left (by omega)] at hy; exact h2 i y hy
    · have hl : i < (l ++ [x]).length := (List.getElem?_eq_some_iff.1 hy).1
      simp [h1] at hl
      obtain rfl : i = n := by omega
      rw [List.getElem?_append_right (by omega)] at hy
      simp [h1] at hy
      exact hy ▸ hx

theorem ints_of {fuel : Nat} {v : Value} {x : DataW H × List MemPlace} (h : DataW.trod enc Tryd.prog w base spare held fuel 23 [v] = some x) : ∃ l, IsJ w v l := by
  rcases open_slice Tryd.underlying23 h with ⟨h0, _⟩ | ⟨a, len, cap, m, n, D, Pl, hcs, hb, hl, hm, hmm, hx, hi⟩
  · obtain rfl : v = .slice none 0 0 := by simpa using h0
    exact ⟨[], fun x hx => by simp at hx, none, 0, rfl, by simp, fun j x hj => by simp at hj⟩
  · obtain rfl : v = .slice (some a) len cap := by simpa using hcs
    have hlm : len ≤ m := by rw [hmm]; split <;> omega
    obtain ⟨l, l1, l2⟩ := list_of len (fun i z => I64 z ∧ w.cell? (a.add i) = some (.int .i64 z)) fun i hlt => by
      obtain ⟨cs', hc, ht⟩ := hi i (by omega)
      obtain ⟨z, rfl, _, hz⟩ := DataW.trod_int Tryd.underlying3 ht
      rw [cellsInt] at hc
      obtain ⟨_, _, hat⟩ := World.cells?_some hc
      have := hat 0 (by omega)
      rw [add_add, Nat.mul_one, Nat.add_zero] at this
      exact ⟨z, wf64 hz, by simpa using this⟩
    refine ⟨l, fun x hx => ?_, some a, cap, by rw [l1], by unfold maxLen at hm; omega, fun j x hj => ?_⟩
    · obtain ⟨i, hi⟩ := List.mem_iff_getElem?.1 hx
      exact (l2 i x hi).1
    · have hc := (l2 j x hj).2
      obtain ⟨b, o, sp⟩ := a
      have hsp : sp = none := by
        obtain ⟨y, hy⟩ : ∃ y, l[0]? = some y := by
          have : j < l.length := (List.getElem?_eq_some_iff.1 hj).1
          exact ⟨_, List.getElem?_eq_getElem (by omega)⟩
        have := (l2 0 y hy).2
        rw [Addr.add_zero'] at this
        exact cell_spot this
      subst hsp
      exact ⟨b, o, rfl, by rw [← addr_add]; exact hc⟩

theorem raw_of {fuel : Nat} {cs : List Value} {x : DataW H × List MemPlace} (h : DataW.trod enc Tryd.prog w base spare held fuel 25 cs = some x) : ∃ r sl, cs = [.int .i64 r.k, .int .i64 r.n, .string r.s, sl] ∧ RawOk w r sl := by
  obtain ⟨xs, n, _, _, hlen, hxl, hf⟩ := DataW.trod_struct Tryd.underlying25 h
  rw [cellsRaw] at hlen
  match cs, hlen with
  | [c0, c1, c2, c3], _ =>
    have hxl' : xs.length = 4 := hxl
    match xs, hxl' with
    | [y0, y1, y2, y3], _ =>
      have h0 : DataW.trod enc Tryd.prog w base spare held n 3 [c0] = some y0 := by
        have h : DataW.trod enc Tryd.prog w base spare held n 3 (([c0, c1, c2, c3].drop 0).take (Tryd.prog.cellsOf 3)) = some y0 := hf 0 _ rfl
        rw [cellsInt] at h
        exact h
      have h1 : DataW.trod enc Tryd.prog w base spare held n 3 [c1] = some y1 := by
        have h : DataW.trod enc Tryd.prog w base spare held n 3 (([c0, c1, c2, c3].drop 1).take (Tryd.prog.cellsOf 3)) = some y1 := hf 1 _ rfl
        rw [cellsInt] at h
        exact h
      have h2 : DataW.trod enc Tryd.prog w base spare held n 9 [c2] = some y2 := by
        have h : DataW.trod enc Tryd.prog w base spare held n 9 (([c0, c1, c2, c3].drop 2).take (Tryd.prog.cellsOf 9)) = some y2 := hf 2 _ rfl
        rw [cellsStr] at h
        exact h
      have h3 : DataW.trod enc Tryd.prog w base spare held n 23 [c3] = some y3 := by
        have h : DataW.trod enc Tryd.prog w base spare held n 23 (([c0, c1, c2, c3].drop 3).take (Tryd.prog.cellsOf 23)) = some y3 := hf 3 _ rfl
        rw [cellsInts] at h
        exact h
      obtain ⟨k, e0, _, w0⟩ := DataW.trod_int Tryd.underlying3 h0
      obtain ⟨m, e1, _, w1⟩ := DataW.trod_int Tryd.underlying3 h1
      obtain ⟨s, e2, _, w2⟩ := DataW.trod_string Tryd.underlying9 h2
      obtain ⟨l, hl⟩ := ints_of h3
      obtain rfl : c0 = .int .i64 k := by simpa using e0
      obtain rfl : c1 = .int .i64 m := by simpa using e1
      obtain rfl : c2 = .string s := by simpa using e2
      exact ⟨⟨k, m, s, l⟩, c3, rfl, wf64 w0, wf64 w1, by unfold maxLen at w2; exact w2, hl⟩

theorem calls_of {fuel : Nat} {v : Value} {x : DataW H × List MemPlace} (h : DataW.trod enc Tryd.prog w base spare held fuel 22 [v] = some x) : ∃ l, IsC w v l := by
  rcases open_slice Tryd.underlying22 h with ⟨h0, _⟩ | ⟨a, len, cap, m, n, D, Pl, hcs, hb, hl, hm, hmm, hx, hi⟩
  · obtain rfl : v = .slice none 0 0 := by simpa using h0
    exact ⟨[], none, 0, rfl, by simp, fun j x hj => by simp at hj⟩
  · obtain rfl : v = .slice (some a) len cap := by simpa using hcs
    have hlm : len ≤ m := by rw [hmm]; split <;> omega
    have hc10 : ∀ i, i < m → ∃ cs', w.cells? base (a.add (i * 10)) 10 = some cs' := fun i hlt => by
      obtain ⟨cs', hc, _⟩ := hi i hlt
      rw [cellsCall] at hc
      exact ⟨cs', hc⟩
    obtain ⟨l, l1, l2⟩ := list_of len (fun i c => ∃ b o sv sw, some a = some (⟨b, o, none⟩ : Addr) ∧ CallAt w b (o + i * 10) c sv sw) fun i hlt => by
      obtain ⟨cs', hc, ht⟩ := hi i (by omega)
      obtain ⟨xs, n', _, _, hlen, hxl, hf⟩ := DataW.trod_struct Tryd.underlying35 ht
      rw [cellsCall] at hlen hc
      obtain ⟨_, _, hat⟩ := World.cells?_some hc
      have hxl' : xs.length = 4 := hxl
      match cs', hlen with
      | [c0, c1, c2, c3, c4, c5, c6, c7, c8, c9], _ =>
        match xs, hxl' with
        | [y0, y1, y2, y3], _ =>
          have h0 : DataW.trod enc Tryd.prog w base spare held n' 5 [c0] = some y0 := by
            have h : DataW.trod enc Tryd.prog w base spare held n' 5 (([c0, c1, c2, c3, c4, c5, c6, c7, c8, c9].drop 0).take (Tryd.prog.cellsOf 5)) = some y0 := hf 0 _ rfl
            rw [cellsU8] at h
            exact h
          have h1 : DataW.trod enc Tryd.prog w base spare held n' 25 [c1, c2, c3, c4] = some y1 := by
            have h : DataW.trod enc Tryd.prog w base spare held n' 25 (([c0, c1, c2, c3, c4, c5, c6, c7, c8, c9].drop 1).take (Tryd.prog.cellsOf 25)) = some y1 := hf 1 _ rfl
            rw [cellsRaw] at h
            exact h
          have h2 : DataW.trod enc Tryd.prog w base spare held n' 25 [c5, c6, c7, c8] = some y2 := by
            have h : DataW.trod enc Tryd.prog w base spare held n' 25 (([c0, c1, c2, c3, c4, c5, c6, c7, c8, c9].drop 5).take (Tryd.prog.cellsOf 25)) = some y2 := hf 2 _ rfl
            rw [cellsRaw] at h
            exact h
          have h3 : DataW.trod enc Tryd.prog w base spare held n' 3 [c9] = some y3 := by
            have h : DataW.trod enc Tryd.prog w base spare held n' 3 (([c0, c1, c2, c3, c4, c5, c6, c7, c8, c9].drop 9).take (Tryd.prog.cellsOf 3)) = some y3 := hf 3 _ rfl
            rw [cellsInt] at h
            exact h
          obtain ⟨k, e0, _, w0⟩ := DataW.trod_int Tryd.underlying5 h0
          obtain ⟨rv, sv, e1, k1⟩ := raw_of h1
          obtain ⟨rw_, sw, e2, k2⟩ := raw_of h2
          obtain ⟨z, e3, _, w3⟩ := DataW.trod_int Tryd.underlying3 h3
          simp only [List.cons.injEq, and_true] at e0 e1 e2 e3
          obtain ⟨rfl, rfl, rfl, rfl⟩ := e1
          obtain ⟨rfl, rfl, rfl, rfl⟩ := e2
          subst e0 e3
          obtain ⟨b, o, sp⟩ := a
          have hsp : sp = none := by
            obtain ⟨cs0, hc0⟩ := hc10 0 (by omega)
            obtain ⟨_, hl0, hat0⟩ := World.cells?_some hc0
            have h00 := hat0 0 (by omega)
            rw [Nat.zero_mul, Addr.add_zero', Addr.add_zero'] at h00
            cases cs0 with
            | nil => simp at hl0
            | cons u us => rw [List.getElem?_cons_zero] at h00; exact cell_spot h00
          subst hsp
          have q : ∀ j, j < 10 → w.cell? ⟨b, o + i * 10 + j, none⟩ = [Value.int .u8 k, .int .i64 rv.k, .int .i64 rv.n, .string rv.s, c4, .int .i64 rw_.k, .int .i64 rw_.n, .string rw_.s, c8, .int .i64 z][j]? := fun j hj => by
            have := hat j hj
            rw [add_add, addr_add] at this
            rw [Nat.add_assoc]; exact this
          exact ⟨⟨k, rv, rw_, z⟩, b, o, c4, c8, rfl, ⟨q 0 (by omega), q 1 (by omega), q 2 (by omega), q 3 (by omega), q 4 (by omega), q 5 (by omega), q 6 (by omega), q 7 (by omega), q 8 (by omega), q 9 (by omega), k1, k2, wf64 w3, wf8 w0⟩⟩
    exact ⟨l, some a, cap, by rw [l1], by unfold maxLen at hm; omega, l2⟩

theorem open_raw {r : Reach} {b0 : Nat} {v : Value} {d : DataW H} {p : List MemPlace} (hv : Value.okWide Tryd.prog w r b0 25 v) (h : DataW.Trod enc Tryd.prog w base spare held 25 v d p) : ∃ r sl, v = rawV r sl ∧ RawOk w r sl := by
  obtain ⟨cs, rfl, _⟩ := okWide_struct Tryd.underlying25 hv
  obtain ⟨fuel, hf⟩ := h
  obtain ⟨r, sl, e, hok⟩ := raw_of (cs := cs.toList) hf
  refine ⟨r, sl, ?_, hok⟩
  unfold rawV
  obtain ⟨l⟩ := cs
  simp only at e
  rw [e]
theorem open_calls {v : Value} {d : DataW H} {p : List MemPlace} (hs : ∃ a n c, v = .slice a n c) (h : DataW.Trod enc Tryd.prog w base spare held 22 v d p) : ∃ l, IsC w v l := by
  obtain ⟨a, n, c, rfl⟩ := hs
  obtain ⟨fuel, hf⟩ := h
  exact calls_of (v := .slice a n c) hf
end
end Go.Proofs.YtifaaacbbjlffaaDoor
