/- The contracts of span.side, of Range's closure, of walk. -/
import Derived.Test.YtifaaacbbjlffaaDoorTreePut
import Derived.Deep.RegionLaw
import Derived.Laws.AppendOwn
namespace Go.Proofs.YtifaaacbbjlffaaDoor
open Go.RowKit Mor

theorem step_append_own {P : Program} {ops : Array Oper} {o : Oper} {a : Act} {w : World} {K : Act → World → Prop} {Q : Exit → Act → World → Prop} {E : Prop}
    (hg : o.guard = none) (s x : Operand) (t : TypeId) (hop : o.op = Op.call { callee := Callee.builtin Builtin.append, args := #[s, x], argTypes := #[t, t] })
    (base : Nat) (e : TypeId) (i : TypeInfo) (z : Value) (size bytes : Nat) (h1 : P.underlying t = some (.slice e)) (h2 : P.info? e = some i) (h3 : i.zero = some z) (h4 : i.size = size) (h5 : i.bytes = bytes) (h6 : z.cells.size = size) (h7 : 0 < size)
    (v : Value) (k : Nat) (xs : List Value) (hs : a.eval s = v) (hown : w.ownsRow base e size v k xs) (ad : Addr) (m c : Nat) (news : List Value) (hx : a.eval x = .slice (some ad) m c) (hn : news.length = m * size)
    (hc : ∀ j u, news[j]? = some u → w.cell? (ad.add j) = some u) (h1c : ∀ u ∈ news, u.oneCell' = true) (b1 : k + m ≤ maxLen) (b2 : (k + m) * bytes ≤ 140737488355328) (b3 : base ≤ w.heap.size)
    (hK : ∀ v' w', w'.ownsRow base e size v' (k + m) (xs ++ news) → w.grownBy w' v.ownBlock → K (a.put o.dst v') w') :
    if Region.wanted o (yielded ops a.tmps) = true then Oper.wp P o a w K Q else E := by
  simp only [Region.wanted, hg, if_true]
  exact wp_append_own (w := w) s x t hop base e i z size bytes h1 h2 h3 h4 h5 h6 h7 v k xs hs hown ad m c news hx hn hc h1c b1 b2 b3 (fun v' w' h h' _ => hK v' w' h h')
theorem cell_one_new (W : World) (t : TypeId) (v : Value) : ∀ (j : Nat) (u : Value), [v][j]? = some u → (W.alloc (.cells #[v] t)).cell? ((⟨W.heap.size, 0, none⟩ : Addr).add j) = some u := by
  intro j u hj
  cases j with
  | zero => simp only [List.getElem?_cons_zero, Option.some.injEq] at hj; subst hj; exact (new_cell1 W v t).1
  | succ j => simp at hj
theorem info_int : (Tryd.prog.info? 3).map (fun i => (i.zero, i.size, i.bytes)) = some (some (.int .i64 0), 1, 8) := by kernel_rfl

/-- a span, as the program holds it -/
def spV (lo hi : Vl) (sl sr : Value) : Value := .agg #[.int .i64 lo.k, .int .i64 lo.n, .string lo.s, sl, .int .i64 hi.k, .int .i64 hi.n, .string hi.s, sr]

set_option maxHeartbeats 400000 in
theorem side_any (lo hi V : Vl) (sl sr sv : Value) (i : Int) (w : World) (hl : IsL w sl lo.l) (hr : IsL w sr hi.l) (hv : IsL w sv V.l) :
    Calls Tryd.prog 32 #[spV lo hi sl sr, prV V sv i] w fun e w' => e = .returned (.int .i64 (side lo hi V)) ∧ Below w.heap.size w w' := by
  unfold prV spV
  have hb : ∀ a b : Obj, Below w.heap.size w ((w.alloc a).alloc b) := fun a b => ((Below.refl _ w).alloc (Nat.le_refl _) _).alloc (by simp) _
  have HB := Lib.hid hb
  have HC := Lib.hid (fun (W : World) (h : Below w.heap.size w W) => compare_any V lo _ _ W ⟨sv, rfl, hv.below h⟩ ⟨sl, rfl, hl.below h⟩)
  have HD := Lib.hid (fun (W : World) (h : Below w.heap.size w W) => compare_any V hi _ _ W ⟨sv, rfl, hv.below h⟩ ⟨sr, rfl, hr.below h⟩)
  clear hb
  obtain ⟨la, ll, lc, rfl⟩ := hl.slice
  obtain ⟨ra, rl, rc, rfl⟩ := hr.slice
  obtain ⟨va, vl, vc, rfl⟩ := hv.slice
  clear hl hr hv
  by_cases h : cmpV V lo < 0
  · have E := Lib.hid (show side lo hi V = -1 by simp [side, h])
    rw [E.out]
    clear E
    go_enter Tryd.func32, Tryd.ntmps32
    go_wp2_with fail
    refine (HC.out _ (HB.out _ _)).mono ?_
    rintro e w1 ⟨rfl, b1⟩
    have B1 := Lib.hid ((HB.out _ _).trans (b1.mono (by simp; omega)))
    clear b1
    go_wp2_with fail
    go_ret
    exact ⟨rfl, B1.out⟩
  · by_cases h2 : 0 < cmpV V hi
    · have E := Lib.hid (show side lo hi V = 1 by simp [side, h, h2])
      rw [E.out]
      clear E
      go_enter Tryd.func32, Tryd.ntmps32
      go_wp2_with fail
      refine (HC.out _ (HB.out _ _)).mono ?_
      rintro e w1 ⟨rfl, b1⟩
      obtain ⟨hc1, hf1⟩ := bcell b1
      have B1 := Lib.hid ((HB.out _ _).trans (b1.mono (by simp; omega)))
      clear b1
      go_wp2_with fail
      refine (HD.out _ B1.out).mono ?_
      rintro e w2 ⟨rfl, b2⟩
      have B2 := Lib.hid (B1.out.trans (b2.mono B1.out.size))
      clear b2
      go_wp2_with fail
      go_ret
      exact ⟨rfl, B2.out⟩
    · have E := Lib.hid (show side lo hi V = 0 by simp [side, h, h2])
      rw [E.out]
      clear E
      go_enter Tryd.func32, Tryd.ntmps32
      go_wp2_with fail
      refine (HC.out _ (HB.out _ _)).mono ?_
      rintro e w1 ⟨rfl, b1⟩
      obtain ⟨hc1, hf1⟩ := bcell b1
      have B1 := Lib.hid ((HB.out _ _).trans (b1.mono (by simp; omega)))
      clear b1
      go_wp2_with fail
      refine (HD.out _ B1.out).mono ?_
      rintro e w2 ⟨rfl, b2⟩
      have B2 := Lib.hid (B1.out.trans (b2.mono B1.out.size))
      clear b2
      go_wp2_with fail
      go_ret
      exact ⟨rfl, B2.out⟩

/-- numbers in a box: a slice of the call's own -/
def Ids (ib : Nat) (w : World) (l : List Int) : Prop := ∃ v, w.heap[ib]? = some (.cells #[v] 23 (0, 0)) ∧ w.ownsRow (ib + 1) 3 1 v l.length (l.map (Value.int .i64))
theorem Ids.below {ib : Nat} {w w' : World} {l : List Int} (h : Ids ib w l) (hb : Below w.heap.size w w') : Ids ib w' l := by
  obtain ⟨v, h1, h2⟩ := h
  refine ⟨v, (hb.block _ (lt_of_block h1)).trans h1, h2.1, ?_⟩
  rcases h2.2 with h | ⟨g, cap, cur, hv, hg, hh, r⟩
  · exact .inl h
  · exact .inr ⟨g, cap, cur, hv, hg, (hb.block g (lt_of_block hh)).trans hh, r⟩

theorem ownsRow_slice {w : World} {base : Nat} {e : TypeId} {size : Nat} {v : Value} {n : Nat} {xs : List Value} (h : w.ownsRow base e size v n xs) : ∃ a n' c, v = .slice a n' c := by
  rcases h.2 with ⟨rfl, h0⟩ | ⟨g, cap, cur, rfl, _⟩
  · exact ⟨_, _, _, rfl⟩
  · exact ⟨_, _, _, rfl⟩
/-- what the closure leaves -/
def Visited (ib : Nat) (l : List Int) (w : World) (e : Ending) (w' : World) : Prop := e = .returned (.tuple #[]) ∧ Ids ib w' l ∧ Below ib w w'

set_option maxHeartbeats 1000000 in
theorem visit_any (ib nb : Nat) (l : List Int) (i : Int) (w : World) (hI : Ids ib w l) (hn : w.cell? ⟨nb, 4, none⟩ = some (.int .i64 i)) (hl : l.length < 100000) :
    Calls Tryd.prog 33 #[.pointer (some ⟨nb, 0, none⟩), .pointer (some ⟨ib, 0, none⟩)] w (Visited ib (l ++ [i]) w) := by
  obtain ⟨v, hbx, hrow⟩ := hI
  obtain ⟨i0, hi, hz0, hz1, hz2⟩ := info_parts info_int
  have hc := cell_of_one hbx
  have hf := free_of_one hbx
  have hib : ib < w.heap.size := lt_of_block hbx
  have HBX := Lib.hid hbx
  have HROW := Lib.hid hrow
  clear hbx hrow
  obtain ⟨va, vn, vc, rfl⟩ : ∃ a n c, v = .slice a n c := by
    rcases HROW.out.2 with ⟨rfl, h0⟩ | ⟨g, cap, cur, rfl, _⟩
    · exact ⟨_, _, _, rfl⟩
    · exact ⟨_, _, _, rfl⟩
  have f1 : ∀ v' w1, w1.ownsRow (ib + 1) 3 1 v' (l.length + 1) (l.map (Value.int .i64) ++ [.int .i64 i]) → ∀ o, (w.alloc o).drew.grownBy w1 (Value.ownBlock (.slice va vn vc)) → w1.cell? ⟨ib, 0, none⟩ = some (.slice va vn vc) ∧ w1.frozen? ⟨ib, 0, none⟩ = false ∧ Visited ib (l ++ [i]) w (.returned (.tuple #[])) (w1.setCell ⟨ib, 0, none⟩ v') := by
    intro v' w1 ho o hgr
    have hneq : some ib ≠ Value.ownBlock (.slice va vn vc) := by
      rcases HROW.out.2 with ⟨h, _⟩ | ⟨g, cap, cur, h, hg, _⟩
      · cases h; simp [Value.ownBlock]
      · cases h; simp only [Value.ownBlock, ne_eq, Option.some.injEq]; omega
    have hb : w1.heap[ib]? = some (.cells #[.slice va vn vc] 23 (0, 0)) := (hgr.block ib (by simp; omega) hneq).trans ((Below.heap_alloc w _ ib hib).trans HBX.out)
    refine ⟨cell_of_one hb, free_of_one hb, rfl, ⟨v', one_setCell hb, ?_⟩, ?_⟩
    · have := ownsRow_setCell_below ho (a := ⟨ib, 0, none⟩) (by show ib < ib + 1; omega) v'
      simpa using this
    · refine (((Below.refl ib w).alloc (by omega) o).drew.grown hgr (by simp; omega) (fun k hk => ?_)).setCell (Nat.le_refl _) _
      rcases HROW.out.2 with ⟨h, _⟩ | ⟨g, cap, cur, h, hg, _⟩
      · cases h; cases hk
      · cases h; cases hk; show ib ≤ g; omega
  have FF := Lib.hid f1
  clear f1
  go_enter Tryd.func33, Tryd.ntmps33
  go_region_law (refine step_append_own rfl (.tmp 3) (.tmp 9) 23 rfl (ib + 1) 3 i0 (.int .i64 0) 1 8 Tryd.underlying23 hi hz0 hz1 hz2 rfl (by decide) _ _ _ (by simp [Act.eval]) (HROW.out.drew.alloc _) ⟨w.heap.size, 0, none⟩ 1 1 [.int .i64 i] (by simp [Act.eval]) rfl (cell_one_new _ _ _) (by simp [Value.oneCell']) (by unfold maxLen; omega) (by omega) (by simp; omega) ?_; intro v' w1 hown' hgrow; obtain ⟨xa, xn, xc, rfl⟩ := ownsRow_slice hown'; obtain ⟨g1, g2, g3⟩ := FF.out _ w1 hown' _ hgrow; have G3 := Lib.hid g3; clear g3 hown' hgrow)
  all_goals (go_end0; exact G3.out)

theorem walk_len (lo hi : Vl) (t : Tr) : (t.walk lo hi).length ≤ t.n := by
  induction t with
  | nil => exact Nat.le_refl _
  | node l v i r ihl ihr =>
    rw [Tr.walk, Tr.n, List.length_append, List.length_append]
    have h1 : (if 0 ≤ side lo hi v then l.walk lo hi else []).length ≤ l.n := by split; exact ihl; simp
    have h2 : (if side lo hi v = 0 then [i] else []).length ≤ 1 := by split <;> simp
    have h3 : (if side lo hi v ≤ 0 then r.walk lo hi else []).length ≤ r.n := by split; exact ihr; simp
    omega
/-- the two function values that Range hands to walk -/
def sideF (lo hi : Vl) (sl sr : Value) : Value := .func (.func 32) #[spV lo hi sl sr] #[]
def visitF (ib : Nat) : Value := .func (.func 33) #[] #[.pointer (some ⟨ib, 0, none⟩)]

set_option maxHeartbeats 1000000 in
theorem walk_T (W0 : World) (ib : Nat) (h0 : W0.heap.size ≤ ib) (lo hi : Vl) (sl sr : Value) (hlo : IsL W0 sl lo.l) (hhi : IsL W0 sr hi.l) (t : Tr) : ∀ (w : World) (p : Option Nat) (S : Nat → Prop) (l : List Int), IsT W0 t p S → Below ib W0 w → Ids ib w l → l.length + t.n < 100000 →
    Calls Tryd.prog 31 #[.pointer (pa p), sideF lo hi sl sr, visitF ib] w (Visited ib (l ++ t.walk lo hi) w) := by
  induction t with
  | nil =>
    intro w p S l hT hB hI _
    obtain ⟨rfl, _⟩ := hT
    rw [show pa none = none from rfl]
    have G : Hid (Visited ib (l ++ Tr.walk lo hi .nil) w (.returned (.tuple #[])) w) := ⟨rfl, by simpa [Tr.walk] using hI, Below.refl _ _⟩
    clear hI
    unfold sideF visitF
    go_enter Tryd.func31, Tryd.ntmps31
    go_wp2_with fail
    go_end0
    exact G.out
  | node lt v i rt ihl ihr =>
    intro w p S l hT hB hI hsz
    obtain ⟨b, lp, rp, sv, Sl, Sr, rfl, hn, hS⟩ := Node.of_T hT
    rw [show pa (some b) = some ⟨b, 0, none⟩ from rfl]
    obtain ⟨h1, hN⟩ := hn.obj
    have hbl : b < W0.heap.size := lt_of_block hN
    have hbi : b < ib := by omega
    obtain ⟨va, vl, vc, rfl⟩ := hn.lst.1.slice
    have sz := hsz
    rw [Tr.n] at sz
    have NB : Hid (∀ W, Below ib W0 W → W.heap[b]? = some (nodeObj v.k v.n v.s (.slice va vl vc) i lp rp h1)) := fun W h => (h.block b hbi).trans hN
    have HSD : Hid (∀ W, Below ib W0 W → Calls Tryd.prog 32 #[spV lo hi sl sr, prV v (.slice va vl vc) i] W fun e w' => e = .returned (.int .i64 (side lo hi v)) ∧ Below W.heap.size W w') := fun W h => side_any lo hi v sl sr _ i W (hlo.below (h.mono h0)) (hhi.below (h.mono h0)) (hn.lst.1.below (h.mono h0))
    have IHL : Hid (∀ (w : World) (l : List Int), Below ib W0 w → Ids ib w l → l.length + lt.n < 100000 → Calls Tryd.prog 31 #[.pointer (pa lp), sideF lo hi sl sr, visitF ib] w (Visited ib (l ++ lt.walk lo hi) w)) := fun w l h1 h2 h3 => ihl w lp Sl l hn.lt h1 h2 h3
    have IHR : Hid (∀ (w : World) (l : List Int), Below ib W0 w → Ids ib w l → l.length + rt.n < 100000 → Calls Tryd.prog 31 #[.pointer (pa rp), sideF lo hi sl sr, visitF ib] w (Visited ib (l ++ rt.walk lo hi) w)) := fun w l h1 h2 h3 => ihr w rp Sr l hn.rt h1 h2 h3
    have hwl : (lt.walk lo hi).length ≤ lt.n := walk_len lo hi lt
    have hw : ib < w.heap.size := by obtain ⟨_, h, _⟩ := hI; exact lt_of_block h
    have HI := Lib.hid hI
    have HB := Lib.hid hB
    have E := Lib.hid (show (Tr.node lt v i rt).walk lo hi = (if 0 ≤ side lo hi v then lt.walk lo hi else []) ++ (if side lo hi v = 0 then [i] else []) ++ (if side lo hi v ≤ 0 then rt.walk lo hi else []) from rfl)
    rw [E.out]
    clear ihl ihr hT hS hN hn hI hB E hsz
    obtain ⟨⟨c0, c1, c2, c3, c4⟩, c5, c6, c7⟩ := node_cells (NB.out w HB.out)
    have s3 := side_three lo hi v
    generalize side lo hi v = sd at *
    unfold prV at HSD
    unfold sideF visitF at *
    rcases s3 with rfl | rfl | rfl
    · go_enter Tryd.func31, Tryd.ntmps31
      go_wp2_with fail
      refine (HSD.out _ HB.out).mono ?_
      rintro e w1 ⟨rfl, b1⟩
      have HB1 := Lib.hid (HB.out.trans (b1.mono (Nat.le_of_lt hw)))
      have HI1 := Lib.hid (HI.out.below b1)
      have BB := Lib.hid (b1.mono (Nat.le_of_lt hw))
      clear b1 c0 c1 c2 c3 c4 c5 c6 c7
      obtain ⟨⟨c0, c1, c2, c3, c4⟩, c5, c6, c7⟩ := node_cells (NB.out w1 HB1.out)
      go_wp2_with fail
      refine (IHR.out _ l HB1.out HI1.out (by omega)).mono ?_
      rintro e w2 ⟨rfl, i2, b2⟩
      have G : Hid (Visited ib (l ++ rt.walk lo hi) w (.returned (.tuple #[])) w2) := ⟨rfl, i2, BB.out.trans b2⟩
      clear i2 b2
      go_wp2_with fail
      go_end0
      simpa using G.out
    · go_enter Tryd.func31, Tryd.ntmps31
      go_wp2_with fail
      refine (HSD.out _ HB.out).mono ?_
      rintro e w1 ⟨rfl, b1⟩
      have HB1 := Lib.hid (HB.out.trans (b1.mono (Nat.le_of_lt hw)))
      have HI1 := Lib.hid (HI.out.below b1)
      have BB := Lib.hid (b1.mono (Nat.le_of_lt hw))
      clear b1 c0 c1 c2 c3 c4 c5 c6 c7
      obtain ⟨⟨c0, c1, c2, c3, c4⟩, c5, c6, c7⟩ := node_cells (NB.out w1 HB1.out)
      go_wp2_with fail
      refine (IHL.out _ l HB1.out HI1.out (by omega)).mono ?_
      rintro e w2 ⟨rfl, i2, b2⟩
      have HB2 := Lib.hid (HB1.out.trans b2)
      have BB2 := Lib.hid (BB.out.trans b2)
      have HI2 := Lib.hid i2
      clear i2 b2 c0 c1 c2 c3 c4 c5 c6 c7
      obtain ⟨⟨c0, c1, c2, c3, c4⟩, c5, c6, c7⟩ := node_cells (NB.out w2 HB2.out)
      go_wp2_with fail
      refine (visit_any ib b _ i w2 HI2.out c4 (by simp; omega)).mono ?_
      rintro e w3 ⟨rfl, i3, b3⟩
      have HB3 := Lib.hid (HB2.out.trans b3)
      have BB3 := Lib.hid (BB2.out.trans b3)
      have HI3 := Lib.hid i3
      clear i3 b3 c0 c1 c2 c3 c4 c5 c6 c7
      obtain ⟨⟨c0, c1, c2, c3, c4⟩, c5, c6, c7⟩ := node_cells (NB.out w3 HB3.out)
      go_wp2_with fail
      refine (IHR.out _ _ HB3.out HI3.out (by simp; omega)).mono ?_
      rintro e w4 ⟨rfl, i4, b4⟩
      have G : Hid (Visited ib (l ++ lt.walk lo hi ++ [i] ++ rt.walk lo hi) w (.returned (.tuple #[])) w4) := ⟨rfl, i4, BB3.out.trans b4⟩
      clear i4 b4
      go_wp2_with fail
      go_end0
      simpa using G.out
    · go_enter Tryd.func31, Tryd.ntmps31
      go_wp2_with fail
      refine (HSD.out _ HB.out).mono ?_
      rintro e w1 ⟨rfl, b1⟩
      have HB1 := Lib.hid (HB.out.trans (b1.mono (Nat.le_of_lt hw)))
      have HI1 := Lib.hid (HI.out.below b1)
      have BB := Lib.hid (b1.mono (Nat.le_of_lt hw))
      clear b1 c0 c1 c2 c3 c4 c5 c6 c7
      obtain ⟨⟨c0, c1, c2, c3, c4⟩, c5, c6, c7⟩ := node_cells (NB.out w1 HB1.out)
      go_wp2_with fail
      refine (IHL.out _ l HB1.out HI1.out (by omega)).mono ?_
      rintro e w2 ⟨rfl, i2, b2⟩
      have G : Hid (Visited ib (l ++ lt.walk lo hi) w (.returned (.tuple #[])) w2) := ⟨rfl, i2, BB.out.trans b2⟩
      clear i2 b2
      go_wp2_with fail
      go_end0
      simpa using G.out
end Go.Proofs.YtifaaacbbjlffaaDoor
