/- The contracts of Index.Range and Find. -/
import Derived.Test.YtifaaacbbjlffaaDoorIdxDrop
namespace Mor
def rangeL (lo hi : Vl) (L : List Pr) : List Int := if rightV lo = true then (if rightV hi = true then rng lo hi L else []) else []
end Mor
namespace Go.Proofs.YtifaaacbbjlffaaDoor
open Go.RowKit Mor

/-- a slice of numbers -/
def IsI (w : World) (v : Value) (l : List Int) : Prop := ∃ (a : Option Addr) (c : Nat), v = .slice a l.length c ∧ l.length < 1000000 ∧ l.length ≤ c ∧ c ≤ maxLen ∧ (a = none → c = 0) ∧ ∀ j x, l[j]? = some x → (∃ b o, a = some ⟨b, o, none⟩ ∧ w.cell? ⟨b, o + j, none⟩ = some (.int .i64 x)) ∧ ∃ ad arr fr, a = some ad ∧ w.heap[ad.block]? = some (.cells arr 3 fr)
theorem IsI.below {w w' : World} {v : Value} {l : List Int} (h : IsI w v l) (hb : Below w.heap.size w w') : IsI w' v l := by
  obtain ⟨a, c, h1, h2, h3, h4, h5, h6⟩ := h
  refine ⟨a, c, h1, h2, h3, h4, h5, fun j x hj => ?_⟩
  obtain ⟨⟨b, o, e, hc⟩, ad, arr, fr, ha, hbk⟩ := h6 j x hj
  refine ⟨⟨b, o, e, ?_⟩, ad, arr, fr, ha, (hb.block _ (lt_of_block hbk)).trans hbk⟩
  obtain ⟨o', ho, _⟩ := cells_of_cell hc
  rw [hb.cell (p := ⟨b, o + j, none⟩) (lt_of_block ho)]
  exact hc
theorem IsI.fx {base : Nat} {w w' : World} {v : Value} {l : List Int} (h : IsI w v l) (hf : Fx base w w') : IsI w' v l := by
  obtain ⟨a, c, h1, h2, h3, h4, h5, h6⟩ := h
  refine ⟨a, c, h1, h2, h3, h4, h5, fun j x hj => ?_⟩
  obtain ⟨⟨b, o, e, hc⟩, ad, arr, fr, ha, hbk⟩ := h6 j x hj
  have key : w'.heap[ad.block]? = w.heap[ad.block]? := hf.block _ (lt_of_block hbk) (.inr (by
    rintro (⟨arr', fr', h2⟩ | ⟨arr', fr', h2⟩)
    · have := Option.some.inj (hbk.symm.trans h2)
      injection this with _ e2; exact absurd e2 (by decide)
    · have := Option.some.inj (hbk.symm.trans h2)
      injection this with _ e2; exact absurd e2 (by decide)))
  refine ⟨⟨b, o, e, ?_⟩, ad, arr, fr, ha, key.trans hbk⟩
  rw [e] at ha
  cases ha
  exact (World.cell?_of_block (w := w) (a := ⟨b, o + j, none⟩) key).trans hc
theorem isI_own {w : World} {base : Nat} {v : Value} {l : List Int} (hl : l.length < 1000000) (h : w.ownsRow base 3 1 v l.length (l.map (Value.int .i64))) : IsI w v l := by
  have hx := h
  rcases h.2 with ⟨rfl, h0⟩ | ⟨g, cap, cur, rfl, hg, hh, hc, hm, hr⟩
  · have : l = [] := List.eq_nil_of_length_eq_zero h0
    subst this
    exact ⟨none, 0, rfl, by simp, Nat.le_refl _, by unfold maxLen; omega, fun _ => rfl, fun j x hj => by simp at hj⟩
  · refine ⟨some ⟨g, 0, none⟩, cap, rfl, hl, hc, hm, (fun h => by cases h), fun j x hj => ⟨⟨g, 0, rfl, ?_⟩, _, _, _, rfl, hh⟩⟩
    have hjl : j < l.length := (List.getElem?_eq_some_iff.1 hj).1
    have := hx.cellAt j (by omega)
    simp only [Nat.zero_add] at *
    rw [show ((⟨g, j, none⟩ : Addr)) = (⟨g, 0 + j, none⟩ : Addr) by rw [Nat.zero_add]]
    simpa [hj] using this

/-- what a call leaves that hands back numbers -/
def GivesI (l : List Int) (w : World) (e : Ending) (w' : World) : Prop := ∃ v, e = .returned v ∧ IsI w' v l ∧ Below w.heap.size w w'
theorem isI_nil (w : World) : IsI w (.slice none 0 0) [] := ⟨none, 0, rfl, by simp, Nat.le_refl _, by unfold maxLen; omega, fun _ => rfl, fun j x hj => by simp at hj⟩

theorem range_none (lo hi : Vl) (v u : Value) (w : World) (hv : IsVx w v lo) (hu : IsVx w u hi) : Calls Tryd.prog 17 #[.pointer none, v, u] w (GivesI [] w) := by
  obtain ⟨sl, rfl, hl⟩ := hv
  obtain ⟨la, ll, lc, rfl⟩ := hl.1.slice
  obtain ⟨sr, rfl, hr⟩ := hu
  obtain ⟨ra, rl, rc, rfl⟩ := hr.1.slice
  clear hl hr
  go_enter Tryd.func17, Tryd.ntmps17
  go_wp2_with fail
  go_ret
  exact ⟨_, rfl, isI_nil _, ((Below.refl _ w).alloc (Nat.le_refl _) _).alloc (by simp) _⟩

set_option maxHeartbeats 2000000 in
theorem range_any {base xb : Nat} {L : List Pr} (lo hi : Vl) (v u : Value) (w : World) (hT : Tabs w) (hzl : SzV lo) (hzh : SzV hi) (hv : IsVx w v lo) (hu : IsVx w u hi) (hX : IsX base w xb L) (hsz : L.length < 10000) :
    Calls Tryd.prog 17 #[.pointer (some ⟨xb, 0, none⟩), v, u] w (GivesI (rangeL lo hi L) w) := by
  have HB := Lib.hid (fun (o o' : Obj) => ((Below.refl w.heap.size w).alloc (Nat.le_refl _) o).alloc (by simp) o')
  have HR := Lib.hid (fun W (hW : Below w.heap.size w W) => right_any lo v W (hT.below hW) hzl (hv.v.below hW))
  have HR2 := Lib.hid (fun W (hW : Below w.heap.size w W) => right_any hi u W (hT.below hW) hzh (hu.v.below hW))
  obtain ⟨sl, rfl, hl⟩ := hv
  obtain ⟨la, ll, lc, rfl⟩ := hl.1.slice
  obtain ⟨sr, rfl, hr⟩ := hu
  obtain ⟨ra, rl, rc, rfl⟩ := hr.1.slice
  unfold rangeL
  cases r1 : rightV lo
  · rw [r1] at HR
    clear hl hr hT hX hzl hzh r1
    go_enter Tryd.func17, Tryd.ntmps17
    go_wp2_with fail
    refine (HR.out _ (HB.out _ _)).mono ?_
    rintro e w1 ⟨rfl, b1⟩
    have B1 := Lib.hid ((HB.out _ _).trans (b1.mono (by simp; omega)))
    clear b1
    go_wp2_with fail
    go_ret
    exact ⟨_, rfl, isI_nil _, B1.out⟩
  · cases r2 : rightV hi
    · rw [r1] at HR
      rw [r2] at HR2
      clear hl hr hT hX hzl hzh r1 r2
      go_enter Tryd.func17, Tryd.ntmps17
      go_wp2_with fail
      refine (HR.out _ (HB.out _ _)).mono ?_
      rintro e w1 ⟨rfl, b1⟩
      obtain ⟨hc1, hf1⟩ := bcell b1
      have B1 := Lib.hid ((HB.out _ _).trans (b1.mono (by simp; omega)))
      clear b1
      go_wp2_with fail
      refine (HR2.out _ B1.out).mono ?_
      rintro e w2 ⟨rfl, b2⟩
      have B2 := Lib.hid (B1.out.trans (b2.mono B1.out.size))
      clear b2
      go_wp2_with fail
      go_ret
      exact ⟨_, rfl, isI_nil _, B2.out⟩
    · rw [r1] at HR
      rw [r2] at HR2
      obtain ⟨t, p, S, x1, x2, rfl, x4, x5, x6⟩ := hX
      have HW := Lib.hid (fun W0 (h0 : Below w.heap.size w W0) W (hB : Below W0.heap.size W0 W) (hI : Ids W0.heap.size W []) => walk_T W0 W0.heap.size (Nat.le_refl _) lo hi _ _ (hl.1.below h0) (hr.1.below h0) t W p S [] (x2.below h0) hB hI (by rw [Tr.n_toL] at hsz; simp; omega))
      have EW := Lib.hid (walk_rng lo hi t x4)
      have hwl : (t.walk lo hi).length ≤ t.n := walk_len lo hi t
      have htn : t.n < 10000 := by rw [Tr.n_toL] at hsz; exact hsz
      have X1 := Lib.hid x1
      have xlt := lt_of_block x1
      unfold sideF visitF spV at HW
      clear hl hr hT hzl hzh r1 r2 x1 x2 x4 x5 x6
      go_enter Tryd.func17, Tryd.ntmps17
      go_wp2_with fail
      refine (HR.out _ (HB.out _ _)).mono ?_
      rintro e w1 ⟨rfl, b1⟩
      have z1 : w.heap.size + 2 ≤ w1.heap.size := by have := b1.size; simpa using this
      have vb1 : w1.heap[w.heap.size]? = some (valObj lo (.slice la ll lc)) := (b1.block _ (by simp; omega)).trans ((Below.heap_alloc _ _ _ (by simp)).trans (new_block w _ _ rfl))
      have vc1 : w1.heap[w.heap.size + 1]? = some (valObj hi (.slice ra rl rc)) := (b1.block _ (by simp)).trans (new_block _ _ _ (by simp))
      have B1 := Lib.hid ((HB.out (valObj lo (.slice la ll lc)) (valObj hi (.slice ra rl rc))).trans (b1.mono (by simp; omega)))
      have VB1 := Lib.hid vb1
      have VC1 := Lib.hid vc1
      obtain ⟨d0, d1, d2, d3⟩ := val_cells vc1
      clear b1 vb1 vc1
      go_wp2_with fail
      refine (HR2.out _ B1.out).mono ?_
      rintro e w2 ⟨rfl, b2⟩
      have z2 : w1.heap.size ≤ w2.heap.size := b2.size
      have B2 := Lib.hid (B1.out.trans (b2.mono B1.out.size))
      have vb2 := (b2.block _ (lt_of_block VB1.out)).trans VB1.out
      have vc2 := (b2.block _ (lt_of_block VC1.out)).trans VC1.out
      have xb2 := (B2.out.block _ xlt).trans X1.out
      clear d0 d1 d2 d3 b2
      obtain ⟨d0, d1, d2, d3⟩ := val_cells vb2
      obtain ⟨e0, e1, e2, e3⟩ := val_cells vc2
      obtain ⟨r0, r1⟩ := idx_cells xb2
      have hlt2 : w.heap.size < w2.heap.size := by omega
      have hlt3 : w.heap.size + 1 < w2.heap.size := by omega
      have hlt4 : xb < w2.heap.size := by omega
      clear vb2 vc2 xb2
      go_wp2_with fail
      refine wp_still_tail 7 (by kernel_rfl) (by kernel_rfl) ?_
      simp only [List.take_succ_cons, List.take_zero, List.drop_succ_cons, List.drop_zero]
      repeat still_step
      refine wpStill_nil ?_
      go_wp2_with fail
      have hI : ∀ o : Obj, Ids w2.heap.size (((w2.alloc (.cells #[.slice none 0 0] 23)).alloc o).drew) [] := fun o => ⟨.slice none 0 0, (Below.heap_alloc _ _ _ (by simp)).trans (new_block w2 _ _ rfl), World.ownsRow_nil _ _ _ _⟩
      have hBI : ∀ o o' : Obj, Below w2.heap.size w2 (((w2.alloc o).alloc o').drew) := fun o o' => (((Below.refl _ w2).alloc (Nat.le_refl _) _).alloc (by simp) _).drew
      refine (HW.out w2 B2.out _ (hBI _ _) (hI _)).mono ?_
      intro e w3 hG
      obtain ⟨rfl, i3, b3⟩ := hG
      obtain ⟨v3, h3, o3⟩ := i3
      have c3 := cell_of_one h3
      have B3 : Hid (Below w.heap.size w w3) := B2.out.trans (((hBI (.cells #[.slice none 0 0] 23) (.cells #[.int .i64 lo.k, .int .i64 lo.n, .string lo.s, .slice la ll lc, .int .i64 hi.k, .int .i64 hi.n, .string hi.s, .slice ra rl rc] 62)).trans b3).mono (by omega))
      obtain ⟨va, vn, vc, rfl⟩ := ownsRow_slice o3
      have G : Hid (GivesI (rng lo hi t.toL) w (.returned (.slice va vn vc)) w3) := by
        rw [← EW.out]
        rw [List.nil_append] at o3
        exact ⟨_, rfl, isI_own (by omega) o3, B3.out⟩
      clear h3 o3 b3 hI hBI
      go_wp2_with fail
      go_ret
      exact G.out

theorem find_any {base xb : Nat} {L : List Pr} (lo : Vl) (v : Value) (w : World) (hT : Tabs w) (hzl : SzV lo) (hv : IsVx w v lo) (hX : IsX base w xb L) (hsz : L.length < 10000) :
    Calls Tryd.prog 14 #[.pointer (some ⟨xb, 0, none⟩), v] w (GivesI (rangeL lo lo L) w) := by
  have HR := Lib.hid (fun W (hW : Below w.heap.size w W) => range_any lo lo v v W (hT.below hW) hzl hzl (hv.below hW) (hv.below hW) (hX.below hW) hsz)
  have HB := Lib.hid (fun (o : Obj) => (Below.refl w.heap.size w).alloc (Nat.le_refl _) o)
  obtain ⟨sl, rfl, hl⟩ := hv
  obtain ⟨la, ll, lc, rfl⟩ := hl.1.slice
  clear hl hT hX hzl
  go_enter Tryd.func14, Tryd.ntmps14
  go_wp2_with fail
  refine (HR.out _ (HB.out _)).mono ?_
  intro e w1 hG
  obtain ⟨v1, rfl, i1, b1⟩ := hG
  obtain ⟨a1, c1, rfl, hi1⟩ := i1
  have G : Hid (GivesI (rangeL lo lo L) w (.returned (.slice a1 (rangeL lo lo L).length c1)) w1) := ⟨_, rfl, ⟨a1, c1, rfl, hi1⟩, (HB.out _).trans (b1.mono (by simp))⟩
  clear hi1 b1
  generalize (rangeL lo lo L).length = n at *
  go_wp2_with fail
  go_ret
  exact G.out
theorem find_none (lo : Vl) (v : Value) (w : World) (hv : IsVx w v lo) : Calls Tryd.prog 14 #[.pointer none, v] w (GivesI [] w) := by
  have HR := Lib.hid (fun W (hW : Below w.heap.size w W) => range_none lo lo v v W (hv.below hW) (hv.below hW))
  have HB := Lib.hid (fun (o : Obj) => (Below.refl w.heap.size w).alloc (Nat.le_refl _) o)
  obtain ⟨sl, rfl, hl⟩ := hv
  obtain ⟨la, ll, lc, rfl⟩ := hl.1.slice
  clear hl
  go_enter Tryd.func14, Tryd.ntmps14
  go_wp2_with fail
  refine (HR.out _ (HB.out _)).mono ?_
  intro e w1 hG
  obtain ⟨v1, rfl, i1, b1⟩ := hG
  obtain ⟨a1, c1, rfl, hi1⟩ := i1
  have G : Hid (GivesI [] w (.returned (.slice a1 0 c1)) w1) := ⟨_, rfl, ⟨a1, c1, rfl, hi1⟩, (HB.out _).trans (b1.mono (by simp))⟩
  clear hi1 b1
  go_wp2_with fail
  go_ret
  exact G.out
end Go.Proofs.YtifaaacbbjlffaaDoor
