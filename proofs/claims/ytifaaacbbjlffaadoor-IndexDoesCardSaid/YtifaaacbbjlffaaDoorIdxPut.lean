/- The contract of Index.Put. -/
import Derived.Test.YtifaaacbbjlffaaDoorIdxOps
namespace Mor
def putE (V : Vl) (i : Int) (L : List Pr) : Int := if okB V i = true then (if has (V, i) L = true then 150 else 0) else 2
def putL (V : Vl) (i : Int) (L : List Pr) : List Pr := if okB V i = true then (if has (V, i) L = true then L else ins (V, i) L) else L
end Mor
namespace Go.Proofs.YtifaaacbbjlffaaDoor
open Go.RowKit Mor

/-- a value, its list in a block of its own type -/
def IsVx (w : World) (v : Value) (V : Vl) : Prop := ∃ sl, v = .agg #[.int .i64 V.k, .int .i64 V.n, .string V.s, sl] ∧ IsLx w sl V.l
theorem IsVx.v {w : World} {v : Value} {V : Vl} (h : IsVx w v V) : IsV w v V := by
  obtain ⟨sl, h1, h2⟩ := h
  exact ⟨sl, h1, h2.1⟩
theorem IsVx.below {w w' : World} {v : Value} {V : Vl} (h : IsVx w v V) (hb : Below w.heap.size w w') : IsVx w' v V := by
  obtain ⟨sl, h1, h2⟩ := h
  exact ⟨sl, h1, h2.below hb⟩
theorem IsVx.fx {base : Nat} {w w' : World} {v : Value} {V : Vl} (h : IsVx w v V) (hf : Fx base w w') : IsVx w' v V := by
  obtain ⟨sl, h1, h2⟩ := h
  exact ⟨sl, h1, h2.fx hf⟩

/-- what a call on an index leaves that returns a value -/
def Did (base xb : Nat) (r : Value) (L : List Pr) (w : World) (e : Ending) (w' : World) : Prop := e = .returned r ∧ IsX base w' xb L ∧ Fx base w w'

theorem pair_setV {w : World} {b : Nat} {V : Vl} {sl sl' : Value} {i : Int} (h : w.heap[b]? = some (pairObj V sl i)) :
    ((((w.setCell ⟨b, 0, none⟩ (.int .i64 V.k)).setCell ⟨b, 1, none⟩ (.int .i64 V.n)).setCell ⟨b, 2, none⟩ (.string V.s)).setCell ⟨b, 3, none⟩ sl').heap[b]? = some (pairObj V sl' i) :=
  heap_setCell_same _ (heap_setCell_same _ (heap_setCell_same _ (heap_setCell_same _ h)))

set_option maxHeartbeats 1000000 in
theorem put_no {base xb : Nat} {L : List Pr} (V : Vl) (v : Value) (i : Int) (w : World) (hT : Tabs w) (hz : SzV V) (hv : IsVx w v V) (hX : IsX base w xb L) (hok : okB V i = false) :
    Calls Tryd.prog 21 #[.pointer (some ⟨xb, 0, none⟩), v, .int .i64 i] w (Did base xb (.int .i64 2) L w) := by
  have HB := Lib.hid (fun (o : Obj) => (Below.refl w.heap.size w).alloc (Nat.le_refl _) o)
  have HR := Lib.hid (fun W (hW : Below w.heap.size w W) => rightX_any V v i W (hT.below hW) hz (hv.v.below hW))
  rw [hok] at HR
  have HX := Lib.hid hX
  obtain ⟨sl, rfl, hl⟩ := hv
  obtain ⟨la, ll, lc, rfl⟩ := hl.1.slice
  clear hl hz hT hX hok
  go_enter Tryd.func21, Tryd.ntmps21
  go_wp2_with fail
  refine (HR.out _ (HB.out _)).mono ?_
  rintro e w1 ⟨rfl, b1⟩
  have B1 := Lib.hid ((HB.out _).trans (b1.mono (by simp)))
  clear b1
  go_wp2_with fail
  go_ret
  exact ⟨rfl, HX.out.below B1.out, Fx.of_below B1.out⟩

set_option maxHeartbeats 2000000 in
theorem put_has {base xb : Nat} {L : List Pr} (V : Vl) (v : Value) (i : Int) (w : World) (hT : Tabs w) (hz : SzV V) (hv : IsVx w v V) (hX : IsX base w xb L) (hok : okB V i = true) (hh : has (V, i) L = true) :
    Calls Tryd.prog 21 #[.pointer (some ⟨xb, 0, none⟩), v, .int .i64 i] w (Did base xb (.int .i64 150) L w) := by
  have HB := Lib.hid (fun (o : Obj) => (Below.refl w.heap.size w).alloc (Nat.le_refl _) o)
  have HR := Lib.hid (fun W (hW : Below w.heap.size w W) => rightX_any V v i W (hT.below hW) hz (hv.v.below hW))
  rw [hok] at HR
  have HX := Lib.hid hX
  obtain ⟨sl, rfl, hl⟩ := hv
  obtain ⟨la, ll, lc, rfl⟩ := hl.1.slice
  obtain ⟨t, p, S, x1, x2, rfl, x4, x5, x6⟩ := hX
  have HH := Lib.hid (fun W (hW : Below w.heap.size w W) => has_T (V := V) (i' := i) ((idx_cells ((hW.block _ (lt_of_block x1)).trans x1)).1) (x2.below hW) (hl.1.below hW))
  rw [has_tree _ _ x4, hh] at HH
  unfold prV at HH
  clear hl hz hT hok hh x1 x2 x4 x5 x6
  go_enter Tryd.func21, Tryd.ntmps21
  go_wp2_with fail
  refine (HR.out _ (HB.out _)).mono ?_
  rintro e w1 ⟨rfl, b1⟩
  have B1 := Lib.hid ((HB.out _).trans (b1.mono (by simp)))
  have vb : w1.heap[w.heap.size]? = some (valObj V (.slice la ll lc)) := (b1.block _ (by simp)).trans (new_block w _ _ rfl)
  have vlt := lt_of_block vb
  obtain ⟨d0, d1, d2, d3⟩ := val_cells vb
  clear b1 vb
  go_wp2_with fail
  refine (HH.out _ (B1.out.alloc (Nat.le_of_lt vlt) _)).mono ?_
  rintro e w2 ⟨rfl, b2⟩
  have B2 := Lib.hid ((B1.out.alloc (Nat.le_of_lt vlt) (pairObj V (.slice la ll lc) i)).trans (b2.mono (by simp; omega)))
  clear b2
  go_wp2_with fail
  go_ret
  exact ⟨rfl, HX.out.below B2.out, Fx.of_below B2.out⟩

set_option maxHeartbeats 4000000 in
theorem put_new {base xb : Nat} {L : List Pr} (V : Vl) (v : Value) (i : Int) (w : World) (hT : Tabs w) (hz : SzV V) (hv : IsVx w v V) (hX : IsX base w xb L) (hok : okB V i = true) (hh : has (V, i) L = false) (hsz : L.length < 600) :
    Calls Tryd.prog 21 #[.pointer (some ⟨xb, 0, none⟩), v, .int .i64 i] w (Did base xb (.int .i64 0) (ins (V, i) L) w) := by
  have HB := Lib.hid (fun (o : Obj) => (Below.refl w.heap.size w).alloc (Nat.le_refl _) o)
  have HR := Lib.hid (fun W (hW : Below w.heap.size w W) => rightX_any V v i W (hT.below hW) hz (hv.v.below hW))
  rw [hok] at HR
  obtain ⟨sl, rfl, hl⟩ := hv
  obtain ⟨la, ll, lc, rfl⟩ := hl.1.slice
  obtain ⟨t, p, S, x1, x2, rfl, x4, x5, x6⟩ := hX
  have hnot : (V, i) ∉ t.toL := fun h => by rw [has_iff.2 h] at hh; cases hh
  have HH := Lib.hid (fun W (hW : Below w.heap.size w W) => has_T (V := V) (i' := i) ((idx_cells ((hW.block _ (lt_of_block x1)).trans x1)).1) (x2.below hW) (hl.1.below hW))
  rw [has_tree _ _ x4, hh] at HH
  have HC := Lib.hid (fun W (hW : Below w.heap.size w W) => copied_any V _ W (hl.1.below hW))
  have HP := Lib.hid (fun W sl' (h1 : IsT W t p S) (h2 : IsLt W sl' V.l) => put_T V i sl' t W p S h1 (by rw [Tr.n_toL] at hsz; omega) h2)
  unfold prV at HH HP
  have X1 := Lib.hid x1
  have X2 := Lib.hid x2
  have X4 := Lib.hid x4
  have X6 := Lib.hid x6
  have xlt := lt_of_block x1
  have NOT := Lib.hid hnot
  clear hl hz hT hok hh x1 x2 x4 x6 hnot
  go_enter Tryd.func21, Tryd.ntmps21
  go_wp2_with fail
  refine (HR.out _ (HB.out _)).mono ?_
  rintro e w1 ⟨rfl, b1⟩
  have B1 := Lib.hid ((HB.out _).trans (b1.mono (by simp)))
  have vb : w1.heap[w.heap.size]? = some (valObj V (.slice la ll lc)) := (b1.block _ (by simp)).trans (new_block w _ _ rfl)
  have vlt := lt_of_block vb
  obtain ⟨d0, d1, d2, d3⟩ := val_cells vb
  have VB := Lib.hid vb
  clear b1 vb
  go_wp2_with fail
  refine (HH.out _ (B1.out.alloc (Nat.le_of_lt vlt) _)).mono ?_
  rintro e w2 ⟨rfl, b2⟩
  have B2 := Lib.hid ((B1.out.alloc (Nat.le_of_lt vlt) (pairObj V (.slice la ll lc) i)).trans (b2.mono (by simp; omega)))
  have vb2 : w2.heap[w.heap.size]? = some (valObj V (.slice la ll lc)) := (b2.block _ (by simp; omega)).trans ((Below.heap_alloc _ _ _ vlt).trans VB.out)
  have pb2 : w2.heap[w1.heap.size]? = some (pairObj V (.slice la ll lc) i) := (b2.block _ (by simp)).trans (new_block w1 _ _ rfl)
  have plt := lt_of_block pb2
  have PB2 := Lib.hid pb2
  clear d0 d1 d2 d3 b2
  obtain ⟨d0, d1, d2, d3⟩ := val_cells vb2
  clear vb2 pb2
  go_wp2_with fail
  refine (HC.out _ B2.out).mono ?_
  intro e w3 hG
  obtain ⟨sl3, rfl, l3, b3⟩ := hG
  have z12 : w.heap.size ≤ w1.heap.size := Nat.le_of_lt vlt
  have z2 : w.heap.size ≤ w2.heap.size := by omega
  have B3 := Lib.hid (B2.out.trans (b3.mono z2))
  have pb3 : w3.heap[w1.heap.size]? = some (pairObj V (.slice la ll lc) i) := (b3.block _ plt).trans PB2.out
  obtain ⟨la3, ll3, lc3, rfl⟩ := l3.1.slice
  have L3 := Lib.hid l3
  obtain ⟨q0, q1, q2, q3, q4⟩ := pair_cells pb3
  have qf := pair_free pb3
  have PB3 := Lib.hid pb3
  clear d0 d1 d2 d3 b3 l3 pb3
  go_wp2_with fail
  have pb4 := pair_setV (sl' := .slice la3 ll3 lc3) PB3.out
  have B4 : Below w.heap.size w ((((w3.setCell ⟨w1.heap.size, 0, none⟩ (.int .i64 V.k)).setCell ⟨w1.heap.size, 1, none⟩ (.int .i64 V.n)).setCell ⟨w1.heap.size, 2, none⟩ (.string V.s)).setCell ⟨w1.heap.size, 3, none⟩ (.slice la3 ll3 lc3)) := (((B3.out.setCell z12 _).setCell z12 _).setCell z12 _).setCell z12 _
  have l4 : IsLx ((((w3.setCell ⟨w1.heap.size, 0, none⟩ (.int .i64 V.k)).setCell ⟨w1.heap.size, 1, none⟩ (.int .i64 V.n)).setCell ⟨w1.heap.size, 2, none⟩ (.string V.s)).setCell ⟨w1.heap.size, 3, none⟩ (.slice la3 ll3 lc3)) (.slice la3 ll3 lc3) V.l := by
    refine L3.out.keep fun k arr fr hk => ?_
    have hne : k ≠ w1.heap.size := fun e => by
      subst e
      have := Option.some.inj (hk.symm.trans PB3.out)
      injection this with _ e2; exact absurd e2 (by decide)
    rw [Below.heap_setCell _ _ _ _ hne, Below.heap_setCell _ _ _ _ hne, Below.heap_setCell _ _ _ _ hne, Below.heap_setCell _ _ _ _ hne]
  generalize ((((w3.setCell ⟨w1.heap.size, 0, none⟩ (.int .i64 V.k)).setCell ⟨w1.heap.size, 1, none⟩ (.int .i64 V.n)).setCell ⟨w1.heap.size, 2, none⟩ (.string V.s)).setCell ⟨w1.heap.size, 3, none⟩ (.slice la3 ll3 lc3)) = w4 at *
  have xb4 : w4.heap[xb]? = some (idxObj p t.toL.length) := (B4.block _ xlt).trans X1.out
  have XB4 := Lib.hid xb4
  have HB4 := Lib.hid B4
  have HL4 := Lib.hid l4
  clear q0 q1 q2 q3 q4 qf
  obtain ⟨q0, q1, q2, q3, q4⟩ := pair_cells pb4
  obtain ⟨r0, r1⟩ := idx_cells xb4
  clear pb4 B4 l4 xb4
  refine wp_take_tail 6 (.pointer (some ⟨xb, 0, none⟩)) (by kernel_rfl) (by kernel_rfl) (fun _ _ _ h => h) (Or.inl ⟨by rfl, fun w => by go_simp⟩) ?_
  simp only [List.take_succ_cons, List.take_zero, List.drop_succ_cons, List.drop_zero, Nat.reduceSub]
  go_simp
  repeat still_step
  refine wpStill_nil ?_
  go_wp2_with fail
  refine (HP.out _ _ (X2.out.fr (Fr.of_below HB4.out).drew (fun _ _ h => h)) (HL4.out.fr (Fr.refl w4).drew)).mono ?_
  intro e w5 hG
  obtain ⟨p5, S5, rfl, g1, g2, g3⟩ := hG
  have xS : ¬ S xb := fun hS => by
    obtain ⟨arr, fr, h⟩ := X2.out.node xb hS
    have := Option.some.inj (h.symm.trans X1.out)
    injection this with _ e2; exact absurd e2 (by decide)
  have xb5 : w5.heap[xb]? = some (idxObj p t.toL.length) := (g3.block xb (lt_of_block XB4.out) xS).trans XB4.out
  obtain ⟨r0', r1'⟩ := idx_cells xb5
  have rf := idx_free xb5
  have xb6 := idx_setP xb5 p5
  have r16 := (idx_cells xb6).2
  have rf6 := idx_free xb6
  have len0 : t.toL.length < 600 := hsz
  have xb7 : ((w5.setCell ⟨xb, 0, none⟩ (.pointer (pa p5))).setCell ⟨xb, 1, none⟩ (.int .i64 ((t.toL.length : Int) + 1))).heap[xb]? = some (idxObj p5 ((t.toL.length : Int) + 1)) := idx_setN xb6 _
  have f57 : ∀ k, k ≠ xb → ((w5.setCell ⟨xb, 0, none⟩ (.pointer (pa p5))).setCell ⟨xb, 1, none⟩ (.int .i64 ((t.toL.length : Int) + 1))).heap[k]? = w5.heap[k]? := fun k hk => by rw [Below.heap_setCell _ _ _ _ hk, Below.heap_setCell _ _ _ _ hk]
  have G : Hid (Did base xb (.int .i64 0) (ins (V, i) t.toL) w (.returned (.int .i64 0)) ((w5.setCell ⟨xb, 0, none⟩ (.pointer (pa p5))).setCell ⟨xb, 1, none⟩ (.int .i64 ((t.toL.length : Int) + 1)))) := by
    refine ⟨rfl, ⟨t.put (V, i), p5, S5, ?_, ?_, toL_put _ _ X4.out, sorted_ins X4.out NOT.out, x5, fun x hx => ?_⟩, ?_⟩
    · rw [xb7, ins_length]; rfl
    · have xS5 : ¬ S5 xb := fun h => by
        obtain ⟨arr, fr, h⟩ := g1.node xb h
        have := Option.some.inj (h.symm.trans xb5)
        injection this with _ e2; exact absurd e2 (by decide)
      refine g1.keep (fun k arr fr hk => f57 k (fun e => ?_)) (fun k hk => f57 k (fun e => xS5 (e ▸ hk)))
      subst e
      have := Option.some.inj (hk.symm.trans xb5)
      injection this with _ e2; exact absurd e2 (by decide)
    · rcases g2 x hx with h | h
      · exact X6.out x h
      · have : w4.heap.size ≤ x := h
        have := HB4.out.size
        omega
    · exact ((Fx.of_below HB4.out).drew.trans (Fx.of_fr g3 X6.out)).trans ((Fx.set xb5 x5 0 _).trans (Fx.set xb6 x5 1 _))
  clear g1 g2 g3 xS xb5 xb6 xb7 f57
  go_wp2_with fail
  go_ret
  exact G.out

theorem putX_any {base xb : Nat} {L : List Pr} (V : Vl) (v : Value) (i : Int) (w : World) (hT : Tabs w) (hz : SzV V) (hv : IsVx w v V) (hX : IsX base w xb L) (hsz : L.length < 600) :
    Calls Tryd.prog 21 #[.pointer (some ⟨xb, 0, none⟩), v, .int .i64 i] w (Did base xb (.int .i64 (putE V i L)) (putL V i L) w) := by
  unfold putE putL
  cases hok : okB V i
  · exact put_no V v i w hT hz hv hX hok
  · cases hh : has (V, i) L
    · exact put_new V v i w hT hz hv hX hok hh hsz
    · exact put_has V v i w hT hz hv hX hok hh
theorem putX_none (V : Vl) (v : Value) (i : Int) (w : World) (hv : IsVx w v V) : Calls Tryd.prog 21 #[.pointer none, v, .int .i64 i] w fun e w' => e = .returned (.int .i64 1) ∧ Below w.heap.size w w' := by
  obtain ⟨sl, rfl, hl⟩ := hv
  obtain ⟨la, ll, lc, rfl⟩ := hl.1.slice
  clear hl
  go_enter Tryd.func21, Tryd.ntmps21
  go_wp2_with fail
  go_ret
  exact ⟨rfl, (Below.refl _ w).alloc (Nat.le_refl _) _⟩
end Go.Proofs.YtifaaacbbjlffaaDoor
