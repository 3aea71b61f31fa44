/- The contract of Index.Drop. -/
import Derived.Test.YtifaaacbbjlffaaDoorIdxPut
namespace Mor
def dropE (V : Vl) (i : Int) (L : List Pr) : Bool := okB V i && has (V, i) L
def dropL (V : Vl) (i : Int) (L : List Pr) : List Pr := if dropE V i L = true then del (V, i) L else L
end Mor
namespace Go.Proofs.YtifaaacbbjlffaaDoor
open Go.RowKit Mor

set_option maxHeartbeats 1000000 in
theorem drop_no {base xb : Nat} {L : List Pr} (V : Vl) (v : Value) (i : Int) (w : World) (hT : Tabs w) (hz : SzV V) (hv : IsVx w v V) (hX : IsX base w xb L) (hok : okB V i = false) :
    Calls Tryd.prog 23 #[.pointer (some ⟨xb, 0, none⟩), v, .int .i64 i] w (Did base xb (.bool false) L w) := by
  have HB := Lib.hid (fun (o : Obj) => (Below.refl w.heap.size w).alloc (Nat.le_refl _) o)
  have HR := Lib.hid (fun W (hW : Below w.heap.size w W) => rightX_any V v i W (hT.below hW) hz (hv.v.below hW))
  rw [hok] at HR
  have HX := Lib.hid hX
  obtain ⟨sl, rfl, hl⟩ := hv
  obtain ⟨la, ll, lc, rfl⟩ := hl.1.slice
  clear hl hz hT hX hok
  go_enter Tryd.func23, Tryd.ntmps23
  go_wp2_with fail
  refine (HR.out _ (HB.out _)).mono ?_
  rintro e w1 ⟨rfl, b1⟩
  have B1 := Lib.hid ((HB.out _).trans (b1.mono (by simp)))
  clear b1
  go_wp2_with fail
  go_ret
  exact ⟨rfl, HX.out.below B1.out, Fx.of_below B1.out⟩

set_option maxHeartbeats 2000000 in
theorem drop_absent {base xb : Nat} {L : List Pr} (V : Vl) (v : Value) (i : Int) (w : World) (hT : Tabs w) (hz : SzV V) (hv : IsVx w v V) (hX : IsX base w xb L) (hok : okB V i = true) (hh : has (V, i) L = false) :
    Calls Tryd.prog 23 #[.pointer (some ⟨xb, 0, none⟩), v, .int .i64 i] w (Did base xb (.bool false) L w) := by
  have HB := Lib.hid (fun (o : Obj) => (Below.refl w.heap.size w).alloc (Nat.le_refl _) o)
  have HR := Lib.hid (fun W (hW : Below w.heap.size w W) => rightX_any V v i W (hT.below hW) hz (hv.v.below hW))
  rw [hok] at HR
  have HX := Lib.hid hX
  obtain ⟨sl, rfl, hl⟩ := hv
  obtain ⟨la, ll, lc, rfl⟩ := hl.1.slice
  obtain ⟨t, p, S, x1, x2, rfl, x4, x5, x6⟩ := hX
  have HH := Lib.hid (fun W (hW : Below w.heap.size w W) => has_T (V := V) (i' := i) ((idx_cells ((hW.block _ (lt_of_block x1)).trans x1)).1) (x2.below hW) (hl.1.below hW))
  rw [has_tree _ _ x4, hh] at HH
  unfold prV at HH
  clear hl hz hT hok hh x1 x2 x4 x5 x6
  go_enter Tryd.func23, Tryd.ntmps23
  go_wp2_with fail
  refine (HR.out _ (HB.out _)).mono ?_
  rintro e w1 ⟨rfl, b1⟩
  have B1 := Lib.hid ((HB.out _).trans (b1.mono (by simp)))
  have vb : w1.heap[w.heap.size]? = some (valObj V (.slice la ll lc)) := (b1.block _ (by simp)).trans (new_block w _ _ rfl)
  have vlt := lt_of_block vb
  obtain ⟨d0, d1, d2, d3⟩ := val_cells vb
  clear b1 vb
  go_wp2_with fail
  refine (HH.out _ (B1.out.alloc (Nat.le_of_lt vlt) _)).mono ?_
  rintro e w2 ⟨rfl, b2⟩
  have B2 := Lib.hid ((B1.out.alloc (Nat.le_of_lt vlt) (pairObj V (.slice la ll lc) i)).trans (b2.mono (by simp; omega)))
  clear b2
  go_wp2_with fail
  go_ret
  exact ⟨rfl, HX.out.below B2.out, Fx.of_below B2.out⟩

set_option maxHeartbeats 4000000 in
theorem drop_there {base xb : Nat} {L : List Pr} (V : Vl) (v : Value) (i : Int) (w : World) (hT : Tabs w) (hz : SzV V) (hv : IsVx w v V) (hX : IsX base w xb L) (hok : okB V i = true) (hh : has (V, i) L = true) (hsz : L.length < 600) :
    Calls Tryd.prog 23 #[.pointer (some ⟨xb, 0, none⟩), v, .int .i64 i] w (Did base xb (.bool true) (del (V, i) L) w) := by
  have HB := Lib.hid (fun (o : Obj) => (Below.refl w.heap.size w).alloc (Nat.le_refl _) o)
  have HR := Lib.hid (fun W (hW : Below w.heap.size w W) => rightX_any V v i W (hT.below hW) hz (hv.v.below hW))
  rw [hok] at HR
  obtain ⟨sl, rfl, hl⟩ := hv
  obtain ⟨la, ll, lc, rfl⟩ := hl.1.slice
  obtain ⟨t, p, S, x1, x2, rfl, x4, x5, x6⟩ := hX
  have hnot : (V, i) ∈ t.toL := has_iff.1 hh
  have HH := Lib.hid (fun W (hW : Below w.heap.size w W) => has_T (V := V) (i' := i) ((idx_cells ((hW.block _ (lt_of_block x1)).trans x1)).1) (x2.below hW) (hl.1.below hW))
  rw [has_tree _ _ x4, hh] at HH
  have HLL := Lib.hid hl
  have HP := Lib.hid (fun W sl' (h1 : IsT W t p S) (h2 : IsLt W sl' V.l) => drop_T t V i sl' W p S h1 (by rw [Tr.n_toL] at hsz; omega) h2)
  unfold prV at HH HP
  have X1 := Lib.hid x1
  have X2 := Lib.hid x2
  have X4 := Lib.hid x4
  have X6 := Lib.hid x6
  have xlt := lt_of_block x1
  have NOT := Lib.hid hnot
  clear hl hz hT hok hh x1 x2 x4 x6 hnot
  go_enter Tryd.func23, Tryd.ntmps23
  go_wp2_with fail
  refine (HR.out _ (HB.out _)).mono ?_
  rintro e w1 ⟨rfl, b1⟩
  have B1 := Lib.hid ((HB.out _).trans (b1.mono (by simp)))
  have vb : w1.heap[w.heap.size]? = some (valObj V (.slice la ll lc)) := (b1.block _ (by simp)).trans (new_block w _ _ rfl)
  have vlt := lt_of_block vb
  obtain ⟨d0, d1, d2, d3⟩ := val_cells vb
  clear b1 vb
  go_wp2_with fail
  refine (HH.out _ (B1.out.alloc (Nat.le_of_lt vlt) _)).mono ?_
  rintro e w2 ⟨rfl, b2⟩
  have B2 := Lib.hid ((B1.out.alloc (Nat.le_of_lt vlt) (pairObj V (.slice la ll lc) i)).trans (b2.mono (by simp; omega)))
  have pb2 : w2.heap[w1.heap.size]? = some (pairObj V (.slice la ll lc) i) := (b2.block _ (by simp)).trans (new_block w1 _ _ rfl)
  have plt := lt_of_block pb2
  have PB2 := Lib.hid pb2
  have z12 : w.heap.size ≤ w1.heap.size := Nat.le_of_lt vlt
  clear d0 d1 d2 d3 b2
  have xb4 : w2.heap[xb]? = some (idxObj p t.toL.length) := (B2.out.block _ xlt).trans X1.out
  have XB4 := Lib.hid xb4
  have HL4 := Lib.hid (HLL.out.below B2.out)
  obtain ⟨q0, q1, q2, q3, q4⟩ := pair_cells pb2
  obtain ⟨r0, r1⟩ := idx_cells xb4
  clear pb2 xb4
  go_wp2_with fail
  refine wp_take_tail 6 (.pointer (some ⟨xb, 0, none⟩)) (by kernel_rfl) (by kernel_rfl) (fun _ _ _ h => h) (Or.inl ⟨by rfl, fun w => by go_simp⟩) ?_
  simp only [List.take_succ_cons, List.take_zero, List.drop_succ_cons, List.drop_zero, Nat.reduceSub]
  go_simp
  repeat still_step
  refine wpStill_nil ?_
  go_wp2_with fail
  refine (HP.out _ _ (X2.out.fr (Fr.of_below B2.out).drew (fun _ _ h => h)) (HL4.out.fr (Fr.refl w2).drew)).mono ?_
  intro e w5 hG
  obtain ⟨p5, S5, rfl, g1, g2, g3⟩ := hG
  have xS : ¬ S xb := fun hS => by
    obtain ⟨arr, fr, h⟩ := X2.out.node xb hS
    have := Option.some.inj (h.symm.trans X1.out)
    injection this with _ e2; exact absurd e2 (by decide)
  have xb5 : w5.heap[xb]? = some (idxObj p t.toL.length) := (g3.block xb (lt_of_block XB4.out) xS).trans XB4.out
  obtain ⟨r0', r1'⟩ := idx_cells xb5
  have rf := idx_free xb5
  have xb6 := idx_setP xb5 p5
  have r16 := (idx_cells xb6).2
  have rf6 := idx_free xb6
  have len0 : t.toL.length < 600 := hsz
  have len1 : 0 < t.toL.length := List.length_pos_iff.2 (List.ne_nil_of_mem NOT.out)
  have xb7 : ((w5.setCell ⟨xb, 0, none⟩ (.pointer (pa p5))).setCell ⟨xb, 1, none⟩ (.int .i64 ((t.toL.length : Int) - 1))).heap[xb]? = some (idxObj p5 ((t.toL.length : Int) - 1)) := idx_setN xb6 _
  have f57 : ∀ k, k ≠ xb → ((w5.setCell ⟨xb, 0, none⟩ (.pointer (pa p5))).setCell ⟨xb, 1, none⟩ (.int .i64 ((t.toL.length : Int) - 1))).heap[k]? = w5.heap[k]? := fun k hk => by rw [Below.heap_setCell _ _ _ _ hk, Below.heap_setCell _ _ _ _ hk]
  have G : Hid (Did base xb (.bool true) (del (V, i) t.toL) w (.returned (.bool true)) ((w5.setCell ⟨xb, 0, none⟩ (.pointer (pa p5))).setCell ⟨xb, 1, none⟩ (.int .i64 ((t.toL.length : Int) - 1)))) := by
    refine ⟨rfl, ⟨t.drop (V, i), p5, S5, ?_, ?_, toL_drop _ _ X4.out, sorted_del X4.out, x5, fun x hx => ?_⟩, ?_⟩
    · have hdl := del_length X4.out NOT.out
      rw [xb7]; congr 2; omega
    · have xS5 : ¬ S5 xb := fun h => by
        obtain ⟨arr, fr, h⟩ := g1.node xb h
        have := Option.some.inj (h.symm.trans xb5)
        injection this with _ e2; exact absurd e2 (by decide)
      refine g1.keep (fun k arr fr hk => f57 k (fun e => ?_)) (fun k hk => f57 k (fun e => xS5 (e ▸ hk)))
      subst e
      have := Option.some.inj (hk.symm.trans xb5)
      injection this with _ e2; exact absurd e2 (by decide)
    · rcases g2 x hx with h | h
      · exact X6.out x h
      · have : w2.heap.size ≤ x := h
        have := B2.out.size
        omega
    · exact ((Fx.of_below B2.out).drew.trans (Fx.of_fr g3 X6.out)).trans ((Fx.set xb5 x5 0 _).trans (Fx.set xb6 x5 1 _))
  clear g1 g2 g3 xS xb5 xb6 xb7 f57
  go_wp2_with fail
  go_ret
  exact G.out

theorem dropX_any {base xb : Nat} {L : List Pr} (V : Vl) (v : Value) (i : Int) (w : World) (hT : Tabs w) (hz : SzV V) (hv : IsVx w v V) (hX : IsX base w xb L) (hsz : L.length < 600) :
    Calls Tryd.prog 23 #[.pointer (some ⟨xb, 0, none⟩), v, .int .i64 i] w (Did base xb (.bool (dropE V i L)) (dropL V i L) w) := by
  unfold dropL dropE
  cases hok : okB V i
  · exact drop_no V v i w hT hz hv hX hok
  · cases hh : has (V, i) L
    · exact drop_absent V v i w hT hz hv hX hok hh
    · exact drop_there V v i w hT hz hv hX hok hh hsz
theorem dropX_none (V : Vl) (v : Value) (i : Int) (w : World) (hv : IsVx w v V) : Calls Tryd.prog 23 #[.pointer none, v, .int .i64 i] w fun e w' => e = .returned (.bool false) ∧ Below w.heap.size w w' := by
  obtain ⟨sl, rfl, hl⟩ := hv
  obtain ⟨la, ll, lc, rfl⟩ := hl.1.slice
  clear hl
  go_enter Tryd.func23, Tryd.ntmps23
  go_wp2_with fail
  go_ret
  exact ⟨rfl, (Below.refl _ w).alloc (Nat.le_refl _) _⟩
end Go.Proofs.YtifaaacbbjlffaaDoor
