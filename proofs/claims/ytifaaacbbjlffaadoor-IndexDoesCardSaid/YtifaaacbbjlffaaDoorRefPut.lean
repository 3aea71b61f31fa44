/- The contracts of the reference's Put and Drop. -/
import Derived.Test.YtifaaacbbjlffaaDoorRefPlace
import Derived.Test.YtifaaacbbjlffaaDoorRefRight
import Derived.Test.YtifaaacbbjlffaaDoorIdxDrop
namespace Go.Proofs.YtifaaacbbjlffaaDoor
open Go.RowKit Mor

/-- only the reference's index itself may have changed -/
structure Fz (rb : Nat) (w w' : World) : Prop where
  os : w'.os = w.os
  tape : w'.tape = w.tape
  output : w'.output = w.output
  size : w.heap.size ≤ w'.heap.size
  block : ∀ k, k < w.heap.size → k ≠ rb → w'.heap[k]? = w.heap[k]?
theorem Fz.of_below {rb : Nat} {w w' : World} (h : Below w.heap.size w w') : Fz rb w w' := ⟨h.os, h.tape, h.output, h.size, fun k hk _ => h.block k hk⟩
theorem Fz.trans {rb : Nat} {a b c : World} (h : Fz rb a b) (k : Fz rb b c) : Fz rb a c := ⟨k.os.trans h.os, k.tape.trans h.tape, k.output.trans h.output, Nat.le_trans h.size k.size, fun i hi hn => (k.block i (Nat.lt_of_lt_of_le hi h.size) hn).trans (h.block i hi hn)⟩
theorem Fz.below {rb B : Nat} {w w' : World} (h : Fz rb w w') (hB : B ≤ rb) (hb : B ≤ w.heap.size) : Below B w w' := ⟨h.os, h.tape, h.output, h.size, fun k hk => h.block k (by omega) (by omega)⟩
theorem Fz.set {rb : Nat} (w : World) (v : Value) : Fz rb w (w.setCell ⟨rb, 0, none⟩ v) := ⟨rfl, rfl, rfl, by simp [World.setCell], fun k _ hn => Below.heap_setCell _ _ _ _ fun e => hn e⟩
/-- what a call on the reference's index leaves that returns a value -/
def DidR (rb : Nat) (r : Value) (L : List Pr) (w : World) (e : Ending) (w' : World) : Prop := e = .returned r ∧ IsR w' rb L ∧ Fz rb w w'
theorem didR_same {rb : Nat} {r : Value} {L : List Pr} {w w' : World} (h : IsR w rb L) (hb : Below w.heap.size w w') : DidR rb r L w (.returned r) w' := ⟨rfl, h.below hb, Fz.of_below hb⟩
theorem didR_new {rb : Nat} {r rv v : Value} {L : List Pr} {base : Nat} {w w5 : World} {M : List (Pr × Value)} (hb : Below w.heap.size w w5) (hr : w5.heap[rb]? = some (refObj rv)) (ho : w5.ownsRow base 71 5 v M.length (flatR M)) (hM : IsM w5 M) (hL : M.map Prod.fst = L) (hs : M.length < 100000) :
    DidR rb r L w (.returned r) (w5.setCell ⟨rb, 0, none⟩ v) := by
  have key : ∀ (k : Nat) (arr : Array Value) (t : TypeId) (fr : Nat × Nat), t ≠ 32 → w5.heap[k]? = some (.cells arr t fr) → (w5.setCell ⟨rb, 0, none⟩ v).heap[k]? = w5.heap[k]? := fun k arr t fr ht h1 => Below.heap_setCell _ _ _ _ fun e => by
    have e' : k = rb := e
    subst e'
    rw [hr] at h1
    injection h1 with h2
    injection h2 with _ e2
    exact ht e2.symm
  refine ⟨rfl, ⟨v, M, heap_setCell_same _ hr, ⟨(row_own ho hM.one).keep fun k arr fr h => key k arr _ fr (by decide) h, fun m hm => (hM m hm).keep fun k arr fr h => key k arr _ fr (by decide) h, hs⟩, hL⟩, ?_⟩
  exact (Fz.of_below hb).trans (Fz.set _ _)
def SzW (V : Vl) : Prop := V.s.size ≤ 4611686018427387904 ∧ ∀ p ∈ V.l, p.s.size ≤ 4611686018427387904
theorem not_hit_put {V : Vl} {i : Int} {L : List Pr} (hs : Sorted L) (hok : okB V i = true) (hh : hit (V, i) L = false) : putE V i L = 0 ∧ putL V i L = L.take (plc (V, i) L) ++ (V, i) :: L.drop (plc (V, i) L) := by
  rw [hit_has hs] at hh
  unfold putE putL
  rw [hok, hh]
  exact ⟨rfl, ins_plc hh⟩
theorem hit_put {V : Vl} {i : Int} {L : List Pr} (hs : Sorted L) (hok : okB V i = true) (hh : hit (V, i) L = true) : putE V i L = 150 ∧ putL V i L = L := by
  rw [hit_has hs] at hh
  unfold putE putL
  rw [hok, hh]
  exact ⟨rfl, rfl⟩
theorem bad_put {V : Vl} {i : Int} {L : List Pr} (hok : okB V i = false) : putE V i L = 2 ∧ putL V i L = L := by
  unfold putE putL
  rw [hok]
  exact ⟨rfl, rfl⟩
theorem info_pair_new (W : World) (V : Vl) (sl : Value) (i : Int) (h : ∃ a n c, sl = .slice a n c) : Row (W.alloc (.cells #[.int .i64 V.k, .int .i64 V.n, .string V.s, sl, .int .i64 i] 71)) 71 5 (.slice (some ⟨W.heap.size, 0, none⟩) 1 1) 1 (flatR [((V, i), sl)]) := by
  obtain ⟨a, n, c, rfl⟩ := h
  exact row_new W 71 5 1 #[.int .i64 V.k, .int .i64 V.n, .string V.s, .slice a n c, .int .i64 i] rfl (by unfold maxLen; omega) (by
    intro x hx
    simp only [List.mem_cons, List.not_mem_nil, or_false] at hx
    rcases hx with rfl | rfl | rfl | rfl | rfl <;> rfl)

set_option maxHeartbeats 4000000 in
theorem refPut_no {rb : Nat} {rv : Value} {M : List (Pr × Value)} (V : Vl) (v : Value) (i : Int) (w : World) (hr : w.heap[rb]? = some (refObj rv)) (hP : IsP w rv M) (hz : SzW V) (hv : IsV w v V) (hok : okB V i = false) :
    Calls Tryd.prog 29 #[.pointer (some ⟨rb, 0, none⟩), v, .int .i64 i] w (DidR rb (.int .i64 2) (M.map Prod.fst) w) := by
  have HB := Lib.hid (fun (o : Obj) => (Below.refl w.heap.size w).alloc (Nat.le_refl _) o)
  have HR := Lib.hid (fun W (hW : Below w.heap.size w W) => refRight_any V v W hz (hv.below hW))
  have HI : Hid (IsR w rb (M.map Prod.fst)) := ⟨rv, M, hr, hP, rfl⟩
  obtain ⟨sl, rfl, hl⟩ := hv
  obtain ⟨la, ll, lc, rfl⟩ := hl.slice
  clear hl hz hr hP
  unfold okB at hok
  cases r : rightV V
  · rw [r] at HR
    clear r hok
    go_enter Tryd.func29, Tryd.ntmps29
    go_wp2_with fail
    refine (HR.out _ (HB.out _)).mono ?_
    rintro e w1 ⟨rfl, b1⟩
    have B1 := Lib.hid ((HB.out _).trans (b1.mono (by simp)))
    clear b1
    go_wp2_with fail
    go_ret
    exact didR_same HI.out B1.out
  · rw [r, Bool.true_and] at hok
    rw [r] at HR
    have hid : ¬ (1 ≤ i ∧ i ≤ 100000) := by unfold idOk at hok; exact of_decide_eq_false hok
    clear r hok
    by_cases h1 : i < 1
    · clear hid
      go_enter Tryd.func29, Tryd.ntmps29
      go_wp2_with fail
      refine (HR.out _ (HB.out _)).mono ?_
      rintro e w1 ⟨rfl, b1⟩
      have B1 := Lib.hid ((HB.out _).trans (b1.mono (by simp)))
      clear b1
      go_wp2_with fail
      go_ret
      exact didR_same HI.out B1.out
    · have h2 : 100000 < i := by omega
      clear hid
      go_enter Tryd.func29, Tryd.ntmps29
      go_wp2_with fail
      refine (HR.out _ (HB.out _)).mono ?_
      rintro e w1 ⟨rfl, b1⟩
      have B1 := Lib.hid ((HB.out _).trans (b1.mono (by simp)))
      clear b1
      go_wp2_with fail
      go_ret
      exact didR_same HI.out B1.out

set_option maxHeartbeats 8000000 in
theorem refPut_ok {rb : Nat} {rv : Value} {M : List (Pr × Value)} (V : Vl) (v : Value) (i : Int) (w : World) (hr : w.heap[rb]? = some (refObj rv)) (hP : IsP w rv M) (hsm : M.length < 99999) (hS : Sorted (M.map Prod.fst)) (hz : SzW V) (hv : IsVx w v V) (hok : okB V i = true) :
    Calls Tryd.prog 29 #[.pointer (some ⟨rb, 0, none⟩), v, .int .i64 i] w (DidR rb (.int .i64 (putE V i (M.map Prod.fst))) (putL V i (M.map Prod.fst)) w) := by
  have HB := Lib.hid (fun (o : Obj) => (Below.refl w.heap.size w).alloc (Nat.le_refl _) o)
  have HR := Lib.hid (fun W (hW : Below w.heap.size w W) => refRight_any V v W hz (hv.v.below hW))
  have HPL := Lib.hid (fun W (hW : Below w.heap.size w W) => place_any V v i W ((hW.block _ (lt_of_some hr)).trans hr) (hP.below hW) (hv.v.below hW))
  have HI : Hid (IsR w rb (M.map Prod.fst)) := ⟨rv, M, hr, hP, rfl⟩
  have HP := Lib.hid hP
  have HRB := Lib.hid hr
  have rlt := lt_of_some hr
  obtain ⟨ra, rc, rfl⟩ := hP.row.slice
  have hcap : M.length ≤ rc := by obtain ⟨a', c', e, h, _⟩ := hP.row; cases e; exact h
  obtain ⟨sl, rfl, hl⟩ := hv
  obtain ⟨la, ll, lc, rfl⟩ := hl.1.slice
  have HL := Lib.hid hl
  have hok' := hok
  unfold okB at hok'
  rw [Bool.and_eq_true] at hok'
  rw [hok'.1] at HR
  have hid : 1 ≤ i ∧ i ≤ 100000 := of_decide_eq_true hok'.2
  obtain ⟨hi1, hi2⟩ := hid
  have hpl : plc (V, i) (M.map Prod.fst) ≤ M.length := by have := plc_le (V, i) (M.map Prod.fst); rwa [List.length_map] at this
  clear hl hz hr hP hok'
  cases hh : hit (V, i) (M.map Prod.fst)
  · rw [(not_hit_put hS hok hh).1, (not_hit_put hS hok hh).2]
    rw [hh] at HPL
    generalize plc (V, i) (M.map Prod.fst) = p at *
    have EM : Hid ((M.take p ++ [((V, i), Value.slice la ll lc)] ++ M.drop p).map Prod.fst = List.take p (M.map Prod.fst) ++ (V, i) :: List.drop p (M.map Prod.fst)) := by
      show _ = _
      simp only [List.map_append, List.map_take, List.map_drop, List.map_cons, List.append_assoc, List.cons_append, List.nil_append]
    have EL : Hid ((M.take p ++ [((V, i), Value.slice la ll lc)] ++ M.drop p).length = M.length + 1) := by
      show _ = _
      simp only [List.length_append, List.length_take, List.length_drop, List.length_cons, List.length_nil]; omega
    generalize List.take p (M.map Prod.fst) ++ (V, i) :: List.drop p (M.map Prod.fst) = L' at *
    clear hS hok hh
    go_enter Tryd.func29, Tryd.ntmps29
    go_wp2_with fail
    refine (HR.out _ (HB.out _)).mono ?_
    rintro e w1 ⟨rfl, b1⟩
    have zz1 : w.heap.size + 1 ≤ w1.heap.size := by have := b1.size; simpa using this
    have VB1 : Hid (w1.heap[w.heap.size]? = some (valObj V (.slice la ll lc))) := (b1.block _ (by simp)).trans (new_block w _ _ rfl)
    have B1 := Lib.hid ((HB.out (valObj V (.slice la ll lc))).trans (b1.mono (by simp)))
    obtain ⟨a0, a1, a2, a3⟩ := val_cells VB1.out
    clear b1
    go_wp2_with fail
    refine (HPL.out _ B1.out).mono ?_
    rintro e w2 ⟨rfl, b2⟩
    have zz2 : w1.heap.size ≤ w2.heap.size := b2.size
    have B2 := Lib.hid (B1.out.trans (b2.mono (by omega)))
    have VB2 := Lib.hid ((b2.block _ (lt_of_some VB1.out)).trans VB1.out)
    clear a0 a1 a2 a3 b2 VB1
    obtain ⟨a0, a1, a2, a3⟩ := val_cells VB2.out
    have RB2 := Lib.hid ((B2.out.block _ rlt).trans HRB.out)
    have r0 := ref_cell RB2.out
    have rlt2 : rb < w2.heap.size := by omega
    have vlt2 : w.heap.size < w2.heap.size := by omega
    have P2 := Lib.hid (HP.out.below B2.out)
    have q0 : (0 : Int) ≤ (p : Int) := by omega
    have q1 : (p : Int) ≤ (M.length : Int) := by omega
    have q2 : (p : Int) ≤ (rc : Int) := by omega
    have RT : Hid (Row w2 71 5 (.slice ra p rc) p (flatR (M.take p))) := by
      have := P2.out.row.take hpl
      rw [flatR_take] at this
      exact this
    have RD := P2.out.row.drop hpl
    rw [flatR_drop] at RD
    obtain ⟨da, hda⟩ : ∃ da, (if rc = p then ra else Option.map (fun x => x.add (p * 5)) ra) = da := ⟨_, rfl⟩
    obtain ⟨dc, hdc⟩ : ∃ dc, rc - p = dc := ⟨_, rfl⟩
    rw [hda, hdc] at RD
    have HDA : Hid ((if rc = p then ra else Option.map (fun x => x.add (p * 5)) ra) = da ∧ rc - p = dc) := ⟨hda, hdc⟩
    have RDH := Lib.hid RD
    clear RD hda hdc
    go_wp2_with fail
    have BB : Hid (Below w2.heap.size w2 w2.drew) := (Below.refl _ _).drew
    refine wp_sch (fun W => Below w2.heap.size w2 W) (.read 0 (.read 1 (.read 2 (.read 3 (.read 4 (.read 5 (.read 6 (.read 8 (.read 9 (.read 10 (.read 13 (.read 14 (.read 15 (.read 16 (.read 17 (.read 18 (.two 7 (.call 11 (.call 12 (.call 19 (.read 20 .done)))) 11 (.call 7 (.call 12 (.call 19 (.read 20 .done))))))))))))))))))))) (by kernel_rfl) (by kernel_rfl) (fun _ _ _ _ _ h => h) BB.out ?_
    refine wpSch_read rfl (Or.inl ⟨by rfl, fun W hS => by obtain ⟨hcS, _⟩ := bcell hS; clear hS; go_simp; try with_reducible rfl⟩) ?_
    go_simp
    refine wpSch_read rfl (Or.inl ⟨by rfl, fun W hS => by obtain ⟨hcS, _⟩ := bcell hS; clear hS; go_simp; try with_reducible rfl⟩) ?_
    go_simp
    refine wpSch_read rfl (Or.inl ⟨by rfl, fun W hS => by obtain ⟨hcS, _⟩ := bcell hS; clear hS; go_simp; try with_reducible rfl⟩) ?_
    go_simp
    refine wpSch_read rfl (Or.inl ⟨by rfl, fun W hS => by obtain ⟨hcS, _⟩ := bcell hS; clear hS; go_simp; try with_reducible rfl⟩) ?_
    go_simp
    refine wpSch_read rfl (Or.inl ⟨by rfl, fun W hS => by obtain ⟨hcS, _⟩ := bcell hS; clear hS; go_simp; try with_reducible rfl⟩) ?_
    go_simp
    refine wpSch_read rfl (Or.inl ⟨by rfl, fun W hS => by obtain ⟨hcS, _⟩ := bcell hS; clear hS; go_simp; try with_reducible rfl⟩) ?_
    go_simp
    refine wpSch_read rfl (Or.inl ⟨by rfl, fun W hS => by obtain ⟨hcS, _⟩ := bcell hS; clear hS; go_simp; try with_reducible rfl⟩) ?_
    go_simp
    refine wpSch_read rfl (Or.inl ⟨by rfl, fun W hS => by obtain ⟨hcS, _⟩ := bcell hS; clear hS; go_simp; try with_reducible rfl⟩) ?_
    go_simp
    refine wpSch_read rfl (Or.inl ⟨by rfl, fun W hS => by obtain ⟨hcS, _⟩ := bcell hS; clear hS; go_simp; try with_reducible rfl⟩) ?_
    go_simp
    refine wpSch_read rfl (Or.inl ⟨by rfl, fun W hS => by obtain ⟨hcS, _⟩ := bcell hS; clear hS; go_simp; try with_reducible rfl⟩) ?_
    go_simp
    refine wpSch_read rfl (Or.inl ⟨by rfl, fun W hS => by obtain ⟨hcS, _⟩ := bcell hS; clear hS; go_simp; try with_reducible rfl⟩) ?_
    go_simp
    refine wpSch_read rfl (Or.inl ⟨by rfl, fun W hS => by obtain ⟨hcS, _⟩ := bcell hS; clear hS; go_simp; try with_reducible rfl⟩) ?_
    go_simp
    refine wpSch_read rfl (Or.inl ⟨by rfl, fun W hS => by obtain ⟨hcS, _⟩ := bcell hS; clear hS; go_simp; try with_reducible rfl⟩) ?_
    go_simp
    refine wpSch_read rfl (Or.inl ⟨by rfl, fun W hS => by obtain ⟨hcS, _⟩ := bcell hS; clear hS; go_simp; try with_reducible rfl⟩) ?_
    go_simp
    refine wpSch_read rfl (Or.inl ⟨by rfl, fun W hS => by obtain ⟨hcS, _⟩ := bcell hS; clear hS; go_simp; try with_reducible rfl⟩) ?_
    go_simp
    refine wpSch_read (v := .slice da (M.length - p) dc) rfl (Or.inl ⟨by rfl, fun W hS => by obtain ⟨hcS, _⟩ := bcell hS; clear hS; go_simp; exact HDA.out⟩) ?_
    go_simp
    refine wpSch_two ?_ ?_
    · skip
      refine wpSch_do rfl (fun K hK => ?_)
      refine step_append (by rfl) (.tmp 29) (.tmp 35) rfl elemR w2.heap.size _ _ 0 p [] _ (by simp [Act.eval]) (by simp [Act.eval]) (World.ownsRow_nil _ _ _ _) (RT.out.below BB.out) (by omega) BB.out.size ?_
      intro v7 q7 o7 b7 g7
      obtain ⟨c7, d7, e7, rfl⟩ : ∃ a n c, v7 = .slice a n c := ownsRow_slice o7
      have B7 : Hid (Below w2.heap.size w2 q7) := BB.out.trans b7
      have O7 : Hid (q7.ownsRow w2.heap.size 71 5 (.slice c7 d7 e7) p (flatR (M.take p))) := by have := o7; rw [Nat.zero_add, List.nil_append] at this; exact this
      refine hK _ _ B7.out ?_
      clear hK K o7 b7 g7
      go_simp
      refine wpSch_do rfl (fun K hK => ?_)
      go_simp
      have RN7 := Lib.hid (info_pair_new q7 V (.slice la ll lc) i ⟨_, _, _, rfl⟩)
      replace O7 : Hid ((q7.alloc (.cells #[.int .i64 V.k, .int .i64 V.n, .string V.s, .slice la ll lc, .int .i64 i] 71)).ownsRow w2.heap.size 71 5 (.slice c7 d7 e7) p (flatR (M.take p))) := O7.out.alloc _
      replace B7 : Hid (Below w2.heap.size w2 (q7.alloc (.cells #[.int .i64 V.k, .int .i64 V.n, .string V.s, .slice la ll lc, .int .i64 i] 71))) := B7.out.alloc B7.out.size _
      refine hK _ _ B7.out ?_
      clear hK K 
      go_simp
      refine wpSch_do rfl (fun K hK => ?_)
      refine step_append (by rfl) (.tmp 36) (.tmp 40) rfl elemR w2.heap.size _ _ p 1 _ _ (by simp [Act.eval]) (by simp [Act.eval]) O7.out RN7.out (by omega) B7.out.size ?_
      intro v8 q8 o8 b8 _
      obtain ⟨c8, d8, e8, rfl⟩ : ∃ a n c, v8 = .slice a n c := ownsRow_slice o8
      have B8 : Hid (Below w2.heap.size w2 q8) := B7.out.trans b8
      have O8 := Lib.hid o8
      refine hK _ _ B8.out ?_
      clear hK K o8 b8
      go_simp
      refine wpSch_do rfl (fun K hK => ?_)
      refine step_append (by rfl) (.tmp 41) (.tmp 47) rfl elemR w2.heap.size _ _ (p + 1) (M.length - p) _ _ (by simp [Act.eval]) (by simp [Act.eval]) O8.out (RDH.out.below B8.out) (by omega) B8.out.size ?_
      intro v9 q9 o9 b9 _
      obtain ⟨c9, d9, e9, rfl⟩ : ∃ a n c, v9 = .slice a n c := ownsRow_slice o9
      have B9 : Hid (Below w2.heap.size w2 q9) := B8.out.trans b9
      have O9 : Hid (q9.ownsRow w2.heap.size 71 5 (.slice c9 d9 e9) (M.take p ++ [((V, i), Value.slice la ll lc)] ++ M.drop p).length (flatR (M.take p ++ [((V, i), Value.slice la ll lc)] ++ M.drop p))) := by
        have := o9
        rw [← flatR_app, ← flatR_app, show p + 1 + (M.length - p) = (M.take p ++ [((V, i), Value.slice la ll lc)] ++ M.drop p).length by rw [EL.out]; omega] at this
        exact this
      refine hK _ _ B9.out ?_
      clear hK K o9 b9
      go_simp
      refine wpSch_read rfl (Or.inl ⟨by rfl, fun W hS => by obtain ⟨hcS, _⟩ := bcell hS; clear hS; go_simp; try with_reducible rfl⟩) ?_
      go_simp
      refine wpSch_done ?_
      have RB9 := Lib.hid ((B9.out.block _ rlt2).trans RB2.out)
      clear r0
      have r0 := ref_cell RB9.out
      have r1 := ref_free RB9.out 0
      have B0 : Hid (Below w.heap.size w q9) := B2.out.trans (B9.out.mono (by omega))
      have IM : Hid (IsM q9 (M.take p ++ [((V, i), Value.slice la ll lc)] ++ M.drop p)) := fun m hm => by
        rcases List.mem_append.1 hm with hm | hm
        · rcases List.mem_append.1 hm with hm | hm
          · exact (HP.out.m m (List.mem_of_mem_take hm)).below B0.out
          · rw [List.mem_singleton] at hm; subst hm; exact HL.out.below B0.out
        · exact (HP.out.m m (List.mem_of_mem_drop hm)).below B0.out
      clear a0 a1 a2 a3
      go_wp2_with fail
      go_ret
      exact didR_new B0.out RB9.out O9.out IM.out EM.out (by rw [EL.out]; omega)
    · skip
      refine wpSch_do rfl (fun K hK => ?_)
      go_simp
      have BC : Hid (Below w2.heap.size w2 (w2.drew.alloc (.cells #[.int .i64 V.k, .int .i64 V.n, .string V.s, .slice la ll lc, .int .i64 i] 71))) := BB.out.alloc BB.out.size _
      have RN := Lib.hid (info_pair_new w2.drew V (.slice la ll lc) i ⟨_, _, _, rfl⟩)
      refine hK _ _ BC.out ?_
      clear hK K 
      go_simp
      refine wpSch_do rfl (fun K hK => ?_)
      refine step_append (by rfl) (.tmp 29) (.tmp 35) rfl elemR w2.heap.size _ _ 0 p [] _ (by simp [Act.eval]) (by simp [Act.eval]) (World.ownsRow_nil _ _ _ _) (RT.out.below BC.out) (by omega) BC.out.size ?_
      intro v7 q7 o7 b7 g7
      have RN7 := Lib.hid (RN.out.below (below_none g7))
      obtain ⟨c7, d7, e7, rfl⟩ : ∃ a n c, v7 = .slice a n c := ownsRow_slice o7
      have B7 : Hid (Below w2.heap.size w2 q7) := BC.out.trans b7
      have O7 : Hid (q7.ownsRow w2.heap.size 71 5 (.slice c7 d7 e7) p (flatR (M.take p))) := by have := o7; rw [Nat.zero_add, List.nil_append] at this; exact this
      refine hK _ _ B7.out ?_
      clear hK K o7 b7 g7
      go_simp
      refine wpSch_do rfl (fun K hK => ?_)
      refine step_append (by rfl) (.tmp 36) (.tmp 40) rfl elemR w2.heap.size _ _ p 1 _ _ (by simp [Act.eval]) (by simp [Act.eval]) O7.out RN7.out (by omega) B7.out.size ?_
      intro v8 q8 o8 b8 _
      obtain ⟨c8, d8, e8, rfl⟩ : ∃ a n c, v8 = .slice a n c := ownsRow_slice o8
      have B8 : Hid (Below w2.heap.size w2 q8) := B7.out.trans b8
      have O8 := Lib.hid o8
      refine hK _ _ B8.out ?_
      clear hK K o8 b8
      go_simp
      refine wpSch_do rfl (fun K hK => ?_)
      refine step_append (by rfl) (.tmp 41) (.tmp 47) rfl elemR w2.heap.size _ _ (p + 1) (M.length - p) _ _ (by simp [Act.eval]) (by simp [Act.eval]) O8.out (RDH.out.below B8.out) (by omega) B8.out.size ?_
      intro v9 q9 o9 b9 _
      obtain ⟨c9, d9, e9, rfl⟩ : ∃ a n c, v9 = .slice a n c := ownsRow_slice o9
      have B9 : Hid (Below w2.heap.size w2 q9) := B8.out.trans b9
      have O9 : Hid (q9.ownsRow w2.heap.size 71 5 (.slice c9 d9 e9) (M.take p ++ [((V, i), Value.slice la ll lc)] ++ M.drop p).length (flatR (M.take p ++ [((V, i), Value.slice la ll lc)] ++ M.drop p))) := by
        have := o9
        rw [← flatR_app, ← flatR_app, show p + 1 + (M.length - p) = (M.take p ++ [((V, i), Value.slice la ll lc)] ++ M.drop p).length by rw [EL.out]; omega] at this
        exact this
      refine hK _ _ B9.out ?_
      clear hK K o9 b9
      go_simp
      refine wpSch_read rfl (Or.inl ⟨by rfl, fun W hS => by obtain ⟨hcS, _⟩ := bcell hS; clear hS; go_simp; try with_reducible rfl⟩) ?_
      go_simp
      refine wpSch_done ?_
      have RB9 := Lib.hid ((B9.out.block _ rlt2).trans RB2.out)
      clear r0
      have r0 := ref_cell RB9.out
      have r1 := ref_free RB9.out 0
      have B0 : Hid (Below w.heap.size w q9) := B2.out.trans (B9.out.mono (by omega))
      have IM : Hid (IsM q9 (M.take p ++ [((V, i), Value.slice la ll lc)] ++ M.drop p)) := fun m hm => by
        rcases List.mem_append.1 hm with hm | hm
        · rcases List.mem_append.1 hm with hm | hm
          · exact (HP.out.m m (List.mem_of_mem_take hm)).below B0.out
          · rw [List.mem_singleton] at hm; subst hm; exact HL.out.below B0.out
        · exact (HP.out.m m (List.mem_of_mem_drop hm)).below B0.out
      clear a0 a1 a2 a3
      go_wp2_with fail
      go_ret
      exact didR_new B0.out RB9.out O9.out IM.out EM.out (by rw [EL.out]; omega)
  · rw [(hit_put hS hok hh).1, (hit_put hS hok hh).2]
    rw [hh] at HPL
    generalize plc (V, i) (M.map Prod.fst) = p at *
    clear hS hok hh
    go_enter Tryd.func29, Tryd.ntmps29
    go_wp2_with fail
    refine (HR.out _ (HB.out _)).mono ?_
    rintro e w1 ⟨rfl, b1⟩
    have VB1 : Hid (w1.heap[w.heap.size]? = some (valObj V (.slice la ll lc))) := (b1.block _ (by simp)).trans (new_block w _ _ rfl)
    have B1 := Lib.hid ((HB.out (valObj V (.slice la ll lc))).trans (b1.mono (by simp)))
    obtain ⟨a0, a1, a2, a3⟩ := val_cells VB1.out
    clear b1
    go_wp2_with fail
    refine (HPL.out _ B1.out).mono ?_
    rintro e w2 ⟨rfl, b2⟩
    have B2 := Lib.hid (B1.out.trans (b2.mono B1.out.size))
    clear a0 a1 a2 a3 b2 VB1
    go_wp2_with fail
    go_ret
    exact didR_same HI.out B2.out
theorem refPut_any {rb : Nat} {L : List Pr} (V : Vl) (v : Value) (i : Int) (w : World) (hR : IsR w rb L) (hsm : L.length < 99999) (hS : Sorted L) (hz : SzW V) (hv : IsVx w v V) :
    Calls Tryd.prog 29 #[.pointer (some ⟨rb, 0, none⟩), v, .int .i64 i] w (DidR rb (.int .i64 (putE V i L)) (putL V i L) w) := by
  obtain ⟨rv, M, hr, hP, rfl⟩ := hR
  cases hok : okB V i
  · rw [(bad_put hok).1, (bad_put hok).2]
    exact refPut_no V v i w hr hP hz hv.v hok
  · exact refPut_ok V v i w hr hP (by rwa [List.length_map] at hsm) hS hz hv hok

theorem dropE_ref {V : Vl} {i : Int} {L : List Pr} (hs : Sorted L) (hA : ∀ p ∈ L, okB p.1 p.2 = true) : dropE V i L = (rightV V && hit (V, i) L) := by
  unfold dropE
  rw [hit_has hs]
  cases h : has (V, i) L
  · rw [Bool.and_false, Bool.and_false]
  · have := hA _ (has_iff.1 h)
    simp only at this
    rw [this]
    unfold okB at this
    rw [Bool.and_eq_true] at this
    rw [this.1]
theorem dropL_ref {V : Vl} {i : Int} {L : List Pr} (hs : Sorted L) (hd : dropE V i L = true) : dropL V i L = L.take (plc (V, i) L) ++ L.drop (plc (V, i) L + 1) := by
  unfold dropL
  rw [if_pos hd]
  unfold dropE at hd
  rw [Bool.and_eq_true] at hd
  exact del_plc hs hd.2
theorem dropL_no {V : Vl} {i : Int} {L : List Pr} (hd : dropE V i L = false) : dropL V i L = L := by
  unfold dropL
  rw [hd]
  rfl
theorem hit_lt {p : Pr} {L : List Pr} (h : hit p L = true) : plc p L < L.length := by
  by_cases hl : plc p L < L.length
  · exact hl
  · unfold hit at h
    rw [List.getElem?_eq_none (by omega)] at h
    cases h

set_option maxHeartbeats 8000000 in
theorem refDrop_any {rb : Nat} {L : List Pr} (V : Vl) (v : Value) (i : Int) (w : World) (hR : IsR w rb L) (hS : Sorted L) (hA : ∀ p ∈ L, okB p.1 p.2 = true) (hz : SzW V) (hv : IsV w v V) :
    Calls Tryd.prog 27 #[.pointer (some ⟨rb, 0, none⟩), v, .int .i64 i] w (DidR rb (.bool (dropE V i L)) (dropL V i L) w) := by
  obtain ⟨rv, M, hr, hP, rfl⟩ := hR
  have HB := Lib.hid (fun (o : Obj) => (Below.refl w.heap.size w).alloc (Nat.le_refl _) o)
  have HR := Lib.hid (fun W (hW : Below w.heap.size w W) => refRight_any V v W hz (hv.below hW))
  have HPL := Lib.hid (fun W (hW : Below w.heap.size w W) => place_any V v i W ((hW.block _ (lt_of_some hr)).trans hr) (hP.below hW) (hv.below hW))
  have HI : Hid (IsR w rb (M.map Prod.fst)) := ⟨rv, M, hr, hP, rfl⟩
  have HP := Lib.hid hP
  have HRB := Lib.hid hr
  have rlt := lt_of_some hr
  have hsm := hP.small
  obtain ⟨ra, rc, rfl⟩ := hP.row.slice
  have hcap : M.length ≤ rc := by obtain ⟨a', c', e, h, _⟩ := hP.row; cases e; exact h
  obtain ⟨sl, rfl, hl⟩ := hv
  obtain ⟨la, ll, lc, rfl⟩ := hl.slice
  clear hl hz hr hP
  have hE := dropE_ref (V := V) (i := i) hS hA
  cases hd : rightV V
  · rw [hd, Bool.false_and] at hE
    rw [dropL_no hE, hE]
    rw [hd] at HR
    clear hS hA hE hd
    generalize plc (V, i) (M.map Prod.fst) = p at *
    generalize hit (V, i) (M.map Prod.fst) = hb at *
    go_enter Tryd.func27, Tryd.ntmps27
    go_wp2_with fail
    refine (HPL.out _ (HB.out _)).mono ?_
    rintro e w1 ⟨rfl, b1⟩
    have VB1 : Hid (w1.heap[w.heap.size]? = some (valObj V (.slice la ll lc))) := (b1.block _ (by simp)).trans (new_block w _ _ rfl)
    have B1 := Lib.hid ((HB.out (valObj V (.slice la ll lc))).trans (b1.mono (by simp)))
    obtain ⟨a0, a1, a2, a3⟩ := val_cells VB1.out
    clear b1
    go_wp2_with fail
    refine (HR.out _ B1.out).mono ?_
    rintro e w2 ⟨rfl, b2⟩
    have B2 := Lib.hid (B1.out.trans (b2.mono B1.out.size))
    clear a0 a1 a2 a3 b2 VB1
    go_wp2_with fail
    go_ret
    exact didR_same HI.out B2.out
  · rw [hd, Bool.true_and] at hE
    rw [hd] at HR
    cases hh : hit (V, i) (M.map Prod.fst)
    · rw [hh] at hE HPL
      rw [dropL_no hE, hE]
      clear hS hA hE hd hh
      generalize plc (V, i) (M.map Prod.fst) = p at *
      go_enter Tryd.func27, Tryd.ntmps27
      go_wp2_with fail
      refine (HPL.out _ (HB.out _)).mono ?_
      rintro e w1 ⟨rfl, b1⟩
      have VB1 : Hid (w1.heap[w.heap.size]? = some (valObj V (.slice la ll lc))) := (b1.block _ (by simp)).trans (new_block w _ _ rfl)
      have B1 := Lib.hid ((HB.out (valObj V (.slice la ll lc))).trans (b1.mono (by simp)))
      obtain ⟨a0, a1, a2, a3⟩ := val_cells VB1.out
      clear b1
      go_wp2_with fail
      refine (HR.out _ B1.out).mono ?_
      rintro e w2 ⟨rfl, b2⟩
      have B2 := Lib.hid (B1.out.trans (b2.mono B1.out.size))
      clear a0 a1 a2 a3 b2 VB1
      go_wp2_with fail
      go_ret
      exact didR_same HI.out B2.out
    · rw [hh] at hE HPL
      rw [dropL_ref hS hE, hE]
      have hpl := hit_lt hh
      rw [List.length_map] at hpl
      clear hS hA hE hd hh
      generalize plc (V, i) (M.map Prod.fst) = p at *
      have EM : Hid ((M.take p ++ M.drop (p + 1)).map Prod.fst = List.take p (M.map Prod.fst) ++ List.drop (p + 1) (M.map Prod.fst)) := by
        show _ = _
        simp only [List.map_append, List.map_take, List.map_drop]
      have EL : Hid ((M.take p ++ M.drop (p + 1)).length = p + (M.length - (p + 1))) := by
        show _ = _
        simp only [List.length_append, List.length_take, List.length_drop]; omega
      generalize List.take p (M.map Prod.fst) ++ List.drop (p + 1) (M.map Prod.fst) = L' at *
      go_enter Tryd.func27, Tryd.ntmps27
      go_wp2_with fail
      refine (HPL.out _ (HB.out _)).mono ?_
      rintro e w1 ⟨rfl, b1⟩
      have VB1 : Hid (w1.heap[w.heap.size]? = some (valObj V (.slice la ll lc))) := (b1.block _ (by simp)).trans (new_block w _ _ rfl)
      have B1 := Lib.hid ((HB.out (valObj V (.slice la ll lc))).trans (b1.mono (by simp)))
      obtain ⟨a0, a1, a2, a3⟩ := val_cells VB1.out
      clear b1
      go_wp2_with fail
      refine (HR.out _ B1.out).mono ?_
      rintro e w2 ⟨rfl, b2⟩
      have B2 := Lib.hid (B1.out.trans (b2.mono B1.out.size))
      clear a0 a1 a2 a3 b2 VB1
      have zz2 : w.heap.size ≤ w2.heap.size := B2.out.size
      have RB2 := Lib.hid ((B2.out.block _ rlt).trans HRB.out)
      have r0 := ref_cell RB2.out
      have rlt2 : rb < w2.heap.size := by omega
      have P2 := Lib.hid (HP.out.below B2.out)
      have q0 : (0 : Int) ≤ (p : Int) := by omega
      have q1 : (p : Int) ≤ (M.length : Int) := by omega
      have q2 : (p : Int) ≤ (rc : Int) := by omega
      have u0 : (0 : Int) ≤ (p : Int) + 1 := by omega
      have u1 : (p : Int) + 1 ≤ (M.length : Int) := by omega
      have RT : Hid (Row w2 71 5 (.slice ra p rc) p (flatR (M.take p))) := by
        have := P2.out.row.take (k := p) (by omega)
        rw [flatR_take] at this
        exact this
      have RD := P2.out.row.drop (k := p + 1) (by omega)
      rw [flatR_drop] at RD
      obtain ⟨da, hda⟩ : ∃ da, (if rc = p + 1 then ra else Option.map (fun x => x.add ((p + 1) * 5)) ra) = da := ⟨_, rfl⟩
      obtain ⟨dc, hdc⟩ : ∃ dc, rc - (p + 1) = dc := ⟨_, rfl⟩
      rw [hda, hdc] at RD
      have HDA : Hid ((if rc = p + 1 then ra else Option.map (fun x => x.add ((p + 1) * 5)) ra) = da ∧ rc - (p + 1) = dc) := ⟨hda, hdc⟩
      have RDH := Lib.hid RD
      clear RD hda hdc
      go_wp2_with fail
      have wr1 : IntKind.i64.wrap ((p : Int) + 1) = (p : Int) + 1 := IntWalk.i64_in _ (by omega)
      have wr2 : ((p : Int) + 1).toNat = p + 1 := by omega
      have BB : Hid (Below w2.heap.size w2 w2.drew) := (Below.refl _ _).drew
      refine wp_sch (fun W => Below w2.heap.size w2 W) (.read 0 (.read 1 (.read 2 (.read 3 (.read 4 (.read 5 (.read 6 (.read 8 (.read 9 (.read 10 (.read 11 (.read 12 (.read 13 (.read 14 (.call 7 (.call 15 (.read 16 .done))))))))))))))))) (by kernel_rfl) (by kernel_rfl) (fun _ _ _ _ _ h => h) BB.out ?_
      refine wpSch_read rfl (Or.inl ⟨by rfl, fun W hS => by obtain ⟨hcS, _⟩ := bcell hS; clear hS; go_simp; try with_reducible rfl⟩) ?_
      go_simp
      refine wpSch_read rfl (Or.inl ⟨by rfl, fun W hS => by obtain ⟨hcS, _⟩ := bcell hS; clear hS; go_simp; try with_reducible rfl⟩) ?_
      go_simp
      refine wpSch_read rfl (Or.inl ⟨by rfl, fun W hS => by obtain ⟨hcS, _⟩ := bcell hS; clear hS; go_simp; try with_reducible rfl⟩) ?_
      go_simp
      refine wpSch_read rfl (Or.inl ⟨by rfl, fun W hS => by obtain ⟨hcS, _⟩ := bcell hS; clear hS; go_simp; try with_reducible rfl⟩) ?_
      go_simp
      refine wpSch_read rfl (Or.inl ⟨by rfl, fun W hS => by obtain ⟨hcS, _⟩ := bcell hS; clear hS; go_simp; try with_reducible rfl⟩) ?_
      go_simp
      refine wpSch_read rfl (Or.inl ⟨by rfl, fun W hS => by obtain ⟨hcS, _⟩ := bcell hS; clear hS; go_simp; try with_reducible rfl⟩) ?_
      go_simp
      refine wpSch_read rfl (Or.inl ⟨by rfl, fun W hS => by obtain ⟨hcS, _⟩ := bcell hS; clear hS; go_simp; try with_reducible rfl⟩) ?_
      go_simp
      refine wpSch_read rfl (Or.inl ⟨by rfl, fun W hS => by obtain ⟨hcS, _⟩ := bcell hS; clear hS; go_simp; try with_reducible rfl⟩) ?_
      go_simp
      refine wpSch_read rfl (Or.inl ⟨by rfl, fun W hS => by obtain ⟨hcS, _⟩ := bcell hS; clear hS; go_simp; try with_reducible rfl⟩) ?_
      go_simp
      refine wpSch_read rfl (Or.inl ⟨by rfl, fun W hS => by obtain ⟨hcS, _⟩ := bcell hS; clear hS; go_simp; try with_reducible rfl⟩) ?_
      go_simp
      refine wpSch_read rfl (Or.inl ⟨by rfl, fun W hS => by obtain ⟨hcS, _⟩ := bcell hS; clear hS; go_simp; try with_reducible rfl⟩) ?_
      go_simp
      refine wpSch_read rfl (Or.inl ⟨by rfl, fun W hS => by obtain ⟨hcS, _⟩ := bcell hS; clear hS; go_simp; try with_reducible rfl⟩) ?_
      go_simp
      refine wpSch_read rfl (Or.inl ⟨by rfl, fun W hS => by obtain ⟨hcS, _⟩ := bcell hS; clear hS; go_simp; try with_reducible rfl⟩) ?_
      go_simp
      refine wpSch_read (v := .slice da (M.length - (p + 1)) dc) rfl (Or.inl ⟨by rfl, fun W hS => by obtain ⟨hcS, _⟩ := bcell hS; clear hS; go_simp; exact HDA.out⟩) ?_
      go_simp
      refine wpSch_do rfl (fun K hK => ?_)
      refine step_append (by rfl) (.tmp 24) (.tmp 30) rfl elemR w2.heap.size _ _ 0 p [] _ (by simp [Act.eval]) (by simp [Act.eval]) (World.ownsRow_nil _ _ _ _) (RT.out.below BB.out) (by omega) BB.out.size ?_
      intro v7 q7 o7 b7 _
      obtain ⟨c7, d7, e7, rfl⟩ : ∃ a n c, v7 = .slice a n c := ownsRow_slice o7
      have B7 : Hid (Below w2.heap.size w2 q7) := BB.out.trans b7
      have O7 : Hid (q7.ownsRow w2.heap.size 71 5 (.slice c7 d7 e7) p (flatR (M.take p))) := by have := o7; rw [Nat.zero_add, List.nil_append] at this; exact this
      refine hK _ _ B7.out ?_
      clear hK K o7 b7
      go_simp
      refine wpSch_do rfl (fun K hK => ?_)
      refine step_append (by rfl) (.tmp 31) (.tmp 38) rfl elemR w2.heap.size _ _ p (M.length - (p + 1)) _ _ (by simp [Act.eval]) (by simp [Act.eval]) O7.out (RDH.out.below B7.out) (by omega) B7.out.size ?_
      intro v9 q9 o9 b9 _
      obtain ⟨c9, d9, e9, rfl⟩ : ∃ a n c, v9 = .slice a n c := ownsRow_slice o9
      have B9 : Hid (Below w2.heap.size w2 q9) := B7.out.trans b9
      have O9 : Hid (q9.ownsRow w2.heap.size 71 5 (.slice c9 d9 e9) (M.take p ++ M.drop (p + 1)).length (flatR (M.take p ++ M.drop (p + 1)))) := by
        have := o9
        rw [← flatR_app, ← EL.out] at this
        exact this
      refine hK _ _ B9.out ?_
      clear hK K o9 b9
      go_simp
      refine wpSch_read rfl (Or.inl ⟨by rfl, fun W hS => by obtain ⟨hcS, _⟩ := bcell hS; clear hS; go_simp; try with_reducible rfl⟩) ?_
      go_simp
      refine wpSch_done ?_
      clear wr1 wr2
      have RB9 := Lib.hid ((B9.out.block _ rlt2).trans RB2.out)
      clear r0
      have r0 := ref_cell RB9.out
      have r1 := ref_free RB9.out 0
      have B0 : Hid (Below w.heap.size w q9) := B2.out.trans (B9.out.mono (by omega))
      have IM : Hid (IsM q9 (M.take p ++ M.drop (p + 1))) := fun m hm => by
        rcases List.mem_append.1 hm with hm | hm
        · exact (HP.out.m m (List.mem_of_mem_take hm)).below B0.out
        · exact (HP.out.m m (List.mem_of_mem_drop hm)).below B0.out
      go_wp2_with fail
      go_ret
      exact didR_new B0.out RB9.out O9.out IM.out EM.out (by rw [EL.out]; omega)
end Go.Proofs.YtifaaacbbjlffaaDoor
