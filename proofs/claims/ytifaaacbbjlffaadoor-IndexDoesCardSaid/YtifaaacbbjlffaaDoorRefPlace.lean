/- The contract of the reference's place. -/
import Derived.Test.YtifaaacbbjlffaaDoorRefIdx
namespace Go.Proofs.YtifaaacbbjlffaaDoor
open Go.RowKit Mor

def allLess (p : Pr) (k : Nat) (L : List Pr) : Prop := ∀ (j : Nat) (q : Pr), j < k → L[j]? = some q → ordP q p < 0
theorem allLess_succ {p : Pr} {k : Nat} {L : List Pr} {q : Pr} (h : allLess p k L) (hq : L[k]? = some q) (hl : ordP q p < 0) : allLess p (k + 1) L := fun j x hj hx => by
  by_cases e : j = k
  · subst e; rw [hq] at hx; cases hx; exact hl
  · exact h j x (by omega) hx
theorem hit_at {p : Pr} {L : List Pr} {k : Nat} {q : Pr} (hk : plc p L = k) (hq : L[k]? = some q) : hit p L = decide (ordP q p = 0) := by unfold hit; rw [hk, hq]
theorem hit_end {p : Pr} {L : List Pr} (hk : plc p L = L.length) : hit p L = false := by unfold hit; rw [hk, List.getElem?_eq_none (Nat.le_refl _)]

set_option maxHeartbeats 1000000 in
theorem place_any {rb : Nat} {rv : Value} {M : List (Pr × Value)} (V : Vl) (v : Value) (i : Int) (w : World) (hr : w.heap[rb]? = some (refObj rv)) (hP : IsP w rv M) (hv : IsV w v V) :
    Calls Tryd.prog 44 #[.pointer (some ⟨rb, 0, none⟩), v, .int .i64 i] w fun e w' => e = .returned (.tuple #[.int .i64 (plc (V, i) (M.map Prod.fst)), .bool (hit (V, i) (M.map Prod.fst))]) ∧ Below w.heap.size w w' := by
  have HO := Lib.hid (fun (m : Pr × Value) (hm : m ∈ M) W (hW : Below w.heap.size w W) => refOrd_any m.1 m.2 V v i W ((hP.m m hm).below hW) (hv.below hW))
  have hsm := hP.small
  obtain ⟨ra, rc, rfl⟩ := hP.row.slice
  have HP := Lib.hid hP
  have HR := Lib.hid hr
  have rlt := lt_of_some hr
  have HB := Lib.hid (fun (o : Obj) => (Below.refl w.heap.size w).alloc (Nat.le_refl _) o)
  obtain ⟨sl, rfl, hl⟩ := hv
  obtain ⟨la, ll, lc, rfl⟩ := hl.slice
  clear hl hP hr
  have HE : Hid (∀ k, allLess (V, i) k (M.map Prod.fst) → (∀ q, (M.map Prod.fst)[k]? = some q → ¬ ordP q (V, i) < 0) → k ≤ (M.map Prod.fst).length → plc (V, i) (M.map Prod.fst) = k) := fun k h1 h2 h3 => plc_of (V, i) (M.map Prod.fst) k h1 h2 h3
  have e0 : (M.map Prod.fst).length = M.length := List.length_map ..
  have E0 := Lib.hid e0
  clear e0
  generalize hL : M.map Prod.fst = L at *
  have HL := Lib.hid hL
  clear hL
  go_enter Tryd.func44, Tryd.ntmps44
  go_wp2_with fail
  go_loopw [8] (fun x wr => ∃ k : Nat, k ≤ M.length ∧ x = .int .i64 k ∧ Hid (allLess (V, i) k L) ∧ Below (w.heap.size + 1) (w.alloc (valObj V (.slice la ll lc))) wr) (fun x _ => M.length - (intOf x).toNat)
  case atStart => exact ⟨0, by omega, rfl, fun j q hj => absurd hj (by omega), Below.refl _ _⟩
  case round =>
    obtain ⟨k, hk, rfl, HA, hB⟩ := hrel
    have hz0 := hB.size
    have hsz : w.heap.size + 1 ≤ wr.heap.size := by simpa using hz0
    clear hz0
    have va : wr.heap[w.heap.size]? = some (valObj V (.slice la ll lc)) := (hB.block _ (by omega)).trans (new_block w _ _ rfl)
    obtain ⟨a0, a1, a2, a3⟩ := val_cells va
    have HBw : Hid (Below w.heap.size w wr) := (HB.out _).trans (hB.mono (by omega))
    have r0 := ref_cell ((HBw.out.block _ rlt).trans HR.out)
    have HBr := Lib.hid hB
    clear hB va
    by_cases h1 : k < M.length
    · obtain ⟨m, hm⟩ : ∃ m, M[k]? = some m := ⟨_, List.getElem?_eq_getElem h1⟩
      obtain ⟨b, o, rfl, hb, hc⟩ := HP.out.at hm
      have hq : L[k]? = some m.1 := by rw [← HL.out, List.getElem?_map, hm]; rfl
      have HM := Lib.hid (List.mem_of_getElem? hm)
      have HQ := Lib.hid hq
      replace hc := hc.below HBw.out hb
      have f1 := hc.k
      have f2 := hc.n
      have f3 := hc.s
      have f4 := hc.l
      have f5 := hc.i
      have i1 : (0 : Int) ≤ (k : Int) := by omega
      have i2 : (k : Int) < (M.length : Int) := by omega
      have i3 : decide ((k : Int) < (M.length : Int)) = true := decide_eq_true i2
      clear hm hq hc
      by_cases hlt : ordP m.1 (V, i) < 0
      · have hd : decide (ordP m.1 (V, i) < 0) = true := decide_eq_true hlt
        have HA1 := Lib.hid (allLess_succ HA.out HQ.out hlt)
        clear hlt
        go_wp2_with fail
        refine wp_still_tail 17 (by kernel_rfl) (by kernel_rfl) ?_
        simp only [List.take_succ_cons, List.take_zero, List.drop_succ_cons, List.drop_zero]
        repeat still_step
        refine wpStill_nil ?_
        go_wp2_with fail
        refine (HO.out m HM.out _ HBw.out.drew).mono ?_
        rintro e w' ⟨rfl, hX⟩
        have HX := Lib.hid hX
        clear hX
        go_wp2_with fail
        go_roundw
        case rel => exact ⟨k + 1, by omega, by go_num, HA1.out, HBr.out.trans ((Below.refl _ _).drew.trans (HX.out.mono hsz))⟩
        case measure => simp [intOf]; omega
      · have hd : decide (ordP m.1 (V, i) < 0) = false := decide_eq_false hlt
        have HK := Lib.hid (HE.out k HA.out (fun q hq => by rw [HQ.out] at hq; cases hq; omega) (by rw [E0.out]; omega))
        have HH := Lib.hid (hit_at HK.out HQ.out)
        clear hlt
        go_wp2_with fail
        refine wp_still_tail 17 (by kernel_rfl) (by kernel_rfl) ?_
        simp only [List.take_succ_cons, List.take_zero, List.drop_succ_cons, List.drop_zero]
        repeat still_step
        refine wpStill_nil ?_
        go_wp2_with fail
        refine (HO.out m HM.out _ HBw.out.drew).mono ?_
        rintro e w' ⟨rfl, hX⟩
        have hz1 := hX.size
        have B1 : Hid (Below w.heap.size w w') := HBw.out.trans ((Below.refl _ _).drew.trans (hX.mono (by have := HBw.out.size; exact this)))
        obtain ⟨hc1, _⟩ := bcell ((Below.refl _ wr).drew.trans hX)
        clear hX
        have hb2 : b < wr.heap.size := Nat.lt_of_lt_of_le hb HBw.out.size
        have hb3 : rb < wr.heap.size := Nat.lt_of_lt_of_le rlt HBw.out.size
        have hb4 : w.heap.size < wr.heap.size := hsz
        replace a0 := (hc1 _ 0 hb4).trans a0
        replace a1 := (hc1 _ 1 hb4).trans a1
        replace a2 := (hc1 _ 2 hb4).trans a2
        replace a3 := (hc1 _ 3 hb4).trans a3
        replace r0 := (hc1 _ 0 hb3).trans r0
        replace f1 := (hc1 _ _ hb2).trans f1
        replace f2 := (hc1 _ _ hb2).trans f2
        replace f3 := (hc1 _ _ hb2).trans f3
        replace f4 := (hc1 _ _ hb2).trans f4
        replace f5 := (hc1 _ _ hb2).trans f5
        clear hc1 hb2 hb3 hb4
        have zz0 : wr.heap.size ≤ w'.heap.size := hz1
        clear hz1
        go_wp2_with fail
        have zz1 : w.heap.size < w'.heap.size := Nat.lt_of_lt_of_le hsz zz0
        have zz2 : rb < w'.heap.size := by omega
        have zz3 : b < w'.heap.size := by omega
        have BB : Hid (Below w'.heap.size w' w'.drew) := (Below.refl _ _).drew
        refine wp_sch (fun W => Below w'.heap.size w' W) (.read 0 (.read 1 (.read 2 (.read 3 (.read 4 (.read 5 (.read 6 (.read 7 (.read 8 (.read 9 (.read 10 (.read 11 (.read 12 (.read 13 (.read 14 (.read 15 (.read 16 (.read 17 (.call 18 (.read 21 (.read 19 (.read 20 (.read 22 .done))))))))))))))))))))))) (by kernel_rfl) (by kernel_rfl) (fun _ _ _ _ _ h => h) BB.out ?_
        refine wpSch_read rfl (Or.inl ⟨by rfl, fun W hS => by obtain ⟨hcS, _⟩ := bcell hS; clear hS; go_simp; try with_reducible rfl⟩) ?_
        go_simp
        refine wpSch_read rfl (Or.inl ⟨by rfl, fun W hS => by obtain ⟨hcS, _⟩ := bcell hS; clear hS; go_simp; try with_reducible rfl⟩) ?_
        go_simp
        refine wpSch_read rfl (Or.inl ⟨by rfl, fun W hS => by obtain ⟨hcS, _⟩ := bcell hS; clear hS; go_simp; try with_reducible rfl⟩) ?_
        go_simp
        refine wpSch_read rfl (Or.inl ⟨by rfl, fun W hS => by obtain ⟨hcS, _⟩ := bcell hS; clear hS; go_simp; try with_reducible rfl⟩) ?_
        go_simp
        refine wpSch_read rfl (Or.inl ⟨by rfl, fun W hS => by obtain ⟨hcS, _⟩ := bcell hS; clear hS; go_simp; try with_reducible rfl⟩) ?_
        go_simp
        refine wpSch_read rfl (Or.inl ⟨by rfl, fun W hS => by obtain ⟨hcS, _⟩ := bcell hS; clear hS; go_simp; try with_reducible rfl⟩) ?_
        go_simp
        refine wpSch_read rfl (Or.inl ⟨by rfl, fun W hS => by obtain ⟨hcS, _⟩ := bcell hS; clear hS; go_simp; try with_reducible rfl⟩) ?_
        go_simp
        refine wpSch_read rfl (Or.inl ⟨by rfl, fun W hS => by obtain ⟨hcS, _⟩ := bcell hS; clear hS; go_simp; try with_reducible rfl⟩) ?_
        go_simp
        refine wpSch_read rfl (Or.inl ⟨by rfl, fun W hS => by obtain ⟨hcS, _⟩ := bcell hS; clear hS; go_simp; try with_reducible rfl⟩) ?_
        go_simp
        refine wpSch_read rfl (Or.inl ⟨by rfl, fun W hS => by obtain ⟨hcS, _⟩ := bcell hS; clear hS; go_simp; try with_reducible rfl⟩) ?_
        go_simp
        refine wpSch_read rfl (Or.inl ⟨by rfl, fun W hS => by obtain ⟨hcS, _⟩ := bcell hS; clear hS; go_simp; try with_reducible rfl⟩) ?_
        go_simp
        refine wpSch_read rfl (Or.inl ⟨by rfl, fun W hS => by obtain ⟨hcS, _⟩ := bcell hS; clear hS; go_simp; try with_reducible rfl⟩) ?_
        go_simp
        refine wpSch_read rfl (Or.inl ⟨by rfl, fun W hS => by obtain ⟨hcS, _⟩ := bcell hS; clear hS; go_simp; try with_reducible rfl⟩) ?_
        go_simp
        refine wpSch_read rfl (Or.inl ⟨by rfl, fun W hS => by obtain ⟨hcS, _⟩ := bcell hS; clear hS; go_simp; try with_reducible rfl⟩) ?_
        go_simp
        refine wpSch_read rfl (Or.inl ⟨by rfl, fun W hS => by obtain ⟨hcS, _⟩ := bcell hS; clear hS; go_simp; try with_reducible rfl⟩) ?_
        go_simp
        refine wpSch_read rfl (Or.inl ⟨by rfl, fun W hS => by obtain ⟨hcS, _⟩ := bcell hS; clear hS; go_simp; try with_reducible rfl⟩) ?_
        go_simp
        refine wpSch_read rfl (Or.inl ⟨by rfl, fun W hS => by obtain ⟨hcS, _⟩ := bcell hS; clear hS; go_simp; try with_reducible rfl⟩) ?_
        go_simp
        refine wpSch_read rfl (Or.inl ⟨by rfl, fun W hS => by obtain ⟨hcS, _⟩ := bcell hS; clear hS; go_simp; try with_reducible rfl⟩) ?_
        go_simp
        refine wpSch_do rfl (fun K hK => ?_)
        go_simp
        refine (HO.out m HM.out _ B1.out.drew).mono ?_
        rintro e w2 ⟨rfl, hX⟩
        have B2 : Hid (Below w.heap.size w w2) := B1.out.trans ((Below.refl _ _).drew.trans (hX.mono (by have := B1.out.size; exact this)))
        refine hK _ _ (BB.out.trans hX) ?_
        clear hK K hX
        go_simp
        refine wpSch_read rfl (Or.inl ⟨by rfl, fun W hS => by obtain ⟨hcS, _⟩ := bcell hS; clear hS; go_simp; try with_reducible rfl⟩) ?_
        go_simp
        refine wpSch_read rfl (Or.inl ⟨by rfl, fun W hS => by obtain ⟨hcS, _⟩ := bcell hS; clear hS; go_simp; try with_reducible rfl⟩) ?_
        go_simp
        refine wpSch_read rfl (Or.inl ⟨by rfl, fun W hS => by obtain ⟨hcS, _⟩ := bcell hS; clear hS; go_simp; try with_reducible rfl⟩) ?_
        go_simp
        refine wpSch_read rfl (Or.inl ⟨by rfl, fun W hS => by obtain ⟨hcS, _⟩ := bcell hS; clear hS; go_simp; try with_reducible rfl⟩) ?_
        go_simp
        refine wpSch_done ?_
        go_wp2_with fail
        go_ret2
        rw [HK.out, HH.out]
        exact ⟨rfl, B2.out⟩
    · have i2 : ¬ (k : Int) < (M.length : Int) := by omega
      have i3 : decide ((k : Int) < (M.length : Int)) = false := decide_eq_false i2
      have HK := Lib.hid (HE.out k HA.out (fun q hq => by rw [List.getElem?_eq_none (by rw [E0.out]; omega)] at hq; cases hq) (by rw [E0.out]; exact hk))
      have HH := Lib.hid (hit_end (HK.out.trans (by rw [E0.out]; omega)))
      have i4 : decide (k < M.length) = false := decide_eq_false h1
      clear h1 hk
      have z1 : w.heap.size < wr.heap.size := hsz
      have z2 : rb < wr.heap.size := by omega
      go_wp2_with fail
      have BB : Hid (Below wr.heap.size wr wr.drew) := (Below.refl _ _).drew
      refine wp_sch (fun W => Below wr.heap.size wr W) (.read 0 (.read 1 (.read 2 (.read 3 (.read 4 (.read 5 (.read 6 (.read 7 (.read 8 (.read 9 (.read 10 (.read 11 (.read 12 (.read 13 (.read 14 (.read 15 (.read 16 (.call 17 (.read 18 (.read 19 .done)))))))))))))))))))) (by kernel_rfl) (by kernel_rfl) (fun _ _ _ _ _ h => h) BB.out ?_
      refine wpSch_read rfl (Or.inl ⟨by rfl, fun W hS => by obtain ⟨hcS, _⟩ := bcell hS; clear hS; go_simp; try with_reducible rfl⟩) ?_
      go_simp
      refine wpSch_read rfl (Or.inl ⟨by rfl, fun W hS => by obtain ⟨hcS, _⟩ := bcell hS; clear hS; go_simp; try with_reducible rfl⟩) ?_
      go_simp
      refine wpSch_read rfl (Or.inl ⟨by rfl, fun W hS => by obtain ⟨hcS, _⟩ := bcell hS; clear hS; go_simp; try with_reducible rfl⟩) ?_
      go_simp
      refine wpSch_read rfl (Or.inl ⟨by rfl, fun W hS => by obtain ⟨hcS, _⟩ := bcell hS; clear hS; go_simp; try with_reducible rfl⟩) ?_
      go_simp
      refine wpSch_read rfl (Or.inl ⟨by rfl, fun W hS => by obtain ⟨hcS, _⟩ := bcell hS; clear hS; go_simp; try with_reducible rfl⟩) ?_
      go_simp
      refine wpSch_read rfl (Or.inl ⟨by rfl, fun W hS => by obtain ⟨hcS, _⟩ := bcell hS; clear hS; go_simp; try with_reducible rfl⟩) ?_
      go_simp
      refine wpSch_read rfl (Or.inl ⟨by rfl, fun W hS => by obtain ⟨hcS, _⟩ := bcell hS; clear hS; go_simp; try with_reducible rfl⟩) ?_
      go_simp
      refine wpSch_read rfl (Or.inl ⟨by rfl, fun W hS => by obtain ⟨hcS, _⟩ := bcell hS; clear hS; go_simp; try with_reducible rfl⟩) ?_
      go_simp
      refine wpSch_read rfl (Or.inr ⟨by rfl, rfl⟩) ?_
      go_simp
      refine wpSch_read rfl (Or.inr ⟨by rfl, rfl⟩) ?_
      go_simp
      refine wpSch_read rfl (Or.inr ⟨by rfl, rfl⟩) ?_
      go_simp
      refine wpSch_read rfl (Or.inr ⟨by rfl, rfl⟩) ?_
      go_simp
      refine wpSch_read rfl (Or.inr ⟨by rfl, rfl⟩) ?_
      go_simp
      refine wpSch_read rfl (Or.inr ⟨by rfl, rfl⟩) ?_
      go_simp
      refine wpSch_read rfl (Or.inr ⟨by rfl, rfl⟩) ?_
      go_simp
      refine wpSch_read rfl (Or.inr ⟨by rfl, rfl⟩) ?_
      go_simp
      refine wpSch_read rfl (Or.inr ⟨by rfl, rfl⟩) ?_
      go_simp
      refine wpSch_do rfl (fun K hK => ?_)
      go_simp
      refine hK _ _ BB.out ?_
      clear hK K
      go_simp
      refine wpSch_read rfl (Or.inr ⟨by rfl, rfl⟩) ?_
      go_simp
      refine wpSch_read rfl (Or.inl ⟨by rfl, fun W hS => by obtain ⟨hcS, _⟩ := bcell hS; clear hS; go_simp; try with_reducible rfl⟩) ?_
      go_simp
      refine wpSch_done ?_
      go_wp2_with fail
      have BC : Hid (Below wr.heap.size wr wr.drew.drew) := (Below.refl _ _).drew.drew
      refine wp_sch (fun W => Below wr.heap.size wr W) (.read 0 (.read 1 (.read 2 (.read 3 (.read 4 (.read 5 (.read 6 (.read 7 (.read 8 (.read 9 (.read 10 (.read 11 (.read 12 (.read 13 (.read 14 (.read 15 (.read 16 (.read 17 (.call 18 (.read 21 (.read 19 (.read 20 (.read 22 .done))))))))))))))))))))))) (by kernel_rfl) (by kernel_rfl) (fun _ _ _ _ _ h => h) BC.out ?_
      refine wpSch_read rfl (Or.inl ⟨by rfl, fun W hS => by obtain ⟨hcS, _⟩ := bcell hS; clear hS; go_simp; try with_reducible rfl⟩) ?_
      go_simp
      refine wpSch_read rfl (Or.inl ⟨by rfl, fun W hS => by obtain ⟨hcS, _⟩ := bcell hS; clear hS; go_simp; try with_reducible rfl⟩) ?_
      go_simp
      refine wpSch_read rfl (Or.inl ⟨by rfl, fun W hS => by obtain ⟨hcS, _⟩ := bcell hS; clear hS; go_simp; try with_reducible rfl⟩) ?_
      go_simp
      refine wpSch_read rfl (Or.inl ⟨by rfl, fun W hS => by obtain ⟨hcS, _⟩ := bcell hS; clear hS; go_simp; try with_reducible rfl⟩) ?_
      go_simp
      refine wpSch_read rfl (Or.inl ⟨by rfl, fun W hS => by obtain ⟨hcS, _⟩ := bcell hS; clear hS; go_simp; try with_reducible rfl⟩) ?_
      go_simp
      refine wpSch_read rfl (Or.inl ⟨by rfl, fun W hS => by obtain ⟨hcS, _⟩ := bcell hS; clear hS; go_simp; try with_reducible rfl⟩) ?_
      go_simp
      refine wpSch_read rfl (Or.inl ⟨by rfl, fun W hS => by obtain ⟨hcS, _⟩ := bcell hS; clear hS; go_simp; try with_reducible rfl⟩) ?_
      go_simp
      refine wpSch_read rfl (Or.inl ⟨by rfl, fun W hS => by obtain ⟨hcS, _⟩ := bcell hS; clear hS; go_simp; try with_reducible rfl⟩) ?_
      go_simp
      refine wpSch_read rfl (Or.inl ⟨by rfl, fun W hS => by obtain ⟨hcS, _⟩ := bcell hS; clear hS; go_simp; try with_reducible rfl⟩) ?_
      go_simp
      refine wpSch_read rfl (Or.inr ⟨by rfl, rfl⟩) ?_
      go_simp
      refine wpSch_read rfl (Or.inr ⟨by rfl, rfl⟩) ?_
      go_simp
      refine wpSch_read rfl (Or.inr ⟨by rfl, rfl⟩) ?_
      go_simp
      refine wpSch_read rfl (Or.inr ⟨by rfl, rfl⟩) ?_
      go_simp
      refine wpSch_read rfl (Or.inr ⟨by rfl, rfl⟩) ?_
      go_simp
      refine wpSch_read rfl (Or.inr ⟨by rfl, rfl⟩) ?_
      go_simp
      refine wpSch_read rfl (Or.inr ⟨by rfl, rfl⟩) ?_
      go_simp
      refine wpSch_read rfl (Or.inr ⟨by rfl, rfl⟩) ?_
      go_simp
      refine wpSch_read rfl (Or.inr ⟨by rfl, rfl⟩) ?_
      go_simp
      refine wpSch_do rfl (fun K hK => ?_)
      go_simp
      refine hK _ _ BC.out ?_
      clear hK K
      go_simp
      refine wpSch_read rfl (Or.inl ⟨by rfl, fun W hS => by obtain ⟨hcS, _⟩ := bcell hS; clear hS; go_simp; try with_reducible rfl⟩) ?_
      go_simp
      refine wpSch_read rfl (Or.inr ⟨by rfl, rfl⟩) ?_
      go_simp
      refine wpSch_read rfl (Or.inl ⟨by rfl, fun W hS => by obtain ⟨hcS, _⟩ := bcell hS; clear hS; go_simp; try with_reducible rfl⟩) ?_
      go_simp
      refine wpSch_read rfl (Or.inl ⟨by rfl, fun W hS => by obtain ⟨hcS, _⟩ := bcell hS; clear hS; go_simp; try with_reducible rfl⟩) ?_
      go_simp
      refine wpSch_done ?_
      go_wp2_with fail
      go_ret2
      rw [HK.out, HH.out]
      exact ⟨by simp, HBw.out.drew.drew⟩
end Go.Proofs.YtifaaacbbjlffaaDoor
