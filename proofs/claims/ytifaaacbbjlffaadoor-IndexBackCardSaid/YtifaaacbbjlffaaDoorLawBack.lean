/- The walk of IndexBack: it tells true. -/
import Derived.Test.YtifaaacbbjlffaaDoorLawMore
namespace Mor
theorem putE_raw (r : RawD) (c : Int) (L : List Pr) : putE (rawVal r) (1 + pickZ c 9) L = if has (rawVal r, 1 + pickZ c 9) L = true then 150 else 0 := by
  unfold putE; rw [okB_raw]; rfl
theorem dropE_raw (r : RawD) (c : Int) (L : List Pr) : dropE (rawVal r) (1 + pickZ c 9) L = has (rawVal r, 1 + pickZ c 9) L := by
  unfold dropE; rw [okB_raw, Bool.true_and]
theorem has_ins (p : Pr) (L : List Pr) : has p (ins p L) = true := has_iff.2 (mem_ins.2 (.inl rfl))
theorem has_del (p : Pr) (L : List Pr) : has p (del p L) = false := by
  cases h : has p (del p L) with
  | false => rfl
  | true => have := has_iff.1 h; rw [mem_del] at this; simp at this
end Mor
namespace Go.Proofs.YtifaaacbbjlffaaDoor
open Go.RowKit Mor

set_option maxHeartbeats 8000000 in
theorem back_law (cs : List CallD) (rp rv rw_ : RawD) (n : Int) (vc sp sv sw : Value) (w : World) (hT : Tabs w) (hc : IsC w vc cs) (hp : RawOk w rp sp) (hn : I64 n) (hv : RawOk w rv sv) (hw : RawOk w rw_ sw) :
    Calls Tryd.prog 6 #[vc, rawV rp sp, .int .i64 n, rawV rv sv, rawV rw_ sw] w fun e w' => e = .returned (.bool true) ∧ Below w.heap.size w w' := by
  obtain ⟨pa_, pn, pc, rfl⟩ := hp.slice
  obtain ⟨va, vn, vc', rfl⟩ := hv.slice
  obtain ⟨wa, wn, wc, rfl⟩ := hw.slice
  obtain ⟨ca, cp, rfl, _⟩ : ∃ a c, vc = .slice a cs.length c ∧ True := by obtain ⟨a, c, h, _⟩ := hc; exact ⟨a, c, h, trivial⟩
  have HT := Lib.hid hT
  have HC := Lib.hid hc
  have HP := Lib.hid hp
  have HV := Lib.hid hv
  have HW := Lib.hid hw
  have HN := Lib.hid hn
  have SP := Lib.hid (szV_raw hp)
  have SV := Lib.hid (szV_raw hv)
  have SW := Lib.hid (szV_raw hw)
  clear hT hc hv hw hp hn
  have B0 : Hid (Below w.heap.size w (((w.alloc (rawObj rp (.slice pa_ pn pc))).alloc (rawObj rv (.slice va vn vc'))).alloc (rawObj rw_ (.slice wa wn wc)))) := (((Below.refl _ w).alloc (Nat.le_refl _) _).alloc (by simp) _).alloc (by simp; omega) _
  unfold rawV
  go_enter Tryd.func6, Tryd.ntmps6
  go_wp2_with fail
  refine (awake_any _ (HT.out.below B0.out)).mono ?_
  rintro e w1 ⟨rfl, b1⟩
  have z1 : w.heap.size + 3 ≤ w1.heap.size := by have := b1.size; simpa using this
  have RP : Hid (w1.heap[w.heap.size]? = some (rawObj rp (.slice pa_ pn pc))) := (b1.block _ (by simp; omega)).trans ((Below.heap_alloc _ _ _ (by simp; omega)).trans ((Below.heap_alloc _ _ _ (by simp)).trans (new_block w _ _ rfl)))
  have RV : Hid (w1.heap[w.heap.size + 1]? = some (rawObj rv (.slice va vn vc'))) := (b1.block _ (by simp <;> omega)).trans ((Below.heap_alloc _ _ _ (by simp)).trans (new_block _ _ _ (by simp)))
  have RW : Hid (w1.heap[w.heap.size + 1 + 1]? = some (rawObj rw_ (.slice wa wn wc))) := (b1.block _ (by simp)).trans (new_block _ _ _ (by simp))
  have B1 : Hid (Below w.heap.size w w1) := B0.out.trans (b1.mono (by simp; omega))
  have BW : Hid (∀ {W : World}, Below w1.heap.size w1 W → Below w.heap.size w W) := fun h => B1.out.trans (h.mono (by omega))
  have HT1 := Lib.hid (HT.out.below B1.out)
  clear b1
  go_wp2_with fail
  refine (made_any cs false _ w1 HT1.out (HC.out.below B1.out)).mono ?_
  rintro e w2 ⟨xb, rfl, o2⟩
  have O := Lib.hid o2
  have z2 := o2.b.size
  replace RP : Hid (w2.heap[w.heap.size]? = some (rawObj rp (.slice pa_ pn pc))) := (o2.b.block _ (by omega)).trans RP.out
  replace RV : Hid (w2.heap[w.heap.size + 1]? = some (rawObj rv (.slice va vn vc'))) := (o2.b.block _ (by omega)).trans RV.out
  replace RW : Hid (w2.heap[w.heap.size + 1 + 1]? = some (rawObj rw_ (.slice wa wn wc))) := (o2.b.block _ (by omega)).trans RW.out
  clear o2
  have hml : (madeL (pairsOf cs false)).length ≤ 40 := made_forty cs
  have HS := Lib.hid (sorted_madeL (pairsOf cs false))
  generalize madeL (pairsOf cs false) = L at *
  obtain ⟨p0, p1, p2, p3⟩ := raw_cells RP.out
  obtain ⟨v0, v1, v2, v3⟩ := raw_cells RV.out
  obtain ⟨u0, u1, u2, u3⟩ := raw_cells RW.out
  go_wp2_with fail
  refine (val_any rv _ _ (HV.out.below (BW.out O.out.b))).mono ?_
  intro e w_1 hG
  obtain ⟨vv, rfl, iv, bv⟩ := hG
  obtain ⟨sl1, rfl, il⟩ := iv
  obtain ⟨la1, ln1, lc1, rfl⟩ := il.1.slice
  have bz : Below (w2).heap.size (w2) (w_1.alloc (valObj (rawVal rv) (.slice la1 ln1 lc1))) := bv.alloc bv.size _
  replace O := Lib.hid (O.out.below bz)
  replace RP : Hid ((w_1.alloc (valObj (rawVal rv) (.slice la1 ln1 lc1))).heap[w.heap.size]? = some (rawObj rp (.slice pa_ pn pc))) := (bz.block _ (lt_of_block RP.out)).trans RP.out
  replace RV : Hid ((w_1.alloc (valObj (rawVal rv) (.slice la1 ln1 lc1))).heap[w.heap.size + 1]? = some (rawObj rv (.slice va vn vc'))) := (bz.block _ (lt_of_block RV.out)).trans RV.out
  replace RW : Hid ((w_1.alloc (valObj (rawVal rv) (.slice la1 ln1 lc1))).heap[w.heap.size + 1 + 1]? = some (rawObj rw_ (.slice wa wn wc))) := (bz.block _ (lt_of_block RW.out)).trans RW.out
  have AB : Hid ((w_1.alloc (valObj (rawVal rv) (.slice la1 ln1 lc1))).heap[w_1.heap.size]? = some (valObj (rawVal rv) (.slice la1 ln1 lc1))) := new_block w_1 _ _ rfl
  have AL : Hid (IsLt (w_1.alloc (valObj (rawVal rv) (.slice la1 ln1 lc1))) (.slice la1 ln1 lc1) (rawVal rv).l) := il.below ((Below.refl _ w_1).alloc (Nat.le_refl _) _)
  clear p0 p1 p2 p3 v0 v1 v2 v3 u0 u1 u2 u3
  clear bz bv il
  obtain ⟨p0, p1, p2, p3⟩ := raw_cells RP.out
  obtain ⟨v0, v1, v2, v3⟩ := raw_cells RV.out
  obtain ⟨u0, u1, u2, u3⟩ := raw_cells RW.out
  obtain ⟨a0, a1, a2, a3⟩ := val_cells AB.out
  unfold valObj at p0 p1 p2 p3 v0 v1 v2 v3 u0 u1 u2 u3 a0 a1 a2 a3
  go_wp2_with fail
  refine (val_any rw_ _ _ (HW.out.below (BW.out O.out.b))).mono ?_
  intro e w_2 hG
  obtain ⟨vv, rfl, iv, bv⟩ := hG
  obtain ⟨sl2, rfl, il⟩ := iv
  obtain ⟨la2, ln2, lc2, rfl⟩ := il.1.slice
  have bz : Below (w_1.alloc (valObj (rawVal rv) (.slice la1 ln1 lc1))).heap.size (w_1.alloc (valObj (rawVal rv) (.slice la1 ln1 lc1))) (w_2.alloc (valObj (rawVal rw_) (.slice la2 ln2 lc2))) := bv.alloc bv.size _
  replace O := Lib.hid (O.out.below bz)
  replace RP : Hid ((w_2.alloc (valObj (rawVal rw_) (.slice la2 ln2 lc2))).heap[w.heap.size]? = some (rawObj rp (.slice pa_ pn pc))) := (bz.block _ (lt_of_block RP.out)).trans RP.out
  replace RV : Hid ((w_2.alloc (valObj (rawVal rw_) (.slice la2 ln2 lc2))).heap[w.heap.size + 1]? = some (rawObj rv (.slice va vn vc'))) := (bz.block _ (lt_of_block RV.out)).trans RV.out
  replace RW : Hid ((w_2.alloc (valObj (rawVal rw_) (.slice la2 ln2 lc2))).heap[w.heap.size + 1 + 1]? = some (rawObj rw_ (.slice wa wn wc))) := (bz.block _ (lt_of_block RW.out)).trans RW.out
  replace AB : Hid ((w_2.alloc (valObj (rawVal rw_) (.slice la2 ln2 lc2))).heap[w_1.heap.size]? = some (valObj (rawVal rv) (.slice la1 ln1 lc1))) := (bz.block _ (lt_of_block AB.out)).trans AB.out
  replace AL := Lib.hid (AL.out.below bz)
  have BB : Hid ((w_2.alloc (valObj (rawVal rw_) (.slice la2 ln2 lc2))).heap[w_2.heap.size]? = some (valObj (rawVal rw_) (.slice la2 ln2 lc2))) := new_block w_2 _ _ rfl
  have BL : Hid (IsLt (w_2.alloc (valObj (rawVal rw_) (.slice la2 ln2 lc2))) (.slice la2 ln2 lc2) (rawVal rw_).l) := il.below ((Below.refl _ w_2).alloc (Nat.le_refl _) _)
  clear p0 p1 p2 p3 v0 v1 v2 v3 u0 u1 u2 u3 a0 a1 a2 a3
  clear bz bv il
  obtain ⟨p0, p1, p2, p3⟩ := raw_cells RP.out
  obtain ⟨v0, v1, v2, v3⟩ := raw_cells RV.out
  obtain ⟨u0, u1, u2, u3⟩ := raw_cells RW.out
  obtain ⟨a0, a1, a2, a3⟩ := val_cells AB.out
  obtain ⟨b0, b1, b2, b3⟩ := val_cells BB.out
  unfold valObj at p0 p1 p2 p3 v0 v1 v2 v3 u0 u1 u2 u3 a0 a1 a2 a3 b0 b1 b2 b3
  go_wp2_with fail
  refine (range_any (rawVal rv) (rawVal rw_) _ _ _ (HT1.out.below O.out.b) SV.out SW.out ⟨_, rfl, AL.out⟩ ⟨_, rfl, BL.out⟩ O.out.x (by omega)).mono ?_
  intro e w_3 hG
  obtain ⟨vv, rfl, ii, bv⟩ := hG
  obtain ⟨ia3, ic3, rfl⟩ := ii.len
  replace O := Lib.hid (O.out.below bv)
  replace RP : Hid ((w_3).heap[w.heap.size]? = some (rawObj rp (.slice pa_ pn pc))) := (bv.block _ (lt_of_block RP.out)).trans RP.out
  replace RV : Hid ((w_3).heap[w.heap.size + 1]? = some (rawObj rv (.slice va vn vc'))) := (bv.block _ (lt_of_block RV.out)).trans RV.out
  replace RW : Hid ((w_3).heap[w.heap.size + 1 + 1]? = some (rawObj rw_ (.slice wa wn wc))) := (bv.block _ (lt_of_block RW.out)).trans RW.out
  replace AB : Hid ((w_3).heap[w_1.heap.size]? = some (valObj (rawVal rv) (.slice la1 ln1 lc1))) := (bv.block _ (lt_of_block AB.out)).trans AB.out
  replace AL := Lib.hid (AL.out.below bv)
  replace BB : Hid ((w_3).heap[w_2.heap.size]? = some (valObj (rawVal rw_) (.slice la2 ln2 lc2))) := (bv.block _ (lt_of_block BB.out)).trans BB.out
  replace BL := Lib.hid (BL.out.below bv)
  have I := Lib.hid ii
  clear p0 p1 p2 p3 v0 v1 v2 v3 u0 u1 u2 u3 a0 a1 a2 a3 b0 b1 b2 b3
  clear bv ii
  obtain ⟨p0, p1, p2, p3⟩ := raw_cells RP.out
  obtain ⟨v0, v1, v2, v3⟩ := raw_cells RV.out
  obtain ⟨u0, u1, u2, u3⟩ := raw_cells RW.out
  obtain ⟨a0, a1, a2, a3⟩ := val_cells AB.out
  obtain ⟨b0, b1, b2, b3⟩ := val_cells BB.out
  go_wp2_with fail
  refine (len_any _ O.out.x).mono ?_
  rintro e w_4 ⟨rfl, rfl⟩
  go_wp2_with fail
  refine (val_any rp _ _ (HP.out.below (BW.out O.out.b))).mono ?_
  intro e w_5 hG
  obtain ⟨vv, rfl, iv, bv⟩ := hG
  obtain ⟨sl5, rfl, il⟩ := iv
  obtain ⟨la5, ln5, lc5, rfl⟩ := il.1.slice
  have bz : Below (w_3).heap.size (w_3) (w_5.alloc (valObj (rawVal rp) (.slice la5 ln5 lc5))) := bv.alloc bv.size _
  replace O := Lib.hid (O.out.below bz)
  replace RP : Hid ((w_5.alloc (valObj (rawVal rp) (.slice la5 ln5 lc5))).heap[w.heap.size]? = some (rawObj rp (.slice pa_ pn pc))) := (bz.block _ (lt_of_block RP.out)).trans RP.out
  replace RV : Hid ((w_5.alloc (valObj (rawVal rp) (.slice la5 ln5 lc5))).heap[w.heap.size + 1]? = some (rawObj rv (.slice va vn vc'))) := (bz.block _ (lt_of_block RV.out)).trans RV.out
  replace RW : Hid ((w_5.alloc (valObj (rawVal rp) (.slice la5 ln5 lc5))).heap[w.heap.size + 1 + 1]? = some (rawObj rw_ (.slice wa wn wc))) := (bz.block _ (lt_of_block RW.out)).trans RW.out
  replace AB : Hid ((w_5.alloc (valObj (rawVal rp) (.slice la5 ln5 lc5))).heap[w_1.heap.size]? = some (valObj (rawVal rv) (.slice la1 ln1 lc1))) := (bz.block _ (lt_of_block AB.out)).trans AB.out
  replace AL := Lib.hid (AL.out.below bz)
  replace BB : Hid ((w_5.alloc (valObj (rawVal rp) (.slice la5 ln5 lc5))).heap[w_2.heap.size]? = some (valObj (rawVal rw_) (.slice la2 ln2 lc2))) := (bz.block _ (lt_of_block BB.out)).trans BB.out
  replace BL := Lib.hid (BL.out.below bz)
  replace I := Lib.hid (I.out.below bz)
  have CB : Hid ((w_5.alloc (valObj (rawVal rp) (.slice la5 ln5 lc5))).heap[w_5.heap.size]? = some (valObj (rawVal rp) (.slice la5 ln5 lc5))) := new_block w_5 _ _ rfl
  have CL : Hid (IsLt (w_5.alloc (valObj (rawVal rp) (.slice la5 ln5 lc5))) (.slice la5 ln5 lc5) (rawVal rp).l) := il.below ((Below.refl _ w_5).alloc (Nat.le_refl _) _)
  clear p0 p1 p2 p3 v0 v1 v2 v3 u0 u1 u2 u3 a0 a1 a2 a3 b0 b1 b2 b3
  clear bz bv il
  obtain ⟨p0, p1, p2, p3⟩ := raw_cells RP.out
  obtain ⟨v0, v1, v2, v3⟩ := raw_cells RV.out
  obtain ⟨u0, u1, u2, u3⟩ := raw_cells RW.out
  obtain ⟨a0, a1, a2, a3⟩ := val_cells AB.out
  obtain ⟨b0, b1, b2, b3⟩ := val_cells BB.out
  obtain ⟨c0, c1, c2, c3⟩ := val_cells CB.out
  unfold valObj at p0 p1 p2 p3 v0 v1 v2 v3 u0 u1 u2 u3 a0 a1 a2 a3 b0 b1 b2 b3 c0 c1 c2 c3
  go_wp2_with fail
  cases hhas : has (rawVal rp, 1 + pickZ n 9) L
  · have E1 := Lib.hid (show putE (rawVal rp) (1 + pickZ n 9) L = 0 by rw [putE_raw, hhas]; rfl)
    have E2 := Lib.hid (show putL (rawVal rp) (1 + pickZ n 9) L = ins (rawVal rp, 1 + pickZ n 9) L by rw [putL_raw]; unfold addP; rw [hhas]; rfl)
    have E3 := Lib.hid (show dropE (rawVal rp) (1 + pickZ n 9) (ins (rawVal rp, 1 + pickZ n 9) L) = true by rw [dropE_raw, has_ins])
    have E4 := Lib.hid (show dropL (rawVal rp) (1 + pickZ n 9) (ins (rawVal rp, 1 + pickZ n 9) L) = L by unfold dropL; rw [E3.out]; exact del_ins HS.out (fun h => by rw [has_iff.2 h] at hhas; cases hhas))
    have hl1 := ins_length (rawVal rp, 1 + pickZ n 9) L
    clear hhas
    refine wp_still_tail 4 (by kernel_rfl) (by kernel_rfl) ?_
    simp only [List.take_succ_cons, List.take_zero, List.drop_succ_cons, List.drop_zero]
    iterate 3 still_step
    still_call (id_still n HN.out _)
    repeat still_step
    refine wpStill_nil ?_
    have bz : Below (w_5.alloc (valObj (rawVal rp) (.slice la5 ln5 lc5))).heap.size (w_5.alloc (valObj (rawVal rp) (.slice la5 ln5 lc5))) ((w_5.alloc (valObj (rawVal rp) (.slice la5 ln5 lc5))).drew) := (Below.refl _ _).drew
    replace O := Lib.hid (O.out.below bz)
    replace RP : Hid (((w_5.alloc (valObj (rawVal rp) (.slice la5 ln5 lc5))).drew).heap[w.heap.size]? = some (rawObj rp (.slice pa_ pn pc))) := (bz.block _ (lt_of_block RP.out)).trans RP.out
    replace RV : Hid (((w_5.alloc (valObj (rawVal rp) (.slice la5 ln5 lc5))).drew).heap[w.heap.size + 1]? = some (rawObj rv (.slice va vn vc'))) := (bz.block _ (lt_of_block RV.out)).trans RV.out
    replace RW : Hid (((w_5.alloc (valObj (rawVal rp) (.slice la5 ln5 lc5))).drew).heap[w.heap.size + 1 + 1]? = some (rawObj rw_ (.slice wa wn wc))) := (bz.block _ (lt_of_block RW.out)).trans RW.out
    replace AB : Hid (((w_5.alloc (valObj (rawVal rp) (.slice la5 ln5 lc5))).drew).heap[w_1.heap.size]? = some (valObj (rawVal rv) (.slice la1 ln1 lc1))) := (bz.block _ (lt_of_block AB.out)).trans AB.out
    replace AL := Lib.hid (AL.out.below bz)
    replace BB : Hid (((w_5.alloc (valObj (rawVal rp) (.slice la5 ln5 lc5))).drew).heap[w_2.heap.size]? = some (valObj (rawVal rw_) (.slice la2 ln2 lc2))) := (bz.block _ (lt_of_block BB.out)).trans BB.out
    replace BL := Lib.hid (BL.out.below bz)
    replace I := Lib.hid (I.out.below bz)
    replace CB : Hid (((w_5.alloc (valObj (rawVal rp) (.slice la5 ln5 lc5))).drew).heap[w_5.heap.size]? = some (valObj (rawVal rp) (.slice la5 ln5 lc5))) := (bz.block _ (lt_of_block CB.out)).trans CB.out
    replace CL := Lib.hid (CL.out.below bz)
    clear bz
    clear p0 p1 p2 p3 v0 v1 v2 v3 u0 u1 u2 u3 a0 a1 a2 a3 b0 b1 b2 b3 c0 c1 c2 c3
    obtain ⟨p0, p1, p2, p3⟩ := raw_cells RP.out
    obtain ⟨v0, v1, v2, v3⟩ := raw_cells RV.out
    obtain ⟨u0, u1, u2, u3⟩ := raw_cells RW.out
    obtain ⟨a0, a1, a2, a3⟩ := val_cells AB.out
    obtain ⟨b0, b1, b2, b3⟩ := val_cells BB.out
    obtain ⟨c0, c1, c2, c3⟩ := val_cells CB.out
    go_wp2_with fail
    have hh := putX_any (rawVal rp) _ (1 + pickZ n 9) _ (HT1.out.below O.out.b) SP.out (show IsVx _ (.agg #[.int .i64 (rawVal rp).k, .int .i64 (rawVal rp).n, .string (rawVal rp).s, _]) (rawVal rp) from ⟨_, rfl, CL.out⟩) O.out.x (by omega)
    rw [E1.out, E2.out] at hh
    refine hh.mono ?_
    clear hh
    intro e w_6 hG
    obtain ⟨rfl, x, f⟩ := hG
    replace O := Lib.hid (O.out.did x f)
    replace AB : Hid ((w_6).heap[w_1.heap.size]? = some (valObj (rawVal rv) (.slice la1 ln1 lc1))) := (f.vals _ _ _ AB.out).trans AB.out
    replace AL := Lib.hid (AL.out.fx f)
    replace BB : Hid ((w_6).heap[w_2.heap.size]? = some (valObj (rawVal rw_) (.slice la2 ln2 lc2))) := (f.vals _ _ _ BB.out).trans BB.out
    replace BL := Lib.hid (BL.out.fx f)
    replace I := Lib.hid (I.out.fx f)
    replace CB : Hid ((w_6).heap[w_5.heap.size]? = some (valObj (rawVal rp) (.slice la5 ln5 lc5))) := (f.vals _ _ _ CB.out).trans CB.out
    replace CL := Lib.hid (CL.out.fx f)
    clear p0 p1 p2 p3 v0 v1 v2 v3 u0 u1 u2 u3 a0 a1 a2 a3 b0 b1 b2 b3 c0 c1 c2 c3
    clear x f
    obtain ⟨a0, a1, a2, a3⟩ := val_cells AB.out
    obtain ⟨b0, b1, b2, b3⟩ := val_cells BB.out
    obtain ⟨c0, c1, c2, c3⟩ := val_cells CB.out
    go_wp2_with fail
    refine (len_any _ O.out.x).mono ?_
    rintro e w_7 ⟨rfl, rfl⟩
    rw [hl1]
    go_wp2_with fail
    refine wp_still_tail 4 (by kernel_rfl) (by kernel_rfl) ?_
    simp only [List.take_succ_cons, List.take_zero, List.drop_succ_cons, List.drop_zero]
    iterate 3 still_step
    still_call (id_still n HN.out _)
    repeat still_step
    refine wpStill_nil ?_
    have bz : Below (w_6).heap.size (w_6) ((w_6).drew) := (Below.refl _ _).drew
    replace O := Lib.hid (O.out.below bz)
    replace AB : Hid (((w_6).drew).heap[w_1.heap.size]? = some (valObj (rawVal rv) (.slice la1 ln1 lc1))) := (bz.block _ (lt_of_block AB.out)).trans AB.out
    replace AL := Lib.hid (AL.out.below bz)
    replace BB : Hid (((w_6).drew).heap[w_2.heap.size]? = some (valObj (rawVal rw_) (.slice la2 ln2 lc2))) := (bz.block _ (lt_of_block BB.out)).trans BB.out
    replace BL := Lib.hid (BL.out.below bz)
    replace I := Lib.hid (I.out.below bz)
    replace CB : Hid (((w_6).drew).heap[w_5.heap.size]? = some (valObj (rawVal rp) (.slice la5 ln5 lc5))) := (bz.block _ (lt_of_block CB.out)).trans CB.out
    replace CL := Lib.hid (CL.out.below bz)
    clear bz
    clear a0 a1 a2 a3 b0 b1 b2 b3 c0 c1 c2 c3
    obtain ⟨a0, a1, a2, a3⟩ := val_cells AB.out
    obtain ⟨b0, b1, b2, b3⟩ := val_cells BB.out
    obtain ⟨c0, c1, c2, c3⟩ := val_cells CB.out
    go_wp2_with fail
    have hh := dropX_any (rawVal rp) _ (1 + pickZ n 9) _ (HT1.out.below O.out.b) SP.out (show IsVx _ (.agg #[.int .i64 (rawVal rp).k, .int .i64 (rawVal rp).n, .string (rawVal rp).s, _]) (rawVal rp) from ⟨_, rfl, CL.out⟩) O.out.x (by omega)
    rw [E3.out, E4.out] at hh
    refine hh.mono ?_
    clear hh
    intro e w_8 hG
    obtain ⟨rfl, x, f⟩ := hG
    replace O := Lib.hid (O.out.did x f)
    replace AB : Hid ((w_8).heap[w_1.heap.size]? = some (valObj (rawVal rv) (.slice la1 ln1 lc1))) := (f.vals _ _ _ AB.out).trans AB.out
    replace AL := Lib.hid (AL.out.fx f)
    replace BB : Hid ((w_8).heap[w_2.heap.size]? = some (valObj (rawVal rw_) (.slice la2 ln2 lc2))) := (f.vals _ _ _ BB.out).trans BB.out
    replace BL := Lib.hid (BL.out.fx f)
    replace I := Lib.hid (I.out.fx f)
    replace CB : Hid ((w_8).heap[w_5.heap.size]? = some (valObj (rawVal rp) (.slice la5 ln5 lc5))) := (f.vals _ _ _ CB.out).trans CB.out
    replace CL := Lib.hid (CL.out.fx f)
    clear a0 a1 a2 a3 b0 b1 b2 b3 c0 c1 c2 c3
    clear x f
    obtain ⟨a0, a1, a2, a3⟩ := val_cells AB.out
    obtain ⟨b0, b1, b2, b3⟩ := val_cells BB.out
    obtain ⟨c0, c1, c2, c3⟩ := val_cells CB.out
    go_wp2_with fail
    refine (len_any _ O.out.x).mono ?_
    rintro e w_9 ⟨rfl, rfl⟩
    go_wp2_with fail
    refine (range_any (rawVal rv) (rawVal rw_) _ _ _ (HT1.out.below O.out.b) SV.out SW.out ⟨_, rfl, AL.out⟩ ⟨_, rfl, BL.out⟩ O.out.x (by omega)).mono ?_
    intro e w_10 hG
    obtain ⟨vv, rfl, ii, bv⟩ := hG
    obtain ⟨ia10, ic10, rfl⟩ := ii.len
    replace O := Lib.hid (O.out.below bv)
    replace AB : Hid ((w_10).heap[w_1.heap.size]? = some (valObj (rawVal rv) (.slice la1 ln1 lc1))) := (bv.block _ (lt_of_block AB.out)).trans AB.out
    replace AL := Lib.hid (AL.out.below bv)
    replace BB : Hid ((w_10).heap[w_2.heap.size]? = some (valObj (rawVal rw_) (.slice la2 ln2 lc2))) := (bv.block _ (lt_of_block BB.out)).trans BB.out
    replace BL := Lib.hid (BL.out.below bv)
    replace I := Lib.hid (I.out.below bv)
    replace CB : Hid ((w_10).heap[w_5.heap.size]? = some (valObj (rawVal rp) (.slice la5 ln5 lc5))) := (bv.block _ (lt_of_block CB.out)).trans CB.out
    replace CL := Lib.hid (CL.out.below bv)
    have J := Lib.hid ii
    clear a0 a1 a2 a3 b0 b1 b2 b3 c0 c1 c2 c3
    clear bv ii
    obtain ⟨a0, a1, a2, a3⟩ := val_cells AB.out
    obtain ⟨b0, b1, b2, b3⟩ := val_cells BB.out
    obtain ⟨c0, c1, c2, c3⟩ := val_cells CB.out
    go_wp2_with fail
    refine (same_true J.out I.out).mono ?_
    rintro e w_11 ⟨rfl, bv⟩
    have BF := Lib.hid (BW.out (O.out.b.trans (bv.mono O.out.b.size)))
    clear bv
    go_wp2_with fail
    go_ret
    exact ⟨by simp, BF.out⟩
  · have E1 := Lib.hid (show putE (rawVal rp) (1 + pickZ n 9) L = 150 by rw [putE_raw, hhas]; rfl)
    have E2 := Lib.hid (show putL (rawVal rp) (1 + pickZ n 9) L = L by rw [putL_raw]; unfold addP; rw [hhas]; rfl)
    have E3 := Lib.hid (show dropE (rawVal rp) (1 + pickZ n 9) L = true by rw [dropE_raw, hhas])
    have E4 := Lib.hid (show dropL (rawVal rp) (1 + pickZ n 9) L = del (rawVal rp, 1 + pickZ n 9) L by unfold dropL; rw [E3.out]; rfl)
    have E5 := Lib.hid (show putE (rawVal rp) (1 + pickZ n 9) (del (rawVal rp, 1 + pickZ n 9) L) = 0 by rw [putE_raw, has_del]; rfl)
    have E6 := Lib.hid (show putL (rawVal rp) (1 + pickZ n 9) (del (rawVal rp, 1 + pickZ n 9) L) = L by rw [putL_raw]; unfold addP; rw [has_del]; exact ins_del HS.out (has_iff.1 hhas))
    have hl1 := del_length HS.out (has_iff.1 hhas)
    clear hhas
    refine wp_still_tail 4 (by kernel_rfl) (by kernel_rfl) ?_
    simp only [List.take_succ_cons, List.take_zero, List.drop_succ_cons, List.drop_zero]
    iterate 3 still_step
    still_call (id_still n HN.out _)
    repeat still_step
    refine wpStill_nil ?_
    have bz : Below (w_5.alloc (valObj (rawVal rp) (.slice la5 ln5 lc5))).heap.size (w_5.alloc (valObj (rawVal rp) (.slice la5 ln5 lc5))) ((w_5.alloc (valObj (rawVal rp) (.slice la5 ln5 lc5))).drew) := (Below.refl _ _).drew
    replace O := Lib.hid (O.out.below bz)
    replace RP : Hid (((w_5.alloc (valObj (rawVal rp) (.slice la5 ln5 lc5))).drew).heap[w.heap.size]? = some (rawObj rp (.slice pa_ pn pc))) := (bz.block _ (lt_of_block RP.out)).trans RP.out
    replace RV : Hid (((w_5.alloc (valObj (rawVal rp) (.slice la5 ln5 lc5))).drew).heap[w.heap.size + 1]? = some (rawObj rv (.slice va vn vc'))) := (bz.block _ (lt_of_block RV.out)).trans RV.out
    replace RW : Hid (((w_5.alloc (valObj (rawVal rp) (.slice la5 ln5 lc5))).drew).heap[w.heap.size + 1 + 1]? = some (rawObj rw_ (.slice wa wn wc))) := (bz.block _ (lt_of_block RW.out)).trans RW.out
    replace AB : Hid (((w_5.alloc (valObj (rawVal rp) (.slice la5 ln5 lc5))).drew).heap[w_1.heap.size]? = some (valObj (rawVal rv) (.slice la1 ln1 lc1))) := (bz.block _ (lt_of_block AB.out)).trans AB.out
    replace AL := Lib.hid (AL.out.below bz)
    replace BB : Hid (((w_5.alloc (valObj (rawVal rp) (.slice la5 ln5 lc5))).drew).heap[w_2.heap.size]? = some (valObj (rawVal rw_) (.slice la2 ln2 lc2))) := (bz.block _ (lt_of_block BB.out)).trans BB.out
    replace BL := Lib.hid (BL.out.below bz)
    replace I := Lib.hid (I.out.below bz)
    replace CB : Hid (((w_5.alloc (valObj (rawVal rp) (.slice la5 ln5 lc5))).drew).heap[w_5.heap.size]? = some (valObj (rawVal rp) (.slice la5 ln5 lc5))) := (bz.block _ (lt_of_block CB.out)).trans CB.out
    replace CL := Lib.hid (CL.out.below bz)
    clear bz
    clear p0 p1 p2 p3 v0 v1 v2 v3 u0 u1 u2 u3 a0 a1 a2 a3 b0 b1 b2 b3 c0 c1 c2 c3
    obtain ⟨p0, p1, p2, p3⟩ := raw_cells RP.out
    obtain ⟨v0, v1, v2, v3⟩ := raw_cells RV.out
    obtain ⟨u0, u1, u2, u3⟩ := raw_cells RW.out
    obtain ⟨a0, a1, a2, a3⟩ := val_cells AB.out
    obtain ⟨b0, b1, b2, b3⟩ := val_cells BB.out
    obtain ⟨c0, c1, c2, c3⟩ := val_cells CB.out
    go_wp2_with fail
    have hh := putX_any (rawVal rp) _ (1 + pickZ n 9) _ (HT1.out.below O.out.b) SP.out (show IsVx _ (.agg #[.int .i64 (rawVal rp).k, .int .i64 (rawVal rp).n, .string (rawVal rp).s, _]) (rawVal rp) from ⟨_, rfl, CL.out⟩) O.out.x (by omega)
    rw [E1.out, E2.out] at hh
    refine hh.mono ?_
    clear hh
    intro e w_6 hG
    obtain ⟨rfl, x, f⟩ := hG
    replace O := Lib.hid (O.out.did x f)
    replace AB : Hid ((w_6).heap[w_1.heap.size]? = some (valObj (rawVal rv) (.slice la1 ln1 lc1))) := (f.vals _ _ _ AB.out).trans AB.out
    replace AL := Lib.hid (AL.out.fx f)
    replace BB : Hid ((w_6).heap[w_2.heap.size]? = some (valObj (rawVal rw_) (.slice la2 ln2 lc2))) := (f.vals _ _ _ BB.out).trans BB.out
    replace BL := Lib.hid (BL.out.fx f)
    replace I := Lib.hid (I.out.fx f)
    replace CB : Hid ((w_6).heap[w_5.heap.size]? = some (valObj (rawVal rp) (.slice la5 ln5 lc5))) := (f.vals _ _ _ CB.out).trans CB.out
    replace CL := Lib.hid (CL.out.fx f)
    clear p0 p1 p2 p3 v0 v1 v2 v3 u0 u1 u2 u3 a0 a1 a2 a3 b0 b1 b2 b3 c0 c1 c2 c3
    clear x f
    obtain ⟨a0, a1, a2, a3⟩ := val_cells AB.out
    obtain ⟨b0, b1, b2, b3⟩ := val_cells BB.out
    obtain ⟨c0, c1, c2, c3⟩ := val_cells CB.out
    go_wp2_with fail
    refine wp_still_tail 4 (by kernel_rfl) (by kernel_rfl) ?_
    simp only [List.take_succ_cons, List.take_zero, List.drop_succ_cons, List.drop_zero]
    iterate 3 still_step
    still_call (id_still n HN.out _)
    repeat still_step
    refine wpStill_nil ?_
    have bz : Below (w_6).heap.size (w_6) ((w_6).drew) := (Below.refl _ _).drew
    replace O := Lib.hid (O.out.below bz)
    replace AB : Hid (((w_6).drew).heap[w_1.heap.size]? = some (valObj (rawVal rv) (.slice la1 ln1 lc1))) := (bz.block _ (lt_of_block AB.out)).trans AB.out
    replace AL := Lib.hid (AL.out.below bz)
    replace BB : Hid (((w_6).drew).heap[w_2.heap.size]? = some (valObj (rawVal rw_) (.slice la2 ln2 lc2))) := (bz.block _ (lt_of_block BB.out)).trans BB.out
    replace BL := Lib.hid (BL.out.below bz)
    replace I := Lib.hid (I.out.below bz)
    replace CB : Hid (((w_6).drew).heap[w_5.heap.size]? = some (valObj (rawVal rp) (.slice la5 ln5 lc5))) := (bz.block _ (lt_of_block CB.out)).trans CB.out
    replace CL := Lib.hid (CL.out.below bz)
    clear bz
    clear a0 a1 a2 a3 b0 b1 b2 b3 c0 c1 c2 c3
    obtain ⟨a0, a1, a2, a3⟩ := val_cells AB.out
    obtain ⟨b0, b1, b2, b3⟩ := val_cells BB.out
    obtain ⟨c0, c1, c2, c3⟩ := val_cells CB.out
    go_wp2_with fail
    have hh := dropX_any (rawVal rp) _ (1 + pickZ n 9) _ (HT1.out.below O.out.b) SP.out (show IsVx _ (.agg #[.int .i64 (rawVal rp).k, .int .i64 (rawVal rp).n, .string (rawVal rp).s, _]) (rawVal rp) from ⟨_, rfl, CL.out⟩) O.out.x (by omega)
    rw [E3.out, E4.out] at hh
    refine hh.mono ?_
    clear hh
    intro e w_7 hG
    obtain ⟨rfl, x, f⟩ := hG
    replace O := Lib.hid (O.out.did x f)
    replace AB : Hid ((w_7).heap[w_1.heap.size]? = some (valObj (rawVal rv) (.slice la1 ln1 lc1))) := (f.vals _ _ _ AB.out).trans AB.out
    replace AL := Lib.hid (AL.out.fx f)
    replace BB : Hid ((w_7).heap[w_2.heap.size]? = some (valObj (rawVal rw_) (.slice la2 ln2 lc2))) := (f.vals _ _ _ BB.out).trans BB.out
    replace BL := Lib.hid (BL.out.fx f)
    replace I := Lib.hid (I.out.fx f)
    replace CB : Hid ((w_7).heap[w_5.heap.size]? = some (valObj (rawVal rp) (.slice la5 ln5 lc5))) := (f.vals _ _ _ CB.out).trans CB.out
    replace CL := Lib.hid (CL.out.fx f)
    clear a0 a1 a2 a3 b0 b1 b2 b3 c0 c1 c2 c3
    clear x f
    obtain ⟨a0, a1, a2, a3⟩ := val_cells AB.out
    obtain ⟨b0, b1, b2, b3⟩ := val_cells BB.out
    obtain ⟨c0, c1, c2, c3⟩ := val_cells CB.out
    go_wp2_with fail
    refine (len_any _ O.out.x).mono ?_
    rintro e w_8 ⟨rfl, rfl⟩
    generalize hdl : (del (rawVal rp, 1 + pickZ n 9) L).length = dl at *
    have hde : (dl : Int) = (L.length : Int) - 1 := by omega
    rw [hde]
    go_wp2_with fail
    refine wp_still_tail 4 (by kernel_rfl) (by kernel_rfl) ?_
    simp only [List.take_succ_cons, List.take_zero, List.drop_succ_cons, List.drop_zero]
    iterate 3 still_step
    still_call (id_still n HN.out _)
    repeat still_step
    refine wpStill_nil ?_
    have bz : Below (w_7).heap.size (w_7) ((w_7).drew) := (Below.refl _ _).drew
    replace O := Lib.hid (O.out.below bz)
    replace AB : Hid (((w_7).drew).heap[w_1.heap.size]? = some (valObj (rawVal rv) (.slice la1 ln1 lc1))) := (bz.block _ (lt_of_block AB.out)).trans AB.out
    replace AL := Lib.hid (AL.out.below bz)
    replace BB : Hid (((w_7).drew).heap[w_2.heap.size]? = some (valObj (rawVal rw_) (.slice la2 ln2 lc2))) := (bz.block _ (lt_of_block BB.out)).trans BB.out
    replace BL := Lib.hid (BL.out.below bz)
    replace I := Lib.hid (I.out.below bz)
    replace CB : Hid (((w_7).drew).heap[w_5.heap.size]? = some (valObj (rawVal rp) (.slice la5 ln5 lc5))) := (bz.block _ (lt_of_block CB.out)).trans CB.out
    replace CL := Lib.hid (CL.out.below bz)
    clear bz
    clear a0 a1 a2 a3 b0 b1 b2 b3 c0 c1 c2 c3
    obtain ⟨a0, a1, a2, a3⟩ := val_cells AB.out
    obtain ⟨b0, b1, b2, b3⟩ := val_cells BB.out
    obtain ⟨c0, c1, c2, c3⟩ := val_cells CB.out
    go_wp2_with fail
    have hh := putX_any (rawVal rp) _ (1 + pickZ n 9) _ (HT1.out.below O.out.b) SP.out (show IsVx _ (.agg #[.int .i64 (rawVal rp).k, .int .i64 (rawVal rp).n, .string (rawVal rp).s, _]) (rawVal rp) from ⟨_, rfl, CL.out⟩) O.out.x (by rw [hdl]; omega)
    rw [E5.out, E6.out] at hh
    refine hh.mono ?_
    clear hh
    intro e w_9 hG
    obtain ⟨rfl, x, f⟩ := hG
    replace O := Lib.hid (O.out.did x f)
    replace AB : Hid ((w_9).heap[w_1.heap.size]? = some (valObj (rawVal rv) (.slice la1 ln1 lc1))) := (f.vals _ _ _ AB.out).trans AB.out
    replace AL := Lib.hid (AL.out.fx f)
    replace BB : Hid ((w_9).heap[w_2.heap.size]? = some (valObj (rawVal rw_) (.slice la2 ln2 lc2))) := (f.vals _ _ _ BB.out).trans BB.out
    replace BL := Lib.hid (BL.out.fx f)
    replace I := Lib.hid (I.out.fx f)
    replace CB : Hid ((w_9).heap[w_5.heap.size]? = some (valObj (rawVal rp) (.slice la5 ln5 lc5))) := (f.vals _ _ _ CB.out).trans CB.out
    replace CL := Lib.hid (CL.out.fx f)
    clear a0 a1 a2 a3 b0 b1 b2 b3 c0 c1 c2 c3
    clear x f
    obtain ⟨a0, a1, a2, a3⟩ := val_cells AB.out
    obtain ⟨b0, b1, b2, b3⟩ := val_cells BB.out
    obtain ⟨c0, c1, c2, c3⟩ := val_cells CB.out
    go_wp2_with fail
    refine (len_any _ O.out.x).mono ?_
    rintro e w_10 ⟨rfl, rfl⟩
    go_wp2_with fail
    refine (range_any (rawVal rv) (rawVal rw_) _ _ _ (HT1.out.below O.out.b) SV.out SW.out ⟨_, rfl, AL.out⟩ ⟨_, rfl, BL.out⟩ O.out.x (by omega)).mono ?_
    intro e w_11 hG
    obtain ⟨vv, rfl, ii, bv⟩ := hG
    obtain ⟨ia11, ic11, rfl⟩ := ii.len
    replace O := Lib.hid (O.out.below bv)
    replace AB : Hid ((w_11).heap[w_1.heap.size]? = some (valObj (rawVal rv) (.slice la1 ln1 lc1))) := (bv.block _ (lt_of_block AB.out)).trans AB.out
    replace AL := Lib.hid (AL.out.below bv)
    replace BB : Hid ((w_11).heap[w_2.heap.size]? = some (valObj (rawVal rw_) (.slice la2 ln2 lc2))) := (bv.block _ (lt_of_block BB.out)).trans BB.out
    replace BL := Lib.hid (BL.out.below bv)
    replace I := Lib.hid (I.out.below bv)
    replace CB : Hid ((w_11).heap[w_5.heap.size]? = some (valObj (rawVal rp) (.slice la5 ln5 lc5))) := (bv.block _ (lt_of_block CB.out)).trans CB.out
    replace CL := Lib.hid (CL.out.below bv)
    have J := Lib.hid ii
    clear a0 a1 a2 a3 b0 b1 b2 b3 c0 c1 c2 c3
    clear bv ii
    obtain ⟨a0, a1, a2, a3⟩ := val_cells AB.out
    obtain ⟨b0, b1, b2, b3⟩ := val_cells BB.out
    obtain ⟨c0, c1, c2, c3⟩ := val_cells CB.out
    go_wp2_with fail
    refine (same_true J.out I.out).mono ?_
    rintro e w_12 ⟨rfl, bv⟩
    have BF := Lib.hid (BW.out (O.out.b.trans (bv.mono O.out.b.size)))
    clear bv
    go_wp2_with fail
    go_ret
    exact ⟨by simp, BF.out⟩
end Go.Proofs.YtifaaacbbjlffaaDoor
