/- The walk of IndexNone: it tells true. -/
import Derived.Test.YtifaaacbbjlffaaDoorLawMore
import Derived.Test.YtifaaacbbjlffaaDoorRefRight
namespace Mor
theorem right_bad (k : Int) (h : 6 ≤ k) : rightV ⟨k, 0, ⟨#[]⟩, []⟩ = false := by
  rw [rightV_else _ (show k ≠ 5 by omega)]
  show rightK (rightT ⟨#[]⟩) k 0 ⟨#[]⟩ 0 = false
  unfold rightK
  rw [if_neg (by omega), if_neg (by omega), if_neg (by omega), if_neg (by omega), if_neg (by omega)]
theorem put_badV (k : Int) (h : 6 ≤ k) (i : Int) (L : List Pr) : putE ⟨k, 0, ⟨#[]⟩, []⟩ i L = 2 ∧ putL ⟨k, 0, ⟨#[]⟩, []⟩ i L = L := by
  unfold putE putL okB; rw [right_bad k h]; exact ⟨rfl, rfl⟩
theorem put_badI (V : Vl) (i : Int) (h : i < 1 ∨ 100000 < i) (L : List Pr) : putE V i L = 2 ∧ putL V i L = L := by
  have : okB V i = false := by unfold okB idOk; rw [decide_eq_false (by omega), Bool.and_false]
  unfold putE putL; rw [this]; exact ⟨rfl, rfl⟩
theorem drop_badV (k : Int) (h : 6 ≤ k) (i : Int) (L : List Pr) : dropE ⟨k, 0, ⟨#[]⟩, []⟩ i L = false ∧ dropL ⟨k, 0, ⟨#[]⟩, []⟩ i L = L := by
  have : dropE ⟨k, 0, ⟨#[]⟩, []⟩ i L = false := by unfold dropE okB; rw [right_bad k h]; rfl
  refine ⟨this, ?_⟩
  unfold dropL; rw [this]; rfl
theorem drop_badI (V : Vl) (i : Int) (h : i < 1 ∨ 100000 < i) (L : List Pr) : dropE V i L = false ∧ dropL V i L = L := by
  have h1 : okB V i = false := by unfold okB idOk; rw [decide_eq_false (by omega), Bool.and_false]
  have : dropE V i L = false := by unfold dropE; rw [h1]; rfl
  refine ⟨this, ?_⟩
  unfold dropL; rw [this]; rfl
theorem range_badL (k : Int) (h : 6 ≤ k) (V : Vl) (L : List Pr) : rangeL ⟨k, 0, ⟨#[]⟩, []⟩ V L = [] := by unfold rangeL; rw [right_bad k h]; rfl
theorem range_badR (k : Int) (h : 6 ≤ k) (V : Vl) (L : List Pr) : rangeL V ⟨k, 0, ⟨#[]⟩, []⟩ L = [] := by
  unfold rangeL; rw [right_bad k h]; split <;> rfl
theorem sz_raw (r : RawD) : (rawVal r).s.size ≤ 4611686018427387904 ∧ ∀ p ∈ (rawVal r).l, p.s.size ≤ 4611686018427387904 := by
  have hl : ∀ p ∈ listOf r.l, p.s.size ≤ 4611686018427387904 := fun p hp => by
    unfold listOf at hp
    obtain ⟨z, _, rfl⟩ := List.mem_map.1 hp
    show (ByteArray.mk #[]).size ≤ _
    decide
  have h0 : (ByteArray.mk #[]).size ≤ 4611686018427387904 := by decide
  have ht := txtZ_size (pickZ r.n 5)
  unfold rawVal
  repeat' split
  all_goals first
    | exact ⟨h0, hl⟩
    | exact ⟨h0, fun p hp => by simp at hp⟩
    | exact ⟨Nat.le_trans ht (by decide), fun p hp => by simp at hp⟩
end Mor
namespace Go.Proofs.YtifaaacbbjlffaaDoor
open Go.RowKit Mor

theorem pick_still (c n : Int) (hc : I64 c) (h1 : 0 < n) (h2 : n ≤ 1000000) (w : World) : Calls Tryd.prog 24 #[.int .i64 c, .int .i64 n] w fun e w' => e = .returned (.int .i64 (pickZ c n)) ∧ w' = w :=
  (pick_any c n hc h1 h2 w).mono fun _ _ ⟨h1, h2⟩ => ⟨h1, h2.symm⟩

set_option maxHeartbeats 8000000 in
theorem none_law (cs : List CallD) (rv : RawD) (n : Int) (vc sv : Value) (w : World) (hT : Tabs w) (hc : IsC w vc cs) (hv : RawOk w rv sv) (hn : I64 n) :
    Calls Tryd.prog 7 #[vc, rawV rv sv, .int .i64 n] w fun e w' => e = .returned (.bool true) ∧ Below w.heap.size w w' := by
  obtain ⟨va, vn, vc', rfl⟩ := hv.slice
  obtain ⟨ca, cp, rfl, _⟩ : ∃ a c, vc = .slice a cs.length c ∧ True := by obtain ⟨a, c, h, _⟩ := hc; exact ⟨a, c, h, trivial⟩
  have HT := Lib.hid hT
  have HC := Lib.hid hc
  have HV := Lib.hid hv
  have HN := Lib.hid hn
  have SV := Lib.hid (szV_raw hv)
  clear hT hc hv hn
  have hp1 := pickZ_bd n 100 (by decide)
  have hp2 := pickZ_bd n 1000 (by decide)
  have P1 := Lib.hid (fun W => pick_still n 100 HN.out (by decide) (by decide) W)
  have P2 := Lib.hid (fun W => pick_still n 1000 HN.out (by decide) (by decide) W)
  generalize pickZ n 100 = z1 at *
  generalize pickZ n 1000 = z2 at *
  obtain ⟨z1a, z1b⟩ := hp1
  obtain ⟨z2a, z2b⟩ := hp2
  have hk6 : 6 ≤ 6 + z1 := by omega
  have B0 : Hid (Below w.heap.size w (w.alloc (rawObj rv (.slice va vn vc')))) := (Below.refl _ w).alloc (Nat.le_refl _) _
  unfold rawV
  go_enter Tryd.func7, Tryd.ntmps7
  go_wp2_with fail
  refine (awake_any _ (HT.out.below B0.out)).mono ?_
  rintro e w1 ⟨rfl, b1⟩
  have zz : w.heap.size + 1 ≤ w1.heap.size := by have := b1.size; simpa using this
  have RV : Hid (w1.heap[w.heap.size]? = some (rawObj rv (.slice va vn vc'))) := (b1.block _ (by simp)).trans (new_block w _ _ rfl)
  have B1 : Hid (Below w.heap.size w w1) := B0.out.trans (b1.mono (by simp))
  have BW : Hid (∀ {W : World}, Below w1.heap.size w1 W → Below w.heap.size w W) := fun h => B1.out.trans (h.mono (by omega))
  have HT1 := Lib.hid (HT.out.below B1.out)
  clear b1
  go_wp2_with fail
  refine (made_any cs false _ w1 HT1.out (HC.out.below B1.out)).mono ?_
  rintro e w2 ⟨xb, rfl, o2⟩
  have O := Lib.hid o2
  replace RV : Hid (w2.heap[w.heap.size]? = some (rawObj rv (.slice va vn vc'))) := (o2.b.block _ (by omega)).trans RV.out
  clear o2
  have hml : (madeL (pairsOf cs false)).length ≤ 40 := made_forty cs
  generalize madeL (pairsOf cs false) = L at *
  obtain ⟨v0, v1, v2, v3⟩ := raw_cells RV.out
  go_wp2_with fail
  refine (len_any _ O.out.x).mono ?_
  rintro e w_1 ⟨rfl, rfl⟩
  go_wp2_with fail
  refine (val_any rv _ _ (HV.out.below (BW.out O.out.b))).mono ?_
  intro e w_2 hG
  obtain ⟨vv, rfl, iv, bv⟩ := hG
  obtain ⟨sl2, rfl, il⟩ := iv
  obtain ⟨la2, ln2, lc2, rfl⟩ := il.1.slice
  have bz : Below (w2).heap.size (w2) (w_2.alloc (valObj (rawVal rv) (.slice la2 ln2 lc2))) := bv.alloc bv.size _
  replace O := Lib.hid (O.out.below bz)
  replace RV : Hid ((w_2.alloc (valObj (rawVal rv) (.slice la2 ln2 lc2))).heap[w.heap.size]? = some (rawObj rv (.slice va vn vc'))) := (bz.block _ (lt_of_block RV.out)).trans RV.out
  have CB : Hid ((w_2.alloc (valObj (rawVal rv) (.slice la2 ln2 lc2))).heap[w_2.heap.size]? = some (valObj (rawVal rv) (.slice la2 ln2 lc2))) := new_block w_2 _ _ rfl
  have CL : Hid (IsLt (w_2.alloc (valObj (rawVal rv) (.slice la2 ln2 lc2))) (.slice la2 ln2 lc2) (rawVal rv).l) := il.below ((Below.refl _ w_2).alloc (Nat.le_refl _) _)
  clear v0 v1 v2 v3
  clear bz bv il
  obtain ⟨v0, v1, v2, v3⟩ := raw_cells RV.out
  obtain ⟨c0, c1, c2, c3⟩ := val_cells CB.out
  unfold valObj at v0 v1 v2 v3 c0 c1 c2 c3
  go_wp2_with fail
  refine (P1.out _).mono ?_
  rintro e w_3 ⟨rfl, rfl⟩
  have bz : Below (w_2.alloc (valObj (rawVal rv) (.slice la2 ln2 lc2))).heap.size (w_2.alloc (valObj (rawVal rv) (.slice la2 ln2 lc2))) ((w_2.alloc (valObj (rawVal rv) (.slice la2 ln2 lc2))).alloc (valObj ⟨6 + z1, 0, ⟨#[]⟩, []⟩ (.slice none 0 0))) := (Below.refl _ _).alloc (Nat.le_refl _) _
  replace O := Lib.hid (O.out.below bz)
  replace RV : Hid (((w_2.alloc (valObj (rawVal rv) (.slice la2 ln2 lc2))).alloc (valObj ⟨6 + z1, 0, ⟨#[]⟩, []⟩ (.slice none 0 0))).heap[w.heap.size]? = some (rawObj rv (.slice va vn vc'))) := (bz.block _ (lt_of_block RV.out)).trans RV.out
  replace CB : Hid (((w_2.alloc (valObj (rawVal rv) (.slice la2 ln2 lc2))).alloc (valObj ⟨6 + z1, 0, ⟨#[]⟩, []⟩ (.slice none 0 0))).heap[w_2.heap.size]? = some (valObj (rawVal rv) (.slice la2 ln2 lc2))) := (bz.block _ (lt_of_block CB.out)).trans CB.out
  replace CL := Lib.hid (CL.out.below bz)
  have DB : Hid (((w_2.alloc (valObj (rawVal rv) (.slice la2 ln2 lc2))).alloc (valObj ⟨6 + z1, 0, ⟨#[]⟩, []⟩ (.slice none 0 0))).heap[w_2.heap.size + 1]? = some (valObj ⟨6 + z1, 0, ⟨#[]⟩, []⟩ (.slice none 0 0))) := new_block _ _ _ (by simp)
  clear v0 v1 v2 v3 c0 c1 c2 c3
  clear bz
  obtain ⟨v0, v1, v2, v3⟩ := raw_cells RV.out
  obtain ⟨c0, c1, c2, c3⟩ := val_cells CB.out
  obtain ⟨d0, d1, d2, d3⟩ := val_cells DB.out
  unfold valObj at v0 v1 v2 v3 c0 c1 c2 c3 d0 d1 d2 d3
  simp only at d0 d1 d2
  go_wp2_with fail
  have hh := putX_any ⟨6 + z1, 0, ⟨#[]⟩, []⟩ _ (1) _ (HT1.out.below O.out.b) (szV_bare _ _) (show IsVx _ (.agg #[.int .i64 (6 + z1), .int .i64 0, .string ⟨#[]⟩, .slice none 0 0]) ⟨6 + z1, 0, ⟨#[]⟩, []⟩ from isVx_bare _ _ _ _) O.out.x (by omega)
  rw [(put_badV (6 + z1) hk6 1 L).1, (put_badV (6 + z1) hk6 1 L).2] at hh
  refine hh.mono ?_
  clear hh
  intro e w_4 hG
  obtain ⟨rfl, x, f⟩ := hG
  replace O := Lib.hid (O.out.did x f)
  replace CB : Hid ((w_4).heap[w_2.heap.size]? = some (valObj (rawVal rv) (.slice la2 ln2 lc2))) := (f.vals _ _ _ CB.out).trans CB.out
  replace CL := Lib.hid (CL.out.fx f)
  replace DB : Hid ((w_4).heap[w_2.heap.size + 1]? = some (valObj ⟨6 + z1, 0, ⟨#[]⟩, []⟩ (.slice none 0 0))) := (f.vals _ _ _ DB.out).trans DB.out
  clear v0 v1 v2 v3 c0 c1 c2 c3 d0 d1 d2 d3
  clear x f
  obtain ⟨c0, c1, c2, c3⟩ := val_cells CB.out
  obtain ⟨d0, d1, d2, d3⟩ := val_cells DB.out
  simp only at d0 d1 d2
  go_wp2_with fail
  have wr1 : IntKind.i64.wrap (-z2) = -z2 := IntWalk.i64_in _ (by omega)
  have wr2 : IntKind.i64.wrap (100001 + z2) = 100001 + z2 := IntWalk.i64_in _ (by omega)
  refine wp_still_tail 5 (by kernel_rfl) (by kernel_rfl) ?_
  simp only [List.take_succ_cons, List.take_zero, List.drop_succ_cons, List.drop_zero]
  iterate 3 still_step
  still_call (P2.out _)
  repeat still_step
  refine wpStill_nil ?_
  have bz : Below (w_4).heap.size (w_4) ((w_4).drew) := (Below.refl _ _).drew
  replace O := Lib.hid (O.out.below bz)
  replace CB : Hid (((w_4).drew).heap[w_2.heap.size]? = some (valObj (rawVal rv) (.slice la2 ln2 lc2))) := (bz.block _ (lt_of_block CB.out)).trans CB.out
  replace CL := Lib.hid (CL.out.below bz)
  replace DB : Hid (((w_4).drew).heap[w_2.heap.size + 1]? = some (valObj ⟨6 + z1, 0, ⟨#[]⟩, []⟩ (.slice none 0 0))) := (bz.block _ (lt_of_block DB.out)).trans DB.out
  clear bz
  clear c0 c1 c2 c3 d0 d1 d2 d3
  obtain ⟨c0, c1, c2, c3⟩ := val_cells CB.out
  obtain ⟨d0, d1, d2, d3⟩ := val_cells DB.out
  simp only at d0 d1 d2
  go_wp2_with fail
  have hh := putX_any (rawVal rv) _ (-z2) _ (HT1.out.below O.out.b) SV.out (show IsVx _ (.agg #[.int .i64 (rawVal rv).k, .int .i64 (rawVal rv).n, .string (rawVal rv).s, _]) (rawVal rv) from ⟨_, rfl, CL.out⟩) O.out.x (by omega)
  rw [(put_badI (rawVal rv) (-z2) (by omega) L).1, (put_badI (rawVal rv) (-z2) (by omega) L).2] at hh
  refine hh.mono ?_
  clear hh
  intro e w_5 hG
  obtain ⟨rfl, x, f⟩ := hG
  replace O := Lib.hid (O.out.did x f)
  replace CB : Hid ((w_5).heap[w_2.heap.size]? = some (valObj (rawVal rv) (.slice la2 ln2 lc2))) := (f.vals _ _ _ CB.out).trans CB.out
  replace CL := Lib.hid (CL.out.fx f)
  replace DB : Hid ((w_5).heap[w_2.heap.size + 1]? = some (valObj ⟨6 + z1, 0, ⟨#[]⟩, []⟩ (.slice none 0 0))) := (f.vals _ _ _ DB.out).trans DB.out
  clear c0 c1 c2 c3 d0 d1 d2 d3
  clear x f
  obtain ⟨c0, c1, c2, c3⟩ := val_cells CB.out
  obtain ⟨d0, d1, d2, d3⟩ := val_cells DB.out
  simp only at d0 d1 d2
  go_wp2_with fail
  refine wp_still_tail 5 (by kernel_rfl) (by kernel_rfl) ?_
  simp only [List.take_succ_cons, List.take_zero, List.drop_succ_cons, List.drop_zero]
  iterate 3 still_step
  still_call (P2.out _)
  repeat still_step
  refine wpStill_nil ?_
  have bz : Below (w_5).heap.size (w_5) ((w_5).drew) := (Below.refl _ _).drew
  replace O := Lib.hid (O.out.below bz)
  replace CB : Hid (((w_5).drew).heap[w_2.heap.size]? = some (valObj (rawVal rv) (.slice la2 ln2 lc2))) := (bz.block _ (lt_of_block CB.out)).trans CB.out
  replace CL := Lib.hid (CL.out.below bz)
  replace DB : Hid (((w_5).drew).heap[w_2.heap.size + 1]? = some (valObj ⟨6 + z1, 0, ⟨#[]⟩, []⟩ (.slice none 0 0))) := (bz.block _ (lt_of_block DB.out)).trans DB.out
  clear bz
  clear c0 c1 c2 c3 d0 d1 d2 d3
  obtain ⟨c0, c1, c2, c3⟩ := val_cells CB.out
  obtain ⟨d0, d1, d2, d3⟩ := val_cells DB.out
  simp only at d0 d1 d2
  go_wp2_with fail
  have hh := putX_any (rawVal rv) _ (100001 + z2) _ (HT1.out.below O.out.b) SV.out (show IsVx _ (.agg #[.int .i64 (rawVal rv).k, .int .i64 (rawVal rv).n, .string (rawVal rv).s, _]) (rawVal rv) from ⟨_, rfl, CL.out⟩) O.out.x (by omega)
  rw [(put_badI (rawVal rv) (100001 + z2) (by omega) L).1, (put_badI (rawVal rv) (100001 + z2) (by omega) L).2] at hh
  refine hh.mono ?_
  clear hh
  intro e w_6 hG
  obtain ⟨rfl, x, f⟩ := hG
  replace O := Lib.hid (O.out.did x f)
  replace CB : Hid ((w_6).heap[w_2.heap.size]? = some (valObj (rawVal rv) (.slice la2 ln2 lc2))) := (f.vals _ _ _ CB.out).trans CB.out
  replace CL := Lib.hid (CL.out.fx f)
  replace DB : Hid ((w_6).heap[w_2.heap.size + 1]? = some (valObj ⟨6 + z1, 0, ⟨#[]⟩, []⟩ (.slice none 0 0))) := (f.vals _ _ _ DB.out).trans DB.out
  clear c0 c1 c2 c3 d0 d1 d2 d3
  clear x f
  obtain ⟨c0, c1, c2, c3⟩ := val_cells CB.out
  obtain ⟨d0, d1, d2, d3⟩ := val_cells DB.out
  simp only at d0 d1 d2
  go_wp2_with fail
  have bz : Below (w_6).heap.size (w_6) ((w_6).drew) := (Below.refl _ _).drew
  replace O := Lib.hid (O.out.below bz)
  replace CB : Hid (((w_6).drew).heap[w_2.heap.size]? = some (valObj (rawVal rv) (.slice la2 ln2 lc2))) := (bz.block _ (lt_of_block CB.out)).trans CB.out
  replace CL := Lib.hid (CL.out.below bz)
  replace DB : Hid (((w_6).drew).heap[w_2.heap.size + 1]? = some (valObj ⟨6 + z1, 0, ⟨#[]⟩, []⟩ (.slice none 0 0))) := (bz.block _ (lt_of_block DB.out)).trans DB.out
  clear bz
  clear c0 c1 c2 c3 d0 d1 d2 d3
  refine wp_sched (fun W => W.heap[w_2.heap.size]? = some (valObj (rawVal rv) (.slice la2 ln2 lc2)) ∧ W.heap[w_2.heap.size + 1]? = some (valObj ⟨6 + z1, 0, ⟨#[]⟩, []⟩ (.slice none 0 0))) [(0, true), (1, true), (2, false), (3, true), (4, true), (5, true), (6, true), (7, false), (8, true), (9, false), (10, true), (11, true)] (by kernel_rfl) (by kernel_rfl) (fun _ _ _ _ _ h => h) ⟨CB.out, DB.out⟩ ?_
  refine wpSched_read rfl (Or.inl ⟨by rfl, fun W hS => by obtain ⟨s1, s2⟩ := hS; obtain ⟨c0, c1, c2, c3⟩ := val_cells s1; obtain ⟨d0, d1, d2, d3⟩ := val_cells s2; clear s1 s2; simp only at d0 d1 d2; go_simp; try with_reducible rfl⟩) ?_
  go_simp
  refine wpSched_read rfl (Or.inl ⟨by rfl, fun W hS => by obtain ⟨s1, s2⟩ := hS; obtain ⟨c0, c1, c2, c3⟩ := val_cells s1; obtain ⟨d0, d1, d2, d3⟩ := val_cells s2; clear s1 s2; simp only at d0 d1 d2; go_simp; try with_reducible rfl⟩) ?_
  go_simp
  refine wpSched_do rfl (fun K hK => ?_)
  go_simp
  have hh := dropX_any ⟨6 + z1, 0, ⟨#[]⟩, []⟩ _ (1) _ (HT1.out.below O.out.b) (szV_bare _ _) (show IsVx _ (.agg #[.int .i64 (6 + z1), .int .i64 0, .string ⟨#[]⟩, .slice none 0 0]) ⟨6 + z1, 0, ⟨#[]⟩, []⟩ from isVx_bare _ _ _ _) O.out.x (by omega)
  rw [(drop_badV (6 + z1) hk6 1 L).1, (drop_badV (6 + z1) hk6 1 L).2] at hh
  refine hh.mono ?_
  clear hh
  intro e w_7 hG
  obtain ⟨rfl, x, f⟩ := hG
  replace O := Lib.hid (O.out.did x f)
  replace CB : Hid ((w_7).heap[w_2.heap.size]? = some (valObj (rawVal rv) (.slice la2 ln2 lc2))) := (f.vals _ _ _ CB.out).trans CB.out
  replace CL := Lib.hid (CL.out.fx f)
  replace DB : Hid ((w_7).heap[w_2.heap.size + 1]? = some (valObj ⟨6 + z1, 0, ⟨#[]⟩, []⟩ (.slice none 0 0))) := (f.vals _ _ _ DB.out).trans DB.out
  refine hK _ _ ⟨CB.out, DB.out⟩ ?_
  clear hK K x f
  refine wpSched_read rfl (Or.inl ⟨by rfl, fun W hS => by obtain ⟨s1, s2⟩ := hS; obtain ⟨c0, c1, c2, c3⟩ := val_cells s1; obtain ⟨d0, d1, d2, d3⟩ := val_cells s2; clear s1 s2; simp only at d0 d1 d2; go_simp; try with_reducible rfl⟩) ?_
  go_simp
  refine wpSched_read rfl (Or.inl ⟨by rfl, fun W hS => by obtain ⟨s1, s2⟩ := hS; obtain ⟨c0, c1, c2, c3⟩ := val_cells s1; obtain ⟨d0, d1, d2, d3⟩ := val_cells s2; clear s1 s2; simp only at d0 d1 d2; go_simp; try with_reducible rfl⟩) ?_
  go_simp
  refine wpSched_read rfl (Or.inl ⟨by rfl, fun W hS => by obtain ⟨s1, s2⟩ := hS; obtain ⟨c0, c1, c2, c3⟩ := val_cells s1; obtain ⟨d0, d1, d2, d3⟩ := val_cells s2; clear s1 s2; simp only at d0 d1 d2; go_simp; try with_reducible rfl⟩) ?_
  go_simp
  refine wpSched_read rfl (Or.inl ⟨by rfl, fun W hS => by obtain ⟨s1, s2⟩ := hS; obtain ⟨c0, c1, c2, c3⟩ := val_cells s1; obtain ⟨d0, d1, d2, d3⟩ := val_cells s2; clear s1 s2; simp only at d0 d1 d2; go_simp; try with_reducible rfl⟩) ?_
  go_simp
  refine wpSched_do rfl (fun K hK => ?_)
  go_simp
  refine (P2.out _).mono ?_
  rintro e w_8 ⟨rfl, rfl⟩
  refine hK _ _ ⟨CB.out, DB.out⟩ ?_
  clear hK K
  refine wpSched_read rfl (Or.inl ⟨by rfl, fun W hS => by obtain ⟨s1, s2⟩ := hS; obtain ⟨c0, c1, c2, c3⟩ := val_cells s1; obtain ⟨d0, d1, d2, d3⟩ := val_cells s2; clear s1 s2; simp only at d0 d1 d2; go_simp; try with_reducible rfl⟩) ?_
  go_simp
  refine wpSched_do rfl (fun K hK => ?_)
  go_simp
  have hh := dropX_any (rawVal rv) _ (-z2) _ (HT1.out.below O.out.b) SV.out (show IsVx _ (.agg #[.int .i64 (rawVal rv).k, .int .i64 (rawVal rv).n, .string (rawVal rv).s, _]) (rawVal rv) from ⟨_, rfl, CL.out⟩) O.out.x (by omega)
  rw [(drop_badI (rawVal rv) (-z2) (by omega) L).1, (drop_badI (rawVal rv) (-z2) (by omega) L).2] at hh
  refine hh.mono ?_
  clear hh
  intro e w_9 hG
  obtain ⟨rfl, x, f⟩ := hG
  replace O := Lib.hid (O.out.did x f)
  replace CB : Hid ((w_9).heap[w_2.heap.size]? = some (valObj (rawVal rv) (.slice la2 ln2 lc2))) := (f.vals _ _ _ CB.out).trans CB.out
  replace CL := Lib.hid (CL.out.fx f)
  replace DB : Hid ((w_9).heap[w_2.heap.size + 1]? = some (valObj ⟨6 + z1, 0, ⟨#[]⟩, []⟩ (.slice none 0 0))) := (f.vals _ _ _ DB.out).trans DB.out
  refine hK _ _ ⟨CB.out, DB.out⟩ ?_
  clear hK K x f
  refine wpSched_read rfl (Or.inl ⟨by rfl, fun W hS => by obtain ⟨s1, s2⟩ := hS; obtain ⟨c0, c1, c2, c3⟩ := val_cells s1; obtain ⟨d0, d1, d2, d3⟩ := val_cells s2; clear s1 s2; simp only at d0 d1 d2; go_simp; try with_reducible rfl⟩) ?_
  go_simp
  refine wpSched_read rfl (Or.inl ⟨by rfl, fun W hS => by obtain ⟨s1, s2⟩ := hS; obtain ⟨c0, c1, c2, c3⟩ := val_cells s1; obtain ⟨d0, d1, d2, d3⟩ := val_cells s2; clear s1 s2; simp only at d0 d1 d2; go_simp; try with_reducible rfl⟩) ?_
  go_simp
  refine wpSched_done ?_
  clear wr1 wr2
  obtain ⟨c0, c1, c2, c3⟩ := val_cells CB.out
  obtain ⟨d0, d1, d2, d3⟩ := val_cells DB.out
  simp only at d0 d1 d2
  go_wp2_with fail
  have hlc := lt_of_block CB.out
  have hld := lt_of_block DB.out
  have X := Lib.hid O.out.x
  have T := Lib.hid (HT1.out.below O.out.b)
  have BB := Lib.hid ((Below.refl w_9.heap.size w_9).drew)
  replace X := Lib.hid (X.out.below BB.out)
  replace T := Lib.hid (T.out.below BB.out)
  replace CL := Lib.hid (CL.out.below BB.out)
  refine wp_sched (fun W => Below w_9.heap.size w_9 W) [(0, true), (1, true), (2, true), (3, false), (4, true), (5, true), (6, true), (7, true), (8, true), (9, true), (10, true), (11, true), (12, true), (13, true), (14, true), (15, true), (16, true), (17, true), (18, true), (19, true), (20, true), (21, true), (22, true), (23, true), (26, true), (27, true), (28, true), (32, true), (33, true), (34, true), (24, false), (25, true), (29, false), (30, true), (31, true), (35, false), (36, true), (37, true), (38, true), (39, true), (40, true), (41, true), (43, true), (42, false), (44, true), (45, true), (46, true), (47, true), (48, true), (49, false), (50, true), (51, true), (52, true), (53, true), (54, true), (55, false), (56, true), (57, true), (58, true), (59, true), (60, true), (63, true), (64, true), (65, true), (61, false), (62, true), (66, false), (67, true), (68, true), (69, true), (70, true), (71, true), (72, true), (73, false), (74, true), (75, true), (76, true)] (by kernel_rfl) (by kernel_rfl) (fun _ _ _ _ _ h => h) BB.out ?_
  refine wpSched_read rfl (Or.inl ⟨by rfl, fun W hS => by obtain ⟨hcS, _⟩ := bcell hS; clear hS; go_simp; try with_reducible rfl⟩) ?_
  go_simp
  refine wpSched_read rfl (Or.inl ⟨by rfl, fun W hS => by obtain ⟨hcS, _⟩ := bcell hS; clear hS; go_simp; try with_reducible rfl⟩) ?_
  go_simp
  refine wpSched_read rfl (Or.inl ⟨by rfl, fun W hS => by obtain ⟨hcS, _⟩ := bcell hS; clear hS; go_simp; try with_reducible rfl⟩) ?_
  go_simp
  have hr := refRight_any (rawVal rv) _ _ (sz_raw rv) (show IsV _ (.agg #[.int .i64 (rawVal rv).k, .int .i64 (rawVal rv).n, .string (rawVal rv).s, _]) (rawVal rv) from ⟨_, rfl, CL.out.1⟩)
  rw [right_rawVal] at hr
  refine wpSched_do rfl (fun K hK => ?_)
  go_simp
  refine (hr).mono ?_
  rintro e q_1 ⟨rfl, bv⟩
  clear hr
  replace X := Lib.hid (X.out.below bv)
  replace T := Lib.hid (T.out.below bv)
  replace CL := Lib.hid (CL.out.below bv)
  replace BB := Lib.hid (BB.out.trans (bv.mono BB.out.size))
  refine hK _ _ BB.out ?_
  clear hK K bv
  refine wpSched_read rfl (Or.inl ⟨by rfl, fun W hS => by obtain ⟨hcS, _⟩ := bcell hS; clear hS; go_simp; try with_reducible rfl⟩) ?_
  go_simp
  refine wpSched_read rfl (Or.inl ⟨by rfl, fun W hS => by obtain ⟨hcS, _⟩ := bcell hS; clear hS; go_simp; try with_reducible rfl⟩) ?_
  go_simp
  refine wpSched_read rfl (Or.inl ⟨by rfl, fun W hS => by obtain ⟨hcS, _⟩ := bcell hS; clear hS; go_simp; try with_reducible rfl⟩) ?_
  go_simp
  refine wpSched_read rfl (Or.inl ⟨by rfl, fun W hS => by obtain ⟨hcS, _⟩ := bcell hS; clear hS; go_simp; try with_reducible rfl⟩) ?_
  go_simp
  refine wpSched_read rfl (Or.inl ⟨by rfl, fun W hS => by obtain ⟨hcS, _⟩ := bcell hS; clear hS; go_simp; try with_reducible rfl⟩) ?_
  go_simp
  refine wpSched_read rfl (Or.inl ⟨by rfl, fun W hS => by obtain ⟨hcS, _⟩ := bcell hS; clear hS; go_simp; try with_reducible rfl⟩) ?_
  go_simp
  refine wpSched_read rfl (Or.inl ⟨by rfl, fun W hS => by obtain ⟨hcS, _⟩ := bcell hS; clear hS; go_simp; try with_reducible rfl⟩) ?_
  go_simp
  refine wpSched_read rfl (Or.inl ⟨by rfl, fun W hS => by obtain ⟨hcS, _⟩ := bcell hS; clear hS; go_simp; try with_reducible rfl⟩) ?_
  go_simp
  refine wpSched_read rfl (Or.inl ⟨by rfl, fun W hS => by obtain ⟨hcS, _⟩ := bcell hS; clear hS; go_simp; try with_reducible rfl⟩) ?_
  go_simp
  refine wpSched_read rfl (Or.inl ⟨by rfl, fun W hS => by obtain ⟨hcS, _⟩ := bcell hS; clear hS; go_simp; try with_reducible rfl⟩) ?_
  go_simp
  refine wpSched_read rfl (Or.inl ⟨by rfl, fun W hS => by obtain ⟨hcS, _⟩ := bcell hS; clear hS; go_simp; try with_reducible rfl⟩) ?_
  go_simp
  refine wpSched_read rfl (Or.inl ⟨by rfl, fun W hS => by obtain ⟨hcS, _⟩ := bcell hS; clear hS; go_simp; try with_reducible rfl⟩) ?_
  go_simp
  refine wpSched_read rfl (Or.inl ⟨by rfl, fun W hS => by obtain ⟨hcS, _⟩ := bcell hS; clear hS; go_simp; try with_reducible rfl⟩) ?_
  go_simp
  refine wpSched_read rfl (Or.inl ⟨by rfl, fun W hS => by obtain ⟨hcS, _⟩ := bcell hS; clear hS; go_simp; try with_reducible rfl⟩) ?_
  go_simp
  refine wpSched_read rfl (Or.inl ⟨by rfl, fun W hS => by obtain ⟨hcS, _⟩ := bcell hS; clear hS; go_simp; try with_reducible rfl⟩) ?_
  go_simp
  refine wpSched_read rfl (Or.inl ⟨by rfl, fun W hS => by obtain ⟨hcS, _⟩ := bcell hS; clear hS; go_simp; try with_reducible rfl⟩) ?_
  go_simp
  refine wpSched_read rfl (Or.inl ⟨by rfl, fun W hS => by obtain ⟨hcS, _⟩ := bcell hS; clear hS; go_simp; try with_reducible rfl⟩) ?_
  go_simp
  refine wpSched_read rfl (Or.inl ⟨by rfl, fun W hS => by obtain ⟨hcS, _⟩ := bcell hS; clear hS; go_simp; try with_reducible rfl⟩) ?_
  go_simp
  refine wpSched_read rfl (Or.inl ⟨by rfl, fun W hS => by obtain ⟨hcS, _⟩ := bcell hS; clear hS; go_simp; try with_reducible rfl⟩) ?_
  go_simp
  refine wpSched_read rfl (Or.inl ⟨by rfl, fun W hS => by obtain ⟨hcS, _⟩ := bcell hS; clear hS; go_simp; try with_reducible rfl⟩) ?_
  go_simp
  refine wpSched_read rfl (Or.inl ⟨by rfl, fun W hS => by obtain ⟨hcS, _⟩ := bcell hS; clear hS; go_simp; try with_reducible rfl⟩) ?_
  go_simp
  refine wpSched_read rfl (Or.inl ⟨by rfl, fun W hS => by obtain ⟨hcS, _⟩ := bcell hS; clear hS; go_simp; try with_reducible rfl⟩) ?_
  go_simp
  refine wpSched_read rfl (Or.inl ⟨by rfl, fun W hS => by obtain ⟨hcS, _⟩ := bcell hS; clear hS; go_simp; try with_reducible rfl⟩) ?_
  go_simp
  refine wpSched_read rfl (Or.inl ⟨by rfl, fun W hS => by obtain ⟨hcS, _⟩ := bcell hS; clear hS; go_simp; try with_reducible rfl⟩) ?_
  go_simp
  refine wpSched_read rfl (Or.inl ⟨by rfl, fun W hS => by obtain ⟨hcS, _⟩ := bcell hS; clear hS; go_simp; try with_reducible rfl⟩) ?_
  go_simp
  refine wpSched_read rfl (Or.inl ⟨by rfl, fun W hS => by obtain ⟨hcS, _⟩ := bcell hS; clear hS; go_simp; try with_reducible rfl⟩) ?_
  go_simp
  have hr := find_any ⟨6 + z1, 0, ⟨#[]⟩, []⟩ _ _ T.out (szV_bare _ _) (show IsVx _ (.agg #[.int .i64 (6 + z1), .int .i64 0, .string ⟨#[]⟩, .slice none 0 0]) ⟨6 + z1, 0, ⟨#[]⟩, []⟩ from isVx_bare _ _ _ _) X.out (by omega)
  rw [range_badL (6 + z1) hk6] at hr
  refine wpSched_do rfl (fun K hK => ?_)
  go_simp
  refine (hr).mono ?_
  intro e q_2 hG
  obtain ⟨vv, rfl, ii, bv⟩ := hG
  obtain ⟨ia2, ic2, rfl⟩ := ii.len
  have I1 := Lib.hid ii
  replace X := Lib.hid (X.out.below bv)
  replace T := Lib.hid (T.out.below bv)
  replace CL := Lib.hid (CL.out.below bv)
  replace BB := Lib.hid (BB.out.trans (bv.mono BB.out.size))
  refine hK _ _ BB.out ?_
  clear hK K bv ii
  clear hr
  clear I1
  refine wpSched_read rfl (Or.inl ⟨by rfl, fun W hS => by obtain ⟨hcS, _⟩ := bcell hS; clear hS; go_simp; try with_reducible rfl⟩) ?_
  go_simp
  have hr := range_any ⟨6 + z1, 0, ⟨#[]⟩, []⟩ (rawVal rv) _ _ _ T.out (szV_bare _ _) SV.out (show IsVx _ (.agg #[.int .i64 (6 + z1), .int .i64 0, .string ⟨#[]⟩, .slice none 0 0]) ⟨6 + z1, 0, ⟨#[]⟩, []⟩ from isVx_bare _ _ _ _) (show IsVx _ (.agg #[.int .i64 (rawVal rv).k, .int .i64 (rawVal rv).n, .string (rawVal rv).s, _]) (rawVal rv) from ⟨_, rfl, CL.out⟩) X.out (by omega)
  rw [range_badL (6 + z1) hk6] at hr
  refine wpSched_do rfl (fun K hK => ?_)
  go_simp
  refine (hr).mono ?_
  intro e q_3 hG
  obtain ⟨vv, rfl, ii, bv⟩ := hG
  obtain ⟨ia3, ic3, rfl⟩ := ii.len
  have I1 := Lib.hid ii
  replace X := Lib.hid (X.out.below bv)
  replace T := Lib.hid (T.out.below bv)
  replace CL := Lib.hid (CL.out.below bv)
  replace BB := Lib.hid (BB.out.trans (bv.mono BB.out.size))
  refine hK _ _ BB.out ?_
  clear hK K bv ii
  clear hr
  clear I1
  refine wpSched_read rfl (Or.inl ⟨by rfl, fun W hS => by obtain ⟨hcS, _⟩ := bcell hS; clear hS; go_simp; try with_reducible rfl⟩) ?_
  go_simp
  refine wpSched_read rfl (Or.inl ⟨by rfl, fun W hS => by obtain ⟨hcS, _⟩ := bcell hS; clear hS; go_simp; try with_reducible rfl⟩) ?_
  go_simp
  have hr := range_any (rawVal rv) ⟨6 + z1, 0, ⟨#[]⟩, []⟩ _ _ _ T.out SV.out (szV_bare _ _) (show IsVx _ (.agg #[.int .i64 (rawVal rv).k, .int .i64 (rawVal rv).n, .string (rawVal rv).s, _]) (rawVal rv) from ⟨_, rfl, CL.out⟩) (show IsVx _ (.agg #[.int .i64 (6 + z1), .int .i64 0, .string ⟨#[]⟩, .slice none 0 0]) ⟨6 + z1, 0, ⟨#[]⟩, []⟩ from isVx_bare _ _ _ _) X.out (by omega)
  rw [range_badR (6 + z1) hk6] at hr
  refine wpSched_do rfl (fun K hK => ?_)
  go_simp
  refine (hr).mono ?_
  intro e q_4 hG
  obtain ⟨vv, rfl, ii, bv⟩ := hG
  obtain ⟨ia4, ic4, rfl⟩ := ii.len
  have I1 := Lib.hid ii
  replace X := Lib.hid (X.out.below bv)
  replace T := Lib.hid (T.out.below bv)
  replace CL := Lib.hid (CL.out.below bv)
  replace BB := Lib.hid (BB.out.trans (bv.mono BB.out.size))
  refine hK _ _ BB.out ?_
  clear hK K bv ii
  clear hr
  clear I1
  refine wpSched_read rfl (Or.inl ⟨by rfl, fun W hS => by obtain ⟨hcS, _⟩ := bcell hS; clear hS; go_simp; try with_reducible rfl⟩) ?_
  go_simp
  refine wpSched_read rfl (Or.inl ⟨by rfl, fun W hS => by obtain ⟨hcS, _⟩ := bcell hS; clear hS; go_simp; try with_reducible rfl⟩) ?_
  go_simp
  refine wpSched_read rfl (Or.inl ⟨by rfl, fun W hS => by obtain ⟨hcS, _⟩ := bcell hS; clear hS; go_simp; try with_reducible rfl⟩) ?_
  go_simp
  refine wpSched_read rfl (Or.inl ⟨by rfl, fun W hS => by obtain ⟨hcS, _⟩ := bcell hS; clear hS; go_simp; try with_reducible rfl⟩) ?_
  go_simp
  refine wpSched_read rfl (Or.inl ⟨by rfl, fun W hS => by obtain ⟨hcS, _⟩ := bcell hS; clear hS; go_simp; try with_reducible rfl⟩) ?_
  go_simp
  refine wpSched_read rfl (Or.inl ⟨by rfl, fun W hS => by obtain ⟨hcS, _⟩ := bcell hS; clear hS; go_simp; try with_reducible rfl⟩) ?_
  go_simp
  refine wpSched_read rfl (Or.inl ⟨by rfl, fun W hS => by obtain ⟨hcS, _⟩ := bcell hS; clear hS; go_simp; try with_reducible rfl⟩) ?_
  go_simp
  refine wpSched_do rfl (fun K hK => ?_)
  go_simp
  refine (len_any _ X.out).mono ?_
  rintro e q_5 ⟨rfl, rfl⟩
  refine hK _ _ BB.out ?_
  clear hK K
  refine wpSched_read rfl (Or.inl ⟨by rfl, fun W hS => by obtain ⟨hcS, _⟩ := bcell hS; clear hS; go_simp; try with_reducible rfl⟩) ?_
  go_simp
  refine wpSched_read rfl (Or.inl ⟨by rfl, fun W hS => by obtain ⟨hcS, _⟩ := bcell hS; clear hS; go_simp; try with_reducible rfl⟩) ?_
  go_simp
  refine wpSched_read rfl (Or.inl ⟨by rfl, fun W hS => by obtain ⟨hcS, _⟩ := bcell hS; clear hS; go_simp; try with_reducible rfl⟩) ?_
  go_simp
  refine wpSched_read rfl (Or.inl ⟨by rfl, fun W hS => by obtain ⟨hcS, _⟩ := bcell hS; clear hS; go_simp; try with_reducible rfl⟩) ?_
  go_simp
  refine wpSched_read rfl (Or.inl ⟨by rfl, fun W hS => by obtain ⟨hcS, _⟩ := bcell hS; clear hS; go_simp; try with_reducible rfl⟩) ?_
  go_simp
  refine wpSched_do rfl (fun K hK => ?_)
  go_simp
  refine (putX_none (rawVal rv) _ 1 _ (show IsVx _ (.agg #[.int .i64 (rawVal rv).k, .int .i64 (rawVal rv).n, .string (rawVal rv).s, _]) (rawVal rv) from ⟨_, rfl, CL.out⟩)).mono ?_
  rintro e q_6 ⟨rfl, bv⟩
  replace X := Lib.hid (X.out.below bv)
  replace T := Lib.hid (T.out.below bv)
  replace CL := Lib.hid (CL.out.below bv)
  replace BB := Lib.hid (BB.out.trans (bv.mono BB.out.size))
  refine hK _ _ BB.out ?_
  clear hK K bv
  refine wpSched_read rfl (Or.inl ⟨by rfl, fun W hS => by obtain ⟨hcS, _⟩ := bcell hS; clear hS; go_simp; try with_reducible rfl⟩) ?_
  go_simp
  refine wpSched_read rfl (Or.inl ⟨by rfl, fun W hS => by obtain ⟨hcS, _⟩ := bcell hS; clear hS; go_simp; try with_reducible rfl⟩) ?_
  go_simp
  refine wpSched_read rfl (Or.inl ⟨by rfl, fun W hS => by obtain ⟨hcS, _⟩ := bcell hS; clear hS; go_simp; try with_reducible rfl⟩) ?_
  go_simp
  refine wpSched_read rfl (Or.inl ⟨by rfl, fun W hS => by obtain ⟨hcS, _⟩ := bcell hS; clear hS; go_simp; try with_reducible rfl⟩) ?_
  go_simp
  refine wpSched_read rfl (Or.inl ⟨by rfl, fun W hS => by obtain ⟨hcS, _⟩ := bcell hS; clear hS; go_simp; try with_reducible rfl⟩) ?_
  go_simp
  refine wpSched_do rfl (fun K hK => ?_)
  go_simp
  refine (dropX_none (rawVal rv) _ 1 _ (show IsVx _ (.agg #[.int .i64 (rawVal rv).k, .int .i64 (rawVal rv).n, .string (rawVal rv).s, _]) (rawVal rv) from ⟨_, rfl, CL.out⟩)).mono ?_
  rintro e q_7 ⟨rfl, bv⟩
  replace X := Lib.hid (X.out.below bv)
  replace T := Lib.hid (T.out.below bv)
  replace CL := Lib.hid (CL.out.below bv)
  replace BB := Lib.hid (BB.out.trans (bv.mono BB.out.size))
  refine hK _ _ BB.out ?_
  clear hK K bv
  refine wpSched_read rfl (Or.inl ⟨by rfl, fun W hS => by obtain ⟨hcS, _⟩ := bcell hS; clear hS; go_simp; try with_reducible rfl⟩) ?_
  go_simp
  refine wpSched_read rfl (Or.inl ⟨by rfl, fun W hS => by obtain ⟨hcS, _⟩ := bcell hS; clear hS; go_simp; try with_reducible rfl⟩) ?_
  go_simp
  refine wpSched_read rfl (Or.inl ⟨by rfl, fun W hS => by obtain ⟨hcS, _⟩ := bcell hS; clear hS; go_simp; try with_reducible rfl⟩) ?_
  go_simp
  refine wpSched_read rfl (Or.inl ⟨by rfl, fun W hS => by obtain ⟨hcS, _⟩ := bcell hS; clear hS; go_simp; try with_reducible rfl⟩) ?_
  go_simp
  refine wpSched_read rfl (Or.inl ⟨by rfl, fun W hS => by obtain ⟨hcS, _⟩ := bcell hS; clear hS; go_simp; try with_reducible rfl⟩) ?_
  go_simp
  refine wpSched_read rfl (Or.inl ⟨by rfl, fun W hS => by obtain ⟨hcS, _⟩ := bcell hS; clear hS; go_simp; try with_reducible rfl⟩) ?_
  go_simp
  refine wpSched_read rfl (Or.inl ⟨by rfl, fun W hS => by obtain ⟨hcS, _⟩ := bcell hS; clear hS; go_simp; try with_reducible rfl⟩) ?_
  go_simp
  refine wpSched_read rfl (Or.inl ⟨by rfl, fun W hS => by obtain ⟨hcS, _⟩ := bcell hS; clear hS; go_simp; try with_reducible rfl⟩) ?_
  go_simp
  refine wpSched_do rfl (fun K hK => ?_)
  go_simp
  refine (find_none (rawVal rv) _ _ (show IsVx _ (.agg #[.int .i64 (rawVal rv).k, .int .i64 (rawVal rv).n, .string (rawVal rv).s, _]) (rawVal rv) from ⟨_, rfl, CL.out⟩)).mono ?_
  intro e q_8 hG
  obtain ⟨vv, rfl, ii, bv⟩ := hG
  obtain ⟨ia8, ic8, rfl⟩ := ii.len
  have I1 := Lib.hid ii
  replace X := Lib.hid (X.out.below bv)
  replace T := Lib.hid (T.out.below bv)
  replace CL := Lib.hid (CL.out.below bv)
  replace BB := Lib.hid (BB.out.trans (bv.mono BB.out.size))
  refine hK _ _ BB.out ?_
  clear hK K bv ii
  clear I1
  refine wpSched_read rfl (Or.inl ⟨by rfl, fun W hS => by obtain ⟨hcS, _⟩ := bcell hS; clear hS; go_simp; try with_reducible rfl⟩) ?_
  go_simp
  refine wpSched_do rfl (fun K hK => ?_)
  go_simp
  refine (range_none (rawVal rv) (rawVal rv) _ _ _ (show IsVx _ (.agg #[.int .i64 (rawVal rv).k, .int .i64 (rawVal rv).n, .string (rawVal rv).s, _]) (rawVal rv) from ⟨_, rfl, CL.out⟩) (show IsVx _ (.agg #[.int .i64 (rawVal rv).k, .int .i64 (rawVal rv).n, .string (rawVal rv).s, _]) (rawVal rv) from ⟨_, rfl, CL.out⟩)).mono ?_
  intro e q_9 hG
  obtain ⟨vv, rfl, ii, bv⟩ := hG
  obtain ⟨ia9, ic9, rfl⟩ := ii.len
  have I1 := Lib.hid ii
  replace X := Lib.hid (X.out.below bv)
  replace T := Lib.hid (T.out.below bv)
  replace CL := Lib.hid (CL.out.below bv)
  replace BB := Lib.hid (BB.out.trans (bv.mono BB.out.size))
  refine hK _ _ BB.out ?_
  clear hK K bv ii
  clear I1
  refine wpSched_read rfl (Or.inl ⟨by rfl, fun W hS => by obtain ⟨hcS, _⟩ := bcell hS; clear hS; go_simp; try with_reducible rfl⟩) ?_
  go_simp
  refine wpSched_read rfl (Or.inl ⟨by rfl, fun W hS => by obtain ⟨hcS, _⟩ := bcell hS; clear hS; go_simp; try with_reducible rfl⟩) ?_
  go_simp
  refine wpSched_read rfl (Or.inl ⟨by rfl, fun W hS => by obtain ⟨hcS, _⟩ := bcell hS; clear hS; go_simp; try with_reducible rfl⟩) ?_
  go_simp
  refine wpSched_read rfl (Or.inl ⟨by rfl, fun W hS => by obtain ⟨hcS, _⟩ := bcell hS; clear hS; go_simp; try with_reducible rfl⟩) ?_
  go_simp
  refine wpSched_read rfl (Or.inl ⟨by rfl, fun W hS => by obtain ⟨hcS, _⟩ := bcell hS; clear hS; go_simp; try with_reducible rfl⟩) ?_
  go_simp
  refine wpSched_read rfl (Or.inl ⟨by rfl, fun W hS => by obtain ⟨hcS, _⟩ := bcell hS; clear hS; go_simp; try with_reducible rfl⟩) ?_
  go_simp
  refine wpSched_do rfl (fun K hK => ?_)
  go_simp
  refine (len_none _).mono ?_
  rintro e q_10 ⟨rfl, rfl⟩
  refine hK _ _ BB.out ?_
  clear hK K
  refine wpSched_read rfl (Or.inl ⟨by rfl, fun W hS => by obtain ⟨hcS, _⟩ := bcell hS; clear hS; go_simp; try with_reducible rfl⟩) ?_
  go_simp
  refine wpSched_read rfl (Or.inl ⟨by rfl, fun W hS => by obtain ⟨hcS, _⟩ := bcell hS; clear hS; go_simp; try with_reducible rfl⟩) ?_
  go_simp
  refine wpSched_read rfl (Or.inl ⟨by rfl, fun W hS => by obtain ⟨hcS, _⟩ := bcell hS; clear hS; go_simp; try with_reducible rfl⟩) ?_
  go_simp
  refine wpSched_done ?_
  go_wp2_with fail
  go_ret
  have w0 : IntKind.i64.wrap 0 = 0 := by decide
  exact ⟨by simp [w0], BW.out (O.out.b.trans (BB.out.mono O.out.b.size))⟩
end Go.Proofs.YtifaaacbbjlffaaDoor
