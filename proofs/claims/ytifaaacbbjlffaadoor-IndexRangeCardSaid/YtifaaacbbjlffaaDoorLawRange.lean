/- The walk of IndexRange: it tells true. -/
import Derived.Test.YtifaaacbbjlffaaDoorRangePlain
namespace Go.Proofs.YtifaaacbbjlffaaDoor
open Go.RowKit Mor

/-- what the walk of IndexRange knows behind its range: the world, the two values' boxes, the numbers -/
structure RS (W : World) (cs : List CallD) (vc : Value) (rv rw_ : RawD) (xb ab bb base : Nat) (sa sb gv : Value) (L : List Pr) (G : List Int) : Prop where
  t : Tabs W
  c : IsC W vc cs
  x : IsX base W xb L
  a : W.heap[ab]? = some (valObj (rawVal rv) sa)
  al : IsLt W sa (rawVal rv).l
  b : W.heap[bb]? = some (valObj (rawVal rw_) sb)
  bl : IsLt W sb (rawVal rw_).l
  g : IsI W gv G
theorem RS.below {W W' : World} {cs : List CallD} {vc : Value} {rv rw_ : RawD} {xb ab bb base : Nat} {sa sb gv : Value} {L : List Pr} {G : List Int} (h : RS W cs vc rv rw_ xb ab bb base sa sb gv L G) (hB : Below W.heap.size W W') : RS W' cs vc rv rw_ xb ab bb base sa sb gv L G :=
  ⟨h.t.below hB, h.c.below hB, h.x.below hB, (hB.block _ (lt_of_block h.a)).trans h.a, h.al.below hB, (hB.block _ (lt_of_block h.b)).trans h.b, h.bl.below hB, h.g.below hB⟩

theorem one_has (p q : Pr) (ps : List Pr) (k : Nat) (h : ps.take (k + 1) = ps.take k ++ [q]) : has p (ps.take (k + 1)) = (has p (ps.take k) || decide (ordP q p = 0)) := by rw [h, has_snoc]

set_option maxRecDepth 100000 in
set_option maxHeartbeats 16000000 in
theorem range_law (cs : List CallD) (rv rw_ : RawD) (vc sv sw : Value) (w : World) (hT : Tabs w) (hc : IsC w vc cs) (hv : RawOk w rv sv) (hw : RawOk w rw_ sw) :
    Calls Tryd.prog 8 #[vc, rawV rv sv, rawV rw_ sw] w fun e w' => e = .returned (.bool true) ∧ Below w.heap.size w w' := by
  obtain ⟨va, vn, vc', rfl⟩ := hv.slice
  obtain ⟨wa, wn, wc, rfl⟩ := hw.slice
  obtain ⟨ca, cp, rfl, hclen⟩ : ∃ a c, vc = .slice a cs.length c ∧ cs.length ≤ 9223372036854775807 := by obtain ⟨a, c, h, h2, _⟩ := hc; exact ⟨a, c, h, h2⟩
  have HT := Lib.hid hT
  have HC := Lib.hid hc
  have HV := Lib.hid hv
  have HW := Lib.hid hw
  have SV := Lib.hid (szV_raw hv)
  have SW := Lib.hid (szV_raw hw)
  clear hT hc hv hw
  have B0 : Hid (Below w.heap.size w ((w.alloc (rawObj rv (.slice va vn vc'))).alloc (rawObj rw_ (.slice wa wn wc)))) := ((Below.refl _ w).alloc (Nat.le_refl _) _).alloc (by simp) _
  unfold rawV
  go_enter Tryd.func8, Tryd.ntmps8
  go_wp2_with fail
  refine (awake_any _ (HT.out.below B0.out)).mono ?_
  rintro e w1 ⟨rfl, b1⟩
  have z1 : w.heap.size + 2 ≤ w1.heap.size := by have := b1.size; simpa using this
  have RV : Hid (w1.heap[w.heap.size]? = some (rawObj rv (.slice va vn vc'))) := (b1.block _ (by simp <;> omega)).trans ((Below.heap_alloc _ _ _ (by simp)).trans (new_block w _ _ rfl))
  have RW : Hid (w1.heap[w.heap.size + 1]? = some (rawObj rw_ (.slice wa wn wc))) := (b1.block _ (by simp)).trans (new_block _ _ _ (by simp))
  have B1 : Hid (Below w.heap.size w w1) := B0.out.trans (b1.mono (by simp; omega))
  have BW : Hid (∀ {W : World}, Below w1.heap.size w1 W → Below w.heap.size w W) := fun h => B1.out.trans (h.mono (by omega))
  have HT1 := Lib.hid (HT.out.below B1.out)
  clear b1
  go_wp2_with fail
  refine (made_any cs false _ w1 HT1.out (HC.out.below B1.out)).mono ?_
  rintro e w2 ⟨xb, rfl, o2⟩
  have O := Lib.hid o2
  replace RV : Hid (w2.heap[w.heap.size]? = some (rawObj rv (.slice va vn vc'))) := (o2.b.block _ (by omega)).trans RV.out
  replace RW : Hid (w2.heap[w.heap.size + 1]? = some (rawObj rw_ (.slice wa wn wc))) := (o2.b.block _ (by omega)).trans RW.out
  clear o2
  have hml : (madeL (pairsOf cs false)).length ≤ 40 := made_forty cs
  obtain ⟨v0, v1, v2, v3⟩ := raw_cells RV.out
  obtain ⟨u0, u1, u2, u3⟩ := raw_cells RW.out
  go_wp2_with fail
  refine (val_any rv _ _ (HV.out.below (BW.out O.out.b))).mono ?_
  intro e w_1 hG
  obtain ⟨vv, rfl, iv, bv⟩ := hG
  obtain ⟨sl1, rfl, il⟩ := iv
  obtain ⟨la1, ln1, lc1, rfl⟩ := il.1.slice
  have bz : Below (w2).heap.size (w2) (w_1.alloc (valObj (rawVal rv) (.slice la1 ln1 lc1))) := bv.alloc bv.size _
  replace O := Lib.hid (O.out.below bz)
  replace RV : Hid ((w_1.alloc (valObj (rawVal rv) (.slice la1 ln1 lc1))).heap[w.heap.size]? = some (rawObj rv (.slice va vn vc'))) := (bz.block _ (lt_of_block RV.out)).trans RV.out
  replace RW : Hid ((w_1.alloc (valObj (rawVal rv) (.slice la1 ln1 lc1))).heap[w.heap.size + 1]? = some (rawObj rw_ (.slice wa wn wc))) := (bz.block _ (lt_of_block RW.out)).trans RW.out
  have AB : Hid ((w_1.alloc (valObj (rawVal rv) (.slice la1 ln1 lc1))).heap[w_1.heap.size]? = some (valObj (rawVal rv) (.slice la1 ln1 lc1))) := new_block w_1 _ _ rfl
  have AL : Hid (IsLt (w_1.alloc (valObj (rawVal rv) (.slice la1 ln1 lc1))) (.slice la1 ln1 lc1) (rawVal rv).l) := il.below ((Below.refl _ w_1).alloc (Nat.le_refl _) _)
  clear v0 v1 v2 v3 u0 u1 u2 u3
  clear bz bv il
  obtain ⟨v0, v1, v2, v3⟩ := raw_cells RV.out
  obtain ⟨u0, u1, u2, u3⟩ := raw_cells RW.out
  obtain ⟨a0, a1, a2, a3⟩ := val_cells AB.out
  unfold valObj at v0 v1 v2 v3 u0 u1 u2 u3 a0 a1 a2 a3
  go_wp2_with fail
  refine (val_any rw_ _ _ (HW.out.below (BW.out O.out.b))).mono ?_
  intro e w_2 hG
  obtain ⟨vv, rfl, iv, bv⟩ := hG
  obtain ⟨sl2, rfl, il⟩ := iv
  obtain ⟨la2, ln2, lc2, rfl⟩ := il.1.slice
  have bz : Below (w_1.alloc (valObj (rawVal rv) (.slice la1 ln1 lc1))).heap.size (w_1.alloc (valObj (rawVal rv) (.slice la1 ln1 lc1))) (w_2.alloc (valObj (rawVal rw_) (.slice la2 ln2 lc2))) := bv.alloc bv.size _
  replace O := Lib.hid (O.out.below bz)
  replace RV : Hid ((w_2.alloc (valObj (rawVal rw_) (.slice la2 ln2 lc2))).heap[w.heap.size]? = some (rawObj rv (.slice va vn vc'))) := (bz.block _ (lt_of_block RV.out)).trans RV.out
  replace RW : Hid ((w_2.alloc (valObj (rawVal rw_) (.slice la2 ln2 lc2))).heap[w.heap.size + 1]? = some (rawObj rw_ (.slice wa wn wc))) := (bz.block _ (lt_of_block RW.out)).trans RW.out
  replace AB : Hid ((w_2.alloc (valObj (rawVal rw_) (.slice la2 ln2 lc2))).heap[w_1.heap.size]? = some (valObj (rawVal rv) (.slice la1 ln1 lc1))) := (bz.block _ (lt_of_block AB.out)).trans AB.out
  replace AL := Lib.hid (AL.out.below bz)
  have DB : Hid ((w_2.alloc (valObj (rawVal rw_) (.slice la2 ln2 lc2))).heap[w_2.heap.size]? = some (valObj (rawVal rw_) (.slice la2 ln2 lc2))) := new_block w_2 _ _ rfl
  have DL : Hid (IsLt (w_2.alloc (valObj (rawVal rw_) (.slice la2 ln2 lc2))) (.slice la2 ln2 lc2) (rawVal rw_).l) := il.below ((Below.refl _ w_2).alloc (Nat.le_refl _) _)
  clear v0 v1 v2 v3 u0 u1 u2 u3 a0 a1 a2 a3
  clear bz bv il
  obtain ⟨v0, v1, v2, v3⟩ := raw_cells RV.out
  obtain ⟨u0, u1, u2, u3⟩ := raw_cells RW.out
  obtain ⟨a0, a1, a2, a3⟩ := val_cells AB.out
  obtain ⟨b0, b1, b2, b3⟩ := val_cells DB.out
  unfold valObj at v0 v1 v2 v3 u0 u1 u2 u3 a0 a1 a2 a3 b0 b1 b2 b3
  go_wp2_with fail
  refine (range_any (rawVal rv) (rawVal rw_) _ _ _ (HT1.out.below O.out.b) SV.out SW.out ⟨_, rfl, AL.out⟩ ⟨_, rfl, DL.out⟩ O.out.x (by omega)).mono ?_
  intro e w_3 hG
  obtain ⟨vv, rfl, ii, bv⟩ := hG
  obtain ⟨ga, gc, rfl⟩ := ii.len
  replace O := Lib.hid (O.out.below bv)
  replace RV : Hid ((w_3).heap[w.heap.size]? = some (rawObj rv (.slice va vn vc'))) := (bv.block _ (lt_of_block RV.out)).trans RV.out
  replace RW : Hid ((w_3).heap[w.heap.size + 1]? = some (rawObj rw_ (.slice wa wn wc))) := (bv.block _ (lt_of_block RW.out)).trans RW.out
  replace AB : Hid ((w_3).heap[w_1.heap.size]? = some (valObj (rawVal rv) (.slice la1 ln1 lc1))) := (bv.block _ (lt_of_block AB.out)).trans AB.out
  replace AL := Lib.hid (AL.out.below bv)
  replace DB : Hid ((w_3).heap[w_2.heap.size]? = some (valObj (rawVal rw_) (.slice la2 ln2 lc2))) := (bv.block _ (lt_of_block DB.out)).trans DB.out
  replace DL := Lib.hid (DL.out.below bv)
  have R : Hid (RS w_3 cs (.slice ca cs.length cp) rv rw_ xb w_1.heap.size w_2.heap.size w1.heap.size _ _ _ _ (rangeL (rawVal rv) (rawVal rw_) (madeL (pairsOf cs false)))) := ⟨HT1.out.below O.out.b, HC.out.below (BW.out O.out.b), O.out.x, AB.out, AL.out, DB.out, DL.out, ii⟩
  clear v0 v1 v2 v3 u0 u1 u2 u3 a0 a1 a2 a3 b0 b1 b2 b3
  clear bv ii
  have B3 := Lib.hid (BW.out O.out.b)
  have hrl : rangeL (rawVal rv) (rawVal rw_) (madeL (pairsOf cs false)) = rng (rawVal rv) (rawVal rw_) (madeL (pairsOf cs false)) := by unfold rangeL; rw [right_rawVal, right_rawVal]; rfl
  rw [hrl] at R
  rw [hrl]
  have HGL : Hid (∃ G, rng (rawVal rv) (rawVal rw_) (madeL (pairsOf cs false)) = G) := ⟨_, rfl⟩
  obtain ⟨G, hG0⟩ := HGL.out
  rw [hG0] at R
  rw [hG0]
  have HG := Lib.hid hG0
  clear HGL hG0 hrl
  have R0 := Lib.hid R.out
  go_wp2_with fail
  go_loopw [12, 13] (fun nn ii wr => ∃ k : Nat, k ≤ cs.length ∧ k ≤ 40 ∧ ii = .int .i64 k ∧ nn = .int .i64 (cntR (rawVal rv) (rawVal rw_) ((pairsOf cs false).take k)) ∧ Below w_3.heap.size w_3 wr) (fun _ i _ => 40 - (intOf i).toNat)
  case atStart => exact ⟨0, by omega, by omega, rfl, rfl, Below.refl _ _⟩
  case round =>
    obtain ⟨k, hk, hk40, rfl, rfl, hB⟩ := hrel
    obtain ⟨wo, rfl⟩ : ∃ wo : World, wo = wr := ⟨_, rfl⟩
    have Rk := Lib.hid (R0.out.below hB)
    have HB := Lib.hid hB
    clear hB
    by_cases hin : k < cs.length ∧ k < 40
    · obtain ⟨hlt, h40⟩ := hin
      have i40 : (k : Int) < 40 := by omega
      have i1 : (0 : Int) ≤ (k : Int) := by omega
      have i2 : (k : Int) < (cs.length : Int) := by omega
      obtain ⟨c, hcs, htk⟩ := pairsOf_at cs false (min cs.length 40) k rfl (by omega)
      rw [show placeOf false (min cs.length 40) k = k from rfl] at hcs
      obtain ⟨a', cp', he, _, hat⟩ := Rk.out.c
      obtain ⟨b, o, sv, sw, hca, hC⟩ := hat k c hcs
      obtain ⟨rfl, rfl⟩ : ca = a' ∧ cp = cp' := by cases he; exact ⟨rfl, rfl⟩
      subst hca
      have TK := Lib.hid htk
      have HCK := Lib.hid hC
      have v0 := hC.v0
      have v1 := hC.v1
      have v2 := hC.v2
      have v3 := hC.v3
      obtain ⟨sa, sn, sc, rfl⟩ := hC.rv.slice
      clear hcs htk hC hat he
      go_wp2_with fail
      refine (val_any c.v _ _ HCK.out.rv).mono ?_
      intro e wv hG2
      obtain ⟨vv, rfl, iv, bv⟩ := hG2
      obtain ⟨slz, rfl, il⟩ := iv
      obtain ⟨za, zn, zc, rfl⟩ := il.1.slice
      clear v0 v1 v2 v3
      have BZ : Hid (Below wo.heap.size wo (wv.alloc (Obj.cells #[.int .i64 (rawVal c.v).k, .int .i64 (rawVal c.v).n, .string (rawVal c.v).s, .slice za zn zc] 41))) := bv.alloc bv.size _
      have ZB : Hid ((wv.alloc (Obj.cells #[.int .i64 (rawVal c.v).k, .int .i64 (rawVal c.v).n, .string (rawVal c.v).s, .slice za zn zc] 41)).heap[wv.heap.size]? = some (valObj (rawVal c.v) (.slice za zn zc))) := new_block wv _ _ rfl
      have ZL : Hid (IsLt (wv.alloc (Obj.cells #[.int .i64 (rawVal c.v).k, .int .i64 (rawVal c.v).n, .string (rawVal c.v).s, .slice za zn zc] 41)) (.slice za zn zc) (rawVal c.v).l) := il.below ((Below.refl _ wv).alloc (Nat.le_refl _) _)
      have hzl : wv.heap.size < (wv.alloc (Obj.cells #[.int .i64 (rawVal c.v).k, .int .i64 (rawVal c.v).n, .string (rawVal c.v).s, .slice za zn zc] 41)).heap.size := by simp
      clear bv il
      go_wp2_with fail
      generalize wv.alloc (Obj.cells #[.int .i64 (rawVal c.v).k, .int .i64 (rawVal c.v).n, .string (rawVal c.v).s, .slice za zn zc] 41) = wz at *
      have RZ := Lib.hid (Rk.out.below BZ.out)
      have HCZ := Lib.hid (HCK.out.below BZ.out)
      go_loopw [15, 16] (fun ag jj w4 => ∃ j : Nat, j ≤ k ∧ jj = .int .i64 j ∧ ag = .bool (has (callKey c) ((pairsOf cs false).take j)) ∧ Below wz.heap.size wz w4) (fun _ j _ => k - (intOf j).toNat)
      case atStart => exact ⟨0, by omega, rfl, rfl, Below.refl _ _⟩
      case round =>
        obtain ⟨j, hj, rfl, rfl, hB4⟩ := hrel
        obtain ⟨w4, rfl⟩ : ∃ w4 : World, w4 = wr := ⟨_, rfl⟩
        by_cases hjk : j < k
        · have j1 : (0 : Int) ≤ (j : Int) := by omega
          have j2 : (j : Int) < (cs.length : Int) := by omega
          have j3 : (j : Int) < (k : Int) := by omega
          obtain ⟨cj, hcj, htj⟩ := pairsOf_at cs false (min cs.length 40) j rfl (by omega)
          rw [show placeOf false (min cs.length 40) j = j from rfl] at hcj
          have HHAS := Lib.hid (one_has (callKey c) (callKey cj) (pairsOf cs false) j htj)
          rw [show decide (ordP (callKey cj) (callKey c) = 0) = (decide (1 + pickZ cj.id 9 = 1 + pickZ c.id 9) && decide (cmpV (rawVal cj.v) (rawVal c.v) = 0)) from key_eq _ _ _ _] at HHAS
          obtain ⟨a', cp', he, _, hat⟩ := RZ.out.c
          obtain ⟨bj, oj, svj, swj, hca, hCj⟩ := hat j cj hcj
          obtain ⟨rfl, rfl⟩ : b = bj ∧ o = oj := by cases he; cases hca; exact ⟨rfl, rfl⟩
          have HCJ := Lib.hid hCj
          have g0 := hCj.v0
          have g1 := hCj.v1
          have g2 := hCj.v2
          have g3 := hCj.v3
          have gi := hCj.id
          have ci := HCZ.out.id
          obtain ⟨ja, jn, jc, rfl⟩ := hCj.rv.slice
          have hbl : b < wz.heap.size := by obtain ⟨q, hq, _⟩ := cells_of_cell gi; exact lt_of_block hq
          obtain ⟨y0, y1, y2, y3⟩ := val_cells ZB.out
          have BB := Lib.hid hB4.drew
          clear hcj htj hat he hca hCj hB4
          generalize hhb : has (callKey c) ((pairsOf cs false).take j) = hb at *
          clear hhb
          cases hb
          · by_cases hid : 1 + pickZ cj.id 9 = 1 + pickZ c.id 9
            · have ib : ((1 + pickZ cj.id 9 : Int) == 1 + pickZ c.id 9) = true := by rw [hid]; simp
              rw [decide_eq_true hid] at HHAS
              clear hid
              go_wp2_with fail
              refine wp_sched (fun W => Below wz.heap.size wz W) [(0, true), (1, true), (2, true), (3, true), (4, true), (5, true), (6, true), (8, true), (9, true), (10, true), (11, true), (12, true), (7, false), (13, false), (14, true), (15, true), (16, true), (17, true), (18, true), (19, true), (20, true), (22, true), (21, false), (23, false), (24, true), (25, true), (26, true)] (by kernel_rfl) (by kernel_rfl) (fun _ _ _ _ _ h => h) BB.out ?_
              refine wpSched_read rfl (Or.inl ⟨by rfl, fun W hS => by obtain ⟨hcS, _⟩ := bcell hS; clear hS; go_simp; try with_reducible rfl⟩) ?_
              go_simp
              refine wpSched_read rfl (Or.inl ⟨by rfl, fun W hS => by obtain ⟨hcS, _⟩ := bcell hS; clear hS; go_simp; try with_reducible rfl⟩) ?_
              go_simp
              refine wpSched_read rfl (Or.inl ⟨by rfl, fun W hS => by obtain ⟨hcS, _⟩ := bcell hS; clear hS; go_simp; try with_reducible rfl⟩) ?_
              go_simp
              refine wpSched_read rfl (Or.inl ⟨by rfl, fun W hS => by obtain ⟨hcS, _⟩ := bcell hS; clear hS; go_simp; try with_reducible rfl⟩) ?_
              go_simp
              refine wpSched_read rfl (Or.inl ⟨by rfl, fun W hS => by obtain ⟨hcS, _⟩ := bcell hS; clear hS; go_simp; try with_reducible rfl⟩) ?_
              go_simp
              refine wpSched_read rfl (Or.inl ⟨by rfl, fun W hS => by obtain ⟨hcS, _⟩ := bcell hS; clear hS; go_simp; try with_reducible rfl⟩) ?_
              go_simp
              refine wpSched_read rfl (Or.inl ⟨by rfl, fun W hS => by obtain ⟨hcS, _⟩ := bcell hS; clear hS; go_simp; try with_reducible rfl⟩) ?_
              go_simp
              refine wpSched_read rfl (Or.inl ⟨by rfl, fun W hS => by obtain ⟨hcS, _⟩ := bcell hS; clear hS; go_simp; try with_reducible rfl⟩) ?_
              go_simp
              refine wpSched_read rfl (Or.inl ⟨by rfl, fun W hS => by obtain ⟨hcS, _⟩ := bcell hS; clear hS; go_simp; try with_reducible rfl⟩) ?_
              go_simp
              refine wpSched_read rfl (Or.inl ⟨by rfl, fun W hS => by obtain ⟨hcS, _⟩ := bcell hS; clear hS; go_simp; try with_reducible rfl⟩) ?_
              go_simp
              refine wpSched_read rfl (Or.inl ⟨by rfl, fun W hS => by obtain ⟨hcS, _⟩ := bcell hS; clear hS; go_simp; try with_reducible rfl⟩) ?_
              go_simp
              refine wpSched_read rfl (Or.inl ⟨by rfl, fun W hS => by obtain ⟨hcS, _⟩ := bcell hS; clear hS; go_simp; try with_reducible rfl⟩) ?_
              go_simp
              refine wpSched_do rfl (fun K hK => ?_)
              go_simp
              refine (id_any cj.id HCJ.out.ri _).mono ?_
              rintro e q ⟨rfl, rfl⟩
              refine hK _ _ BB.out ?_
              clear hK K
              refine wpSched_do rfl (fun K hK => ?_)
              go_simp
              refine (id_any c.id HCK.out.ri _).mono ?_
              rintro e q ⟨rfl, rfl⟩
              refine hK _ _ BB.out ?_
              clear hK K
              refine wpSched_read rfl (Or.inl ⟨by rfl, fun W hS => by obtain ⟨hcS, _⟩ := bcell hS; clear hS; go_simp; try with_reducible rfl⟩) ?_
              go_simp
              refine wpSched_read rfl (Or.inl ⟨by rfl, fun W hS => by obtain ⟨hcS, _⟩ := bcell hS; clear hS; go_simp; try with_reducible rfl⟩) ?_
              go_simp
              refine wpSched_read rfl (Or.inl ⟨by rfl, fun W hS => by obtain ⟨hcS, _⟩ := bcell hS; clear hS; go_simp; try with_reducible rfl⟩) ?_
              go_simp
              refine wpSched_read rfl (Or.inl ⟨by rfl, fun W hS => by obtain ⟨hcS, _⟩ := bcell hS; clear hS; go_simp; try with_reducible rfl⟩) ?_
              go_simp
              refine wpSched_read rfl (Or.inl ⟨by rfl, fun W hS => by obtain ⟨hcS, _⟩ := bcell hS; clear hS; go_simp; try with_reducible rfl⟩) ?_
              go_simp
              refine wpSched_read rfl (Or.inl ⟨by rfl, fun W hS => by obtain ⟨hcS, _⟩ := bcell hS; clear hS; go_simp; try with_reducible rfl⟩) ?_
              go_simp
              refine wpSched_read rfl (Or.inl ⟨by rfl, fun W hS => by obtain ⟨hcS, _⟩ := bcell hS; clear hS; go_simp; try with_reducible rfl⟩) ?_
              go_simp
              refine wpSched_read rfl (Or.inl ⟨by rfl, fun W hS => by obtain ⟨hcS, _⟩ := bcell hS; clear hS; go_simp; try with_reducible rfl⟩) ?_
              go_simp
              refine wpSched_do rfl (fun K hK => ?_)
              go_simp
              refine (val_any cj.v _ _ (HCJ.out.rv.below BB.out)).mono ?_
              intro e q5 hG
              obtain ⟨vv, rfl, iv, bv⟩ := hG
              obtain ⟨sl5, rfl, il⟩ := iv
              obtain ⟨la5, ln5, lc5, rfl⟩ := il.1.slice
              have IV : Hid (IsV q5 (.agg #[.int .i64 (rawVal cj.v).k, .int .i64 (rawVal cj.v).n, .string (rawVal cj.v).s, .slice la5 ln5 lc5]) (rawVal cj.v)) := ⟨_, rfl, il.1⟩
              replace BB := Lib.hid (BB.out.trans (bv.mono BB.out.size))
              refine hK _ _ BB.out ?_
              clear hK K bv il
              refine wpSched_do rfl (fun K hK => ?_)
              go_simp
              refine (same_any (rawVal cj.v) (rawVal c.v) _ _ _ IV.out (show IsV _ (.agg #[.int .i64 (rawVal c.v).k, .int .i64 (rawVal c.v).n, .string (rawVal c.v).s, _]) (rawVal c.v) from ⟨_, rfl, (ZL.out.below BB.out).1⟩)).mono ?_
              rintro e q6 ⟨rfl, bv⟩
              replace BB := Lib.hid (BB.out.trans (bv.mono BB.out.size))
              refine hK _ _ BB.out ?_
              clear hK K bv
              refine wpSched_read rfl (Or.inl ⟨by rfl, fun W hS => by obtain ⟨hcS, _⟩ := bcell hS; clear hS; go_simp; try with_reducible rfl⟩) ?_
              go_simp
              refine wpSched_read rfl (Or.inl ⟨by rfl, fun W hS => by obtain ⟨hcS, _⟩ := bcell hS; clear hS; go_simp; try with_reducible rfl⟩) ?_
              go_simp
              refine wpSched_read rfl (Or.inl ⟨by rfl, fun W hS => by obtain ⟨hcS, _⟩ := bcell hS; clear hS; go_simp; try with_reducible rfl⟩) ?_
              go_simp
              refine wpSched_done ?_
              go_wp2_with fail
              go_roundw
              case rel => exact ⟨j + 1, by omega, by go_num, by rw [HHAS.out]; simp, BB.out⟩
              case measure => simp [intOf]; omega
            · have ib : ((1 + pickZ cj.id 9 : Int) == 1 + pickZ c.id 9) = false := beq_eq_false_iff_ne.2 hid
              rw [decide_eq_false hid] at HHAS
              clear hid
              go_wp2_with fail
              refine wp_sched (fun W => Below wz.heap.size wz W) [(0, true), (1, true), (2, true), (3, true), (4, true), (5, true), (6, true), (8, true), (9, true), (10, true), (11, true), (12, true), (7, false), (13, false), (14, true), (15, true), (16, true), (17, true), (18, true), (19, true), (20, true), (22, true), (21, false), (23, false), (24, true), (25, true), (26, true)] (by kernel_rfl) (by kernel_rfl) (fun _ _ _ _ _ h => h) BB.out ?_
              refine wpSched_read rfl (Or.inl ⟨by rfl, fun W hS => by obtain ⟨hcS, _⟩ := bcell hS; clear hS; go_simp; try with_reducible rfl⟩) ?_
              go_simp
              refine wpSched_read rfl (Or.inl ⟨by rfl, fun W hS => by obtain ⟨hcS, _⟩ := bcell hS; clear hS; go_simp; try with_reducible rfl⟩) ?_
              go_simp
              refine wpSched_read rfl (Or.inl ⟨by rfl, fun W hS => by obtain ⟨hcS, _⟩ := bcell hS; clear hS; go_simp; try with_reducible rfl⟩) ?_
              go_simp
              refine wpSched_read rfl (Or.inl ⟨by rfl, fun W hS => by obtain ⟨hcS, _⟩ := bcell hS; clear hS; go_simp; try with_reducible rfl⟩) ?_
              go_simp
              refine wpSched_read rfl (Or.inl ⟨by rfl, fun W hS => by obtain ⟨hcS, _⟩ := bcell hS; clear hS; go_simp; try with_reducible rfl⟩) ?_
              go_simp
              refine wpSched_read rfl (Or.inl ⟨by rfl, fun W hS => by obtain ⟨hcS, _⟩ := bcell hS; clear hS; go_simp; try with_reducible rfl⟩) ?_
              go_simp
              refine wpSched_read rfl (Or.inl ⟨by rfl, fun W hS => by obtain ⟨hcS, _⟩ := bcell hS; clear hS; go_simp; try with_reducible rfl⟩) ?_
              go_simp
              refine wpSched_read rfl (Or.inl ⟨by rfl, fun W hS => by obtain ⟨hcS, _⟩ := bcell hS; clear hS; go_simp; try with_reducible rfl⟩) ?_
              go_simp
              refine wpSched_read rfl (Or.inl ⟨by rfl, fun W hS => by obtain ⟨hcS, _⟩ := bcell hS; clear hS; go_simp; try with_reducible rfl⟩) ?_
              go_simp
              refine wpSched_read rfl (Or.inl ⟨by rfl, fun W hS => by obtain ⟨hcS, _⟩ := bcell hS; clear hS; go_simp; try with_reducible rfl⟩) ?_
              go_simp
              refine wpSched_read rfl (Or.inl ⟨by rfl, fun W hS => by obtain ⟨hcS, _⟩ := bcell hS; clear hS; go_simp; try with_reducible rfl⟩) ?_
              go_simp
              refine wpSched_read rfl (Or.inl ⟨by rfl, fun W hS => by obtain ⟨hcS, _⟩ := bcell hS; clear hS; go_simp; try with_reducible rfl⟩) ?_
              go_simp
              refine wpSched_do rfl (fun K hK => ?_)
              go_simp
              refine (id_any cj.id HCJ.out.ri _).mono ?_
              rintro e q ⟨rfl, rfl⟩
              refine hK _ _ BB.out ?_
              clear hK K
              refine wpSched_do rfl (fun K hK => ?_)
              go_simp
              refine (id_any c.id HCK.out.ri _).mono ?_
              rintro e q ⟨rfl, rfl⟩
              refine hK _ _ BB.out ?_
              clear hK K
              refine wpSched_read rfl (Or.inl ⟨by rfl, fun W hS => by obtain ⟨hcS, _⟩ := bcell hS; clear hS; go_simp; try with_reducible rfl⟩) ?_
              go_simp
              refine wpSched_read rfl (Or.inl ⟨by rfl, fun W hS => by obtain ⟨hcS, _⟩ := bcell hS; clear hS; go_simp; try with_reducible rfl⟩) ?_
              go_simp
              refine wpSched_read rfl (Or.inr ⟨by rfl, rfl⟩) ?_
              go_simp
              refine wpSched_read rfl (Or.inr ⟨by rfl, rfl⟩) ?_
              go_simp
              refine wpSched_read rfl (Or.inr ⟨by rfl, rfl⟩) ?_
              go_simp
              refine wpSched_read rfl (Or.inr ⟨by rfl, rfl⟩) ?_
              go_simp
              refine wpSched_read rfl (Or.inr ⟨by rfl, rfl⟩) ?_
              go_simp
              refine wpSched_read rfl (Or.inr ⟨by rfl, rfl⟩) ?_
              go_simp
              refine wpSched_do rfl (fun K hK => ?_)
              go_simp
              refine hK _ _ BB.out ?_
              clear hK K
              refine wpSched_do rfl (fun K hK => ?_)
              go_simp
              refine hK _ _ BB.out ?_
              clear hK K
              refine wpSched_read rfl (Or.inl ⟨by rfl, fun W hS => by obtain ⟨hcS, _⟩ := bcell hS; clear hS; go_simp; try with_reducible rfl⟩) ?_
              go_simp
              refine wpSched_read rfl (Or.inl ⟨by rfl, fun W hS => by obtain ⟨hcS, _⟩ := bcell hS; clear hS; go_simp; try with_reducible rfl⟩) ?_
              go_simp
              refine wpSched_read rfl (Or.inl ⟨by rfl, fun W hS => by obtain ⟨hcS, _⟩ := bcell hS; clear hS; go_simp; try with_reducible rfl⟩) ?_
              go_simp
              refine wpSched_done ?_
              go_wp2_with fail
              go_roundw
              case rel => exact ⟨j + 1, by omega, by go_num, by rw [HHAS.out]; simp, BB.out⟩
              case measure => simp [intOf]; omega
          · go_wp2_with fail
            refine wp_sched (fun W => Below wz.heap.size wz W) [(0, true), (1, true), (2, true), (3, true), (4, true), (5, true), (6, true), (8, true), (9, true), (10, true), (11, true), (12, true), (7, false), (13, false), (14, true), (15, true), (16, true), (17, true), (18, true), (19, true), (20, true), (22, true), (21, false), (23, false), (24, true), (25, true), (26, true)] (by kernel_rfl) (by kernel_rfl) (fun _ _ _ _ _ h => h) BB.out ?_
            refine wpSched_read rfl (Or.inl ⟨by rfl, fun W hS => by obtain ⟨hcS, _⟩ := bcell hS; clear hS; go_simp; try with_reducible rfl⟩) ?_
            go_simp
            refine wpSched_read rfl (Or.inl ⟨by rfl, fun W hS => by obtain ⟨hcS, _⟩ := bcell hS; clear hS; go_simp; try with_reducible rfl⟩) ?_
            go_simp
            refine wpSched_read rfl (Or.inr ⟨by rfl, rfl⟩) ?_
            go_simp
            refine wpSched_read rfl (Or.inr ⟨by rfl, rfl⟩) ?_
            go_simp
            refine wpSched_read rfl (Or.inr ⟨by rfl, rfl⟩) ?_
            go_simp
            refine wpSched_read rfl (Or.inr ⟨by rfl, rfl⟩) ?_
            go_simp
            refine wpSched_read rfl (Or.inr ⟨by rfl, rfl⟩) ?_
            go_simp
            refine wpSched_read rfl (Or.inr ⟨by rfl, rfl⟩) ?_
            go_simp
            refine wpSched_read rfl (Or.inr ⟨by rfl, rfl⟩) ?_
            go_simp
            refine wpSched_read rfl (Or.inr ⟨by rfl, rfl⟩) ?_
            go_simp
            refine wpSched_read rfl (Or.inr ⟨by rfl, rfl⟩) ?_
            go_simp
            refine wpSched_read rfl (Or.inr ⟨by rfl, rfl⟩) ?_
            go_simp
            refine wpSched_do rfl (fun K hK => ?_)
            go_simp
            refine hK _ _ BB.out ?_
            clear hK K
            refine wpSched_do rfl (fun K hK => ?_)
            go_simp
            refine hK _ _ BB.out ?_
            clear hK K
            refine wpSched_read rfl (Or.inr ⟨by rfl, rfl⟩) ?_
            go_simp
            refine wpSched_read rfl (Or.inr ⟨by rfl, rfl⟩) ?_
            go_simp
            refine wpSched_read rfl (Or.inr ⟨by rfl, rfl⟩) ?_
            go_simp
            refine wpSched_read rfl (Or.inr ⟨by rfl, rfl⟩) ?_
            go_simp
            refine wpSched_read rfl (Or.inr ⟨by rfl, rfl⟩) ?_
            go_simp
            refine wpSched_read rfl (Or.inr ⟨by rfl, rfl⟩) ?_
            go_simp
            refine wpSched_read rfl (Or.inr ⟨by rfl, rfl⟩) ?_
            go_simp
            refine wpSched_read rfl (Or.inr ⟨by rfl, rfl⟩) ?_
            go_simp
            refine wpSched_do rfl (fun K hK => ?_)
            go_simp
            refine hK _ _ BB.out ?_
            clear hK K
            refine wpSched_do rfl (fun K hK => ?_)
            go_simp
            refine hK _ _ BB.out ?_
            clear hK K
            refine wpSched_read rfl (Or.inr ⟨by rfl, rfl⟩) ?_
            go_simp
            refine wpSched_read rfl (Or.inl ⟨by rfl, fun W hS => by obtain ⟨hcS, _⟩ := bcell hS; clear hS; go_simp; try with_reducible rfl⟩) ?_
            go_simp
            refine wpSched_read rfl (Or.inl ⟨by rfl, fun W hS => by obtain ⟨hcS, _⟩ := bcell hS; clear hS; go_simp; try with_reducible rfl⟩) ?_
            go_simp
            refine wpSched_done ?_
            go_wp2_with fail
            go_roundw
            case rel => exact ⟨j + 1, by omega, by go_num, by rw [HHAS.out]; simp, BB.out⟩
            case measure => simp [intOf]; omega
        · obtain rfl : j = k := by omega
          have j3 : ¬ (j : Int) < (j : Int) := by omega
          have R4 := Lib.hid (RZ.out.below hB4)
          have ZB4 : Hid (w4.heap[wv.heap.size]? = some (valObj (rawVal c.v) (.slice za zn zc))) := (hB4.block _ (lt_of_block ZB.out)).trans ZB.out
          have ZL4 := Lib.hid (ZL.out.below hB4)
          have HC4 := Lib.hid (HCZ.out.below hB4)
          have B4 : Hid (Below w_3.heap.size w_3 w4) := HB.out.trans ((BZ.out.trans (hB4.mono BZ.out.size)).mono HB.out.size)
          clear hB4
          have hcn := cntR_le (rawVal rv) (rawVal rw_) ((pairsOf cs false).take j)
          have htl : ((pairsOf cs false).take j).length ≤ j := List.length_take_le _ _
          have hc40 : cntR (rawVal rv) (rawVal rw_) ((pairsOf cs false).take j) ≤ 40 := by omega
          cases hhas : has (callKey c) ((pairsOf cs false).take j)
          · have hnot : callKey c ∉ (pairsOf cs false).take j := fun h => by rw [has_iff.2 h] at hhas; cases hhas
            have HCN := Lib.hid (cntR_new (rawVal rv) (rawVal rw_) _ _ hnot)
            rw [← TK.out] at HCN
            clear hhas hnot
            obtain ⟨y0, y1, y2, y3⟩ := val_cells ZB4.out
            obtain ⟨a0, a1, a2, a3⟩ := val_cells R4.out.a
            have CL := Lib.hid (fun W (h : Below w4.heap.size w4 W) => compare_any (rawVal c.v) (rawVal rv) (.agg #[.int .i64 (rawVal c.v).k, .int .i64 (rawVal c.v).n, .string (rawVal c.v).s, .slice za zn zc]) (.agg #[.int .i64 (rawVal rv).k, .int .i64 (rawVal rv).n, .string (rawVal rv).s, .slice la1 ln1 lc1]) W ⟨_, rfl, (ZL4.out.below h).1⟩ ⟨_, rfl, (R4.out.al.below h).1⟩)
            have CH := Lib.hid (fun W (h : Below w4.heap.size w4 W) => compare_any (rawVal c.v) (rawVal rw_) (.agg #[.int .i64 (rawVal c.v).k, .int .i64 (rawVal c.v).n, .string (rawVal c.v).s, .slice za zn zc]) (.agg #[.int .i64 (rawVal rw_).k, .int .i64 (rawVal rw_).n, .string (rawVal rw_).s, .slice la2 ln2 lc2]) W ⟨_, rfl, (ZL4.out.below h).1⟩ ⟨_, rfl, (R4.out.bl.below h).1⟩)
            by_cases c1 : cmpV (rawVal c.v) (rawVal rv) < 0
            · have E := Lib.hid (show cntR (rawVal rv) (rawVal rw_) ((pairsOf cs false).take (j + 1)) = cntR (rawVal rv) (rawVal rw_) ((pairsOf cs false).take j) by rw [HCN.out, if_neg (show ¬ side (rawVal rv) (rawVal rw_) (callKey c).1 = 0 from side_low c1)]; omega)
              have d1 : decide (cmpV (rawVal c.v) (rawVal rv) < 0) = true := decide_eq_true c1
              go_wp2_with fail
              refine (CL.out _ (Below.refl _ _)).mono ?_
              rintro e w5 ⟨rfl, b5⟩
              have B5 := Lib.hid (B4.out.trans (b5.mono B4.out.size))
              clear b5
              go_wp2_with fail
              go_roundw
              case rel => exact ⟨j + 1, by omega, by omega, by go_num, by rw [E.out], B5.out⟩
              case measure => simp [intOf]; omega
            · have d1 : decide (cmpV (rawVal c.v) (rawVal rv) < 0) = false := decide_eq_false c1
              by_cases c2 : 0 < cmpV (rawVal c.v) (rawVal rw_)
              · have E := Lib.hid (show cntR (rawVal rv) (rawVal rw_) ((pairsOf cs false).take (j + 1)) = cntR (rawVal rv) (rawVal rw_) ((pairsOf cs false).take j) by rw [HCN.out, if_neg (show ¬ side (rawVal rv) (rawVal rw_) (callKey c).1 = 0 from side_high c1 c2)]; omega)
                have d2 : decide (0 < cmpV (rawVal c.v) (rawVal rw_)) = true := decide_eq_true c2
                go_wp2_with fail
                refine (CL.out _ (Below.refl _ _)).mono ?_
                rintro e w5 ⟨rfl, b5⟩
                have B45 := Lib.hid b5
                have B5 := Lib.hid (B4.out.trans (b5.mono B4.out.size))
                have ZB5 := (b5.block _ (lt_of_block ZB4.out)).trans ZB4.out
                have RB5 := (R4.out.below b5).b
                clear b5 y0 y1 y2 y3 a0 a1 a2 a3
                obtain ⟨y0, y1, y2, y3⟩ := val_cells ZB5
                obtain ⟨b0, b1, b2, b3⟩ := val_cells RB5
                clear ZB5 RB5
                go_wp2_with fail
                refine (CH.out _ B45.out).mono ?_
                rintro e w6 ⟨rfl, b6⟩
                have B6 := Lib.hid (B5.out.trans (b6.mono B5.out.size))
                clear b6
                go_wp2_with fail
                go_roundw
                case rel => exact ⟨j + 1, by omega, by omega, by go_num, by rw [E.out], B6.out⟩
                case measure => simp [intOf]; omega
              · have hs0 : side (rawVal rv) (rawVal rw_) (callKey c).1 = 0 := side_zero c1 c2
                have E := Lib.hid (show cntR (rawVal rv) (rawVal rw_) ((pairsOf cs false).take (j + 1)) = cntR (rawVal rv) (rawVal rw_) ((pairsOf cs false).take j) + 1 by rw [HCN.out, if_pos hs0])
                have hmem : callKey c ∈ pairsOf cs false := by
                  have : callKey c ∈ (pairsOf cs false).take (j + 1) := by rw [TK.out]; simp
                  exact List.mem_of_mem_take this
                have HIN := Lib.hid (show 1 + pickZ c.id 9 ∈ G by rw [← HG.out]; exact mem_rng (p := callKey c) hmem hs0)
                have d2 : decide (0 < cmpV (rawVal c.v) (rawVal rw_)) = false := decide_eq_false c2
                clear hs0 hmem
                go_wp2_with fail
                refine (CL.out _ (Below.refl _ _)).mono ?_
                rintro e w5 ⟨rfl, b5⟩
                have B45 := Lib.hid b5
                have B5 := Lib.hid (B4.out.trans (b5.mono B4.out.size))
                have ZB5 := (b5.block _ (lt_of_block ZB4.out)).trans ZB4.out
                have RB5 := (R4.out.below b5).b
                clear b5 y0 y1 y2 y3 a0 a1 a2 a3
                obtain ⟨y0, y1, y2, y3⟩ := val_cells ZB5
                obtain ⟨b0, b1, b2, b3⟩ := val_cells RB5
                clear ZB5 RB5
                go_wp2_with fail
                refine (CH.out _ B45.out).mono ?_
                rintro e w6 ⟨rfl, b6⟩
                have B6 := Lib.hid (B5.out.trans (b6.mono B5.out.size))
                have R6 := Lib.hid ((R4.out.below B45.out).below b6)
                have HC6 := Lib.hid ((HC4.out.below B45.out).below b6)
                clear b6 y0 y1 y2 y3 b0 b1 b2 b3 CL CH
                have ci := HC6.out.id
                have hbl : b < w6.heap.size := by obtain ⟨q, hq, _⟩ := cells_of_cell ci; exact lt_of_block hq
                go_wp2_with fail
                go_loopw [17, 18] (fun fd kk w7 => ∃ m : Nat, m ≤ G.length ∧ kk = .int .i64 m ∧ fd = .bool (decide (1 + pickZ c.id 9 ∈ G.take m)) ∧ Below w6.heap.size w6 w7) (fun _ m _ => G.length - (intOf m).toNat)
                case atStart => exact ⟨0, by omega, rfl, by simp, Below.refl _ _⟩
                case round =>
                  obtain ⟨m, hm, rfl, rfl, hB7⟩ := hrel
                  obtain ⟨w7, rfl⟩ : ∃ w7 : World, w7 = wr := ⟨_, rfl⟩
                  have BB := Lib.hid hB7.drew
                  have B67 := Lib.hid hB7
                  clear hB7
                  by_cases hmg : m < G.length
                  · have m1 : (0 : Int) ≤ (m : Int) := by omega
                    have m2 : (m : Int) < (G.length : Int) := by omega
                    obtain ⟨x, hx⟩ : ∃ x, G[m]? = some x := ⟨_, List.getElem?_eq_getElem hmg⟩
                    have HTM := Lib.hid (show G.take (m + 1) = G.take m ++ [x] by
                      rw [List.take_succ_eq_append_getElem hmg]
                      rw [List.getElem?_eq_getElem hmg] at hx
                      rw [Option.some.inj hx])
                    obtain ⟨ga', gc', hge, _, _, _, _, hgc⟩ := R6.out.g
                    obtain ⟨⟨gb, go_, hga, hgx⟩, _⟩ := hgc m x hx
                    obtain ⟨rfl, rfl⟩ : ga = ga' ∧ gc = gc' := by cases hge; exact ⟨rfl, rfl⟩
                    subst hga
                    have hgl : gb < w6.heap.size := by obtain ⟨q, hq, _⟩ := cells_of_cell hgx; exact lt_of_block hq
                    clear hx hge hgc
                    generalize hfd : decide (1 + pickZ c.id 9 ∈ G.take m) = fd at *
                    have HFD := Lib.hid hfd
                    clear hfd
                    cases fd
                    · by_cases hxe : x = 1 + pickZ c.id 9
                      · have xb1 : (x == 1 + pickZ c.id 9) = true := by rw [hxe]; simp
                        have F1 := Lib.hid (show decide (1 + pickZ c.id 9 ∈ G.take (m + 1)) = true from decide_eq_true (by rw [HTM.out]; simp [hxe]))
                        clear hxe
                        go_wp2_with fail
                        refine wp_sched (fun W => Below w6.heap.size w6 W) [(0, true), (1, true), (2, true), (3, true), (4, true), (5, true), (6, true), (7, true), (8, true), (9, true), (10, true), (11, false), (12, true), (13, true), (14, true)] (by kernel_rfl) (by kernel_rfl) (fun _ _ _ _ _ h => h) BB.out ?_
                        refine wpSched_read rfl (Or.inl ⟨by rfl, fun W hS => by obtain ⟨hcS, _⟩ := bcell hS; clear hS; go_simp; try with_reducible rfl⟩) ?_
                        go_simp
                        refine wpSched_read rfl (Or.inl ⟨by rfl, fun W hS => by obtain ⟨hcS, _⟩ := bcell hS; clear hS; go_simp; try with_reducible rfl⟩) ?_
                        go_simp
                        refine wpSched_read rfl (Or.inl ⟨by rfl, fun W hS => by obtain ⟨hcS, _⟩ := bcell hS; clear hS; go_simp; try with_reducible rfl⟩) ?_
                        go_simp
                        refine wpSched_read rfl (Or.inl ⟨by rfl, fun W hS => by obtain ⟨hcS, _⟩ := bcell hS; clear hS; go_simp; try with_reducible rfl⟩) ?_
                        go_simp
                        refine wpSched_read rfl (Or.inl ⟨by rfl, fun W hS => by obtain ⟨hcS, _⟩ := bcell hS; clear hS; go_simp; try with_reducible rfl⟩) ?_
                        go_simp
                        refine wpSched_read rfl (Or.inl ⟨by rfl, fun W hS => by obtain ⟨hcS, _⟩ := bcell hS; clear hS; go_simp; try with_reducible rfl⟩) ?_
                        go_simp
                        refine wpSched_read rfl (Or.inl ⟨by rfl, fun W hS => by obtain ⟨hcS, _⟩ := bcell hS; clear hS; go_simp; try with_reducible rfl⟩) ?_
                        go_simp
                        refine wpSched_read rfl (Or.inl ⟨by rfl, fun W hS => by obtain ⟨hcS, _⟩ := bcell hS; clear hS; go_simp; try with_reducible rfl⟩) ?_
                        go_simp
                        refine wpSched_read rfl (Or.inl ⟨by rfl, fun W hS => by obtain ⟨hcS, _⟩ := bcell hS; clear hS; go_simp; try with_reducible rfl⟩) ?_
                        go_simp
                        refine wpSched_read rfl (Or.inl ⟨by rfl, fun W hS => by obtain ⟨hcS, _⟩ := bcell hS; clear hS; go_simp; try with_reducible rfl⟩) ?_
                        go_simp
                        refine wpSched_read rfl (Or.inl ⟨by rfl, fun W hS => by obtain ⟨hcS, _⟩ := bcell hS; clear hS; go_simp; try with_reducible rfl⟩) ?_
                        go_simp
                        refine wpSched_do rfl (fun K hK => ?_)
                        go_simp
                        refine (id_any c.id HCK.out.ri _).mono ?_
                        rintro e q ⟨rfl, rfl⟩
                        refine hK _ _ BB.out ?_
                        clear hK K
                        refine wpSched_read rfl (Or.inl ⟨by rfl, fun W hS => by obtain ⟨hcS, _⟩ := bcell hS; clear hS; go_simp; try with_reducible rfl⟩) ?_
                        go_simp
                        refine wpSched_read rfl (Or.inl ⟨by rfl, fun W hS => by obtain ⟨hcS, _⟩ := bcell hS; clear hS; go_simp; try with_reducible rfl⟩) ?_
                        go_simp
                        refine wpSched_read rfl (Or.inl ⟨by rfl, fun W hS => by obtain ⟨hcS, _⟩ := bcell hS; clear hS; go_simp; try with_reducible rfl⟩) ?_
                        go_simp
                        refine wpSched_done ?_
                        go_wp2_with fail
                        go_roundw
                        case rel => exact ⟨m + 1, by omega, by go_num, by rw [F1.out], BB.out⟩
                        case measure => simp [intOf]; omega
                      · have xb1 : (x == 1 + pickZ c.id 9) = false := beq_eq_false_iff_ne.2 hxe
                        have F1 := Lib.hid (show decide (1 + pickZ c.id 9 ∈ G.take (m + 1)) = false from decide_eq_false (by
                          have := of_decide_eq_false HFD.out
                          rw [HTM.out, List.mem_append, List.mem_singleton]
                          rintro (h | h)
                          · exact this h
                          · exact hxe h.symm))
                        clear hxe
                        go_wp2_with fail
                        refine wp_sched (fun W => Below w6.heap.size w6 W) [(0, true), (1, true), (2, true), (3, true), (4, true), (5, true), (6, true), (7, true), (8, true), (9, true), (10, true), (11, false), (12, true), (13, true), (14, true)] (by kernel_rfl) (by kernel_rfl) (fun _ _ _ _ _ h => h) BB.out ?_
                        refine wpSched_read rfl (Or.inl ⟨by rfl, fun W hS => by obtain ⟨hcS, _⟩ := bcell hS; clear hS; go_simp; try with_reducible rfl⟩) ?_
                        go_simp
                        refine wpSched_read rfl (Or.inl ⟨by rfl, fun W hS => by obtain ⟨hcS, _⟩ := bcell hS; clear hS; go_simp; try with_reducible rfl⟩) ?_
                        go_simp
                        refine wpSched_read rfl (Or.inl ⟨by rfl, fun W hS => by obtain ⟨hcS, _⟩ := bcell hS; clear hS; go_simp; try with_reducible rfl⟩) ?_
                        go_simp
                        refine wpSched_read rfl (Or.inl ⟨by rfl, fun W hS => by obtain ⟨hcS, _⟩ := bcell hS; clear hS; go_simp; try with_reducible rfl⟩) ?_
                        go_simp
                        refine wpSched_read rfl (Or.inl ⟨by rfl, fun W hS => by obtain ⟨hcS, _⟩ := bcell hS; clear hS; go_simp; try with_reducible rfl⟩) ?_
                        go_simp
                        refine wpSched_read rfl (Or.inl ⟨by rfl, fun W hS => by obtain ⟨hcS, _⟩ := bcell hS; clear hS; go_simp; try with_reducible rfl⟩) ?_
                        go_simp
                        refine wpSched_read rfl (Or.inl ⟨by rfl, fun W hS => by obtain ⟨hcS, _⟩ := bcell hS; clear hS; go_simp; try with_reducible rfl⟩) ?_
                        go_simp
                        refine wpSched_read rfl (Or.inl ⟨by rfl, fun W hS => by obtain ⟨hcS, _⟩ := bcell hS; clear hS; go_simp; try with_reducible rfl⟩) ?_
                        go_simp
                        refine wpSched_read rfl (Or.inl ⟨by rfl, fun W hS => by obtain ⟨hcS, _⟩ := bcell hS; clear hS; go_simp; try with_reducible rfl⟩) ?_
                        go_simp
                        refine wpSched_read rfl (Or.inl ⟨by rfl, fun W hS => by obtain ⟨hcS, _⟩ := bcell hS; clear hS; go_simp; try with_reducible rfl⟩) ?_
                        go_simp
                        refine wpSched_read rfl (Or.inl ⟨by rfl, fun W hS => by obtain ⟨hcS, _⟩ := bcell hS; clear hS; go_simp; try with_reducible rfl⟩) ?_
                        go_simp
                        refine wpSched_do rfl (fun K hK => ?_)
                        go_simp
                        refine (id_any c.id HCK.out.ri _).mono ?_
                        rintro e q ⟨rfl, rfl⟩
                        refine hK _ _ BB.out ?_
                        clear hK K
                        refine wpSched_read rfl (Or.inl ⟨by rfl, fun W hS => by obtain ⟨hcS, _⟩ := bcell hS; clear hS; go_simp; try with_reducible rfl⟩) ?_
                        go_simp
                        refine wpSched_read rfl (Or.inl ⟨by rfl, fun W hS => by obtain ⟨hcS, _⟩ := bcell hS; clear hS; go_simp; try with_reducible rfl⟩) ?_
                        go_simp
                        refine wpSched_read rfl (Or.inl ⟨by rfl, fun W hS => by obtain ⟨hcS, _⟩ := bcell hS; clear hS; go_simp; try with_reducible rfl⟩) ?_
                        go_simp
                        refine wpSched_done ?_
                        go_wp2_with fail
                        go_roundw
                        case rel => exact ⟨m + 1, by omega, by go_num, by rw [F1.out], BB.out⟩
                        case measure => simp [intOf]; omega
                    · have F1 := Lib.hid (show decide (1 + pickZ c.id 9 ∈ G.take (m + 1)) = true from decide_eq_true (by
                        have := of_decide_eq_true HFD.out
                        rw [HTM.out, List.mem_append]; exact .inl this))
                      go_wp2_with fail
                      refine wp_sched (fun W => Below w6.heap.size w6 W) [(0, true), (1, true), (2, true), (3, true), (4, true), (5, true), (6, true), (7, true), (8, true), (9, true), (10, true), (11, false), (12, true), (13, true), (14, true)] (by kernel_rfl) (by kernel_rfl) (fun _ _ _ _ _ h => h) BB.out ?_
                      refine wpSched_read rfl (Or.inl ⟨by rfl, fun W hS => by obtain ⟨hcS, _⟩ := bcell hS; clear hS; go_simp; try with_reducible rfl⟩) ?_
                      go_simp
                      refine wpSched_read rfl (Or.inl ⟨by rfl, fun W hS => by obtain ⟨hcS, _⟩ := bcell hS; clear hS; go_simp; try with_reducible rfl⟩) ?_
                      go_simp
                      refine wpSched_read rfl (Or.inr ⟨by rfl, rfl⟩) ?_
                      go_simp
                      refine wpSched_read rfl (Or.inr ⟨by rfl, rfl⟩) ?_
                      go_simp
                      refine wpSched_read rfl (Or.inr ⟨by rfl, rfl⟩) ?_
                      go_simp
                      refine wpSched_read rfl (Or.inr ⟨by rfl, rfl⟩) ?_
                      go_simp
                      refine wpSched_read rfl (Or.inr ⟨by rfl, rfl⟩) ?_
                      go_simp
                      refine wpSched_read rfl (Or.inr ⟨by rfl, rfl⟩) ?_
                      go_simp
                      refine wpSched_read rfl (Or.inr ⟨by rfl, rfl⟩) ?_
                      go_simp
                      refine wpSched_read rfl (Or.inr ⟨by rfl, rfl⟩) ?_
                      go_simp
                      refine wpSched_read rfl (Or.inr ⟨by rfl, rfl⟩) ?_
                      go_simp
                      refine wpSched_do rfl (fun K hK => ?_)
                      go_simp
                      refine hK _ _ BB.out ?_
                      clear hK K
                      refine wpSched_read rfl (Or.inr ⟨by rfl, rfl⟩) ?_
                      go_simp
                      refine wpSched_read rfl (Or.inl ⟨by rfl, fun W hS => by obtain ⟨hcS, _⟩ := bcell hS; clear hS; go_simp; try with_reducible rfl⟩) ?_
                      go_simp
                      refine wpSched_read rfl (Or.inl ⟨by rfl, fun W hS => by obtain ⟨hcS, _⟩ := bcell hS; clear hS; go_simp; try with_reducible rfl⟩) ?_
                      go_simp
                      refine wpSched_done ?_
                      go_wp2_with fail
                      go_roundw
                      case rel => exact ⟨m + 1, by omega, by go_num, by rw [F1.out], BB.out⟩
                      case measure => simp [intOf]; omega
                  · have m2 : ¬ (m : Int) < (G.length : Int) := by omega
                    have F1 : decide (1 + pickZ c.id 9 ∈ G.take m) = true := decide_eq_true (by rw [List.take_of_length_le (by omega)]; exact HIN.out)
                    have B7 := Lib.hid (B6.out.trans (B67.out.mono B6.out.size))
                    rw [F1]
                    clear F1
                    go_wp2_with fail
                    go_roundw
                    case rel => exact ⟨j + 1, by omega, by omega, by go_num, by rw [E.out]; go_num, B7.out⟩
                    case measure => simp [intOf]; omega
          · have hyes := has_iff.1 hhas
            have E := Lib.hid (show cntR (rawVal rv) (rawVal rw_) ((pairsOf cs false).take (j + 1)) = cntR (rawVal rv) (rawVal rw_) ((pairsOf cs false).take j) by rw [TK.out, cntR_again _ _ _ _ hyes])
            clear hhas hyes
            go_wp2_with fail
            go_roundw
            case rel => exact ⟨j + 1, by omega, by omega, by go_num, by rw [E.out], B4.out⟩
            case measure => simp [intOf]; omega
    · have hlen : (pairsOf cs false).length = min cs.length 40 := by simp [pairsOf]; omega
      have hps : (pairsOf cs false).take k = pairsOf cs false := List.take_of_length_le (by omega)
      rw [hps]
      have hcg : cntR (rawVal rv) (rawVal rw_) (pairsOf cs false) = G.length := by unfold cntR; rw [HG.out]
      rw [hcg]
      have hQ : rangeL (rawVal rv) (rawVal rv) (madeL (pairsOf cs false)) = rng (rawVal rv) (rawVal rv) (madeL (pairsOf cs false)) := by unfold rangeL; rw [right_rawVal]; rfl
      have FD := Lib.hid (find_any (rawVal rv) (.agg #[.int .i64 (rawVal rv).k, .int .i64 (rawVal rv).n, .string (rawVal rv).s, .slice la1 ln1 lc1]) wo Rk.out.t SV.out ⟨_, rfl, Rk.out.al⟩ Rk.out.x (by omega))
      rw [hQ] at FD
      have RG := Lib.hid (fun W (h : Below wo.heap.size wo W) => range_any (rawVal rv) (rawVal rv) (.agg #[.int .i64 (rawVal rv).k, .int .i64 (rawVal rv).n, .string (rawVal rv).s, .slice la1 ln1 lc1]) (.agg #[.int .i64 (rawVal rv).k, .int .i64 (rawVal rv).n, .string (rawVal rv).s, .slice la1 ln1 lc1]) W (Rk.out.t.below h) SV.out SV.out ⟨_, rfl, Rk.out.al.below h⟩ ⟨_, rfl, Rk.out.al.below h⟩ (Rk.out.x.below h) (by omega))
      rw [hQ] at RG
      have HR := Lib.hid (rng_rises (rawVal rv) _ (sorted_madeL (pairsOf cs false)))
      have hQl : (rng (rawVal rv) (rawVal rv) (madeL (pairsOf cs false))).length ≤ 40 := by
        have := cntR_le (rawVal rv) (rawVal rv) (pairsOf cs false)
        unfold cntR at this
        omega
      generalize rng (rawVal rv) (rawVal rv) (madeL (pairsOf cs false)) = Q at *
      have hor : (¬ (k : Int) < (cs.length : Int)) ∨ ((k : Int) < (cs.length : Int) ∧ ¬ (k : Int) < 40) := by omega
      obtain ⟨a0, a1, a2, a3⟩ := val_cells Rk.out.a
      clear hin hlen hps hcg hQ
      rcases hor with i2 | ⟨i2, i40⟩
      all_goals
        go_wp2_with fail
        refine FD.out.mono ?_
        intro e w5 hG5
        obtain ⟨v5, rfl, ii5, b5⟩ := hG5
        obtain ⟨qa, qc, rfl⟩ := ii5.len
        have I5 := Lib.hid ii5
        have B5 := Lib.hid b5
        clear ii5 b5
        go_wp2_with fail
        go_loopw [20] (fun kk w6 => ∃ m : Nat, 1 ≤ m ∧ m ≤ 41 ∧ kk = .int .i64 m ∧ Below w5.heap.size w5 w6) (fun m _ => 41 - (intOf m).toNat)
        case atStart => exact ⟨1, by omega, by omega, rfl, Below.refl _ _⟩
        case round =>
          obtain ⟨m, hm1, hm41, rfl, hB6⟩ := hrel
          obtain ⟨w6, rfl⟩ : ∃ w6 : World, w6 = wr := ⟨_, rfl⟩
          have I6 := Lib.hid (I5.out.below hB6)
          have B56 := Lib.hid hB6
          clear hB6
          by_cases hmq : m < Q.length
          · have m2 : (m : Int) < (Q.length : Int) := by omega
            obtain ⟨x, hx⟩ : ∃ x, Q[m]? = some x := ⟨_, List.getElem?_eq_getElem hmq⟩
            obtain ⟨y, hy⟩ : ∃ y, Q[m - 1]? = some y := ⟨_, List.getElem?_eq_getElem (by omega)⟩
            have hyx : y < x := by
              obtain ⟨h1, h2⟩ := List.getElem?_eq_some_iff.1 hx
              obtain ⟨h3, h4⟩ := List.getElem?_eq_some_iff.1 hy
              have := List.pairwise_iff_getElem.1 HR.out (m - 1) m h3 h1 (by omega)
              rw [h2, h4] at this
              exact this
            obtain ⟨qa', qc', hqe, _, _, _, _, hqc⟩ := I6.out
            obtain ⟨⟨qb, qo, hqa, hqx⟩, _⟩ := hqc m x hx
            obtain ⟨⟨qb', qo', hqa', hqy⟩, _⟩ := hqc (m - 1) y hy
            obtain ⟨rfl, rfl⟩ : qa = qa' ∧ qc = qc' := by cases hqe; exact ⟨rfl, rfl⟩
            subst hqa
            obtain ⟨rfl, rfl⟩ : qb = qb' ∧ qo = qo' := by cases hqa'; exact ⟨rfl, rfl⟩
            have k0 : (0 : Int) ≤ (m : Int) := by omega
            have k1 : (1 : Int) ≤ (m : Int) := by omega
            have k2 : (0 : Int) ≤ (m : Int) - 1 := by omega
            have k3 : (m : Int) - 1 < (Q.length : Int) := by omega
            have k4 : ((m : Int) - 1).toNat = m - 1 := by omega
            have k5 : IntKind.i64.wrap ((m : Int) - 1) = (m : Int) - 1 := IntWalk.i64_in _ (by omega)
            have k6 : decide (x ≤ y) = false := decide_eq_false (by omega)
            have k7 : ¬ x ≤ y := by omega
            clear hx hy hqe hqc hqa'
            go_wp2_with fail
            refine wp_still (by kernel_rfl) (by kernel_rfl) ?_
            repeat still_step
            refine wpStill_nil ?_
            clear k5
            go_wp2_with fail
            go_roundw
            case rel => exact ⟨m + 1, by omega, by omega, by go_num, B56.out.drew⟩
            case measure => simp [intOf]; omega
          · have m2 : ¬ (m : Int) < (Q.length : Int) := by omega
            have B6 := Lib.hid (B5.out.trans (B56.out.mono B5.out.size))
            have a0' := ((B6.out.block _ (lt_of_block Rk.out.a)).trans Rk.out.a)
            clear a0 a1 a2 a3
            obtain ⟨a0, a1, a2, a3⟩ := val_cells a0'
            clear a0'
            go_wp2_with fail
            refine (RG.out _ B6.out).mono ?_
            intro e w8 hG8
            obtain ⟨v8, rfl, ii8, b8⟩ := hG8
            obtain ⟨ra, rc, rfl⟩ := ii8.len
            have I8 := Lib.hid ii8
            have I68 := Lib.hid (I6.out.below b8)
            have B8 := Lib.hid (B6.out.trans (b8.mono B6.out.size))
            clear ii8 b8
            go_wp2_with fail
            refine (same_true I68.out I8.out).mono ?_
            rintro e w9 ⟨rfl, b9⟩
            have B9 : Hid (Below w.heap.size w w9) := B3.out.trans ((HB.out.trans ((B8.out.trans (b9.mono B8.out.size)).mono HB.out.size)).mono B3.out.size)
            clear b9
            go_wp2_with fail
            go_ret
            exact ⟨by simp, B9.out⟩
end Go.Proofs.YtifaaacbbjlffaaDoor
