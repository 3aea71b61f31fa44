/- The walk of IndexDoes: it tells true. -/
import Derived.Test.YtifaaacbbjlffaaDoorLawDo
namespace Go.Proofs.YtifaaacbbjlffaaDoor
open Go.RowKit Mor

set_option maxRecDepth 100000 in
set_option maxHeartbeats 16000000 in
theorem does_law (cs : List CallD) (rv rw_ : RawD) (vc sv sw : Value) (w : World) (hT : Tabs w) (hc : IsC w vc cs) (hv : RawOk w rv sv) (hw : RawOk w rw_ sw) :
    Calls Tryd.prog 3 #[vc, rawV rv sv, rawV rw_ sw] w fun e w' => e = .returned (.bool true) ∧ Below w.heap.size w w' := by
  obtain ⟨va, vn, vc', rfl⟩ := hv.slice
  obtain ⟨wa, wn, wc, rfl⟩ := hw.slice
  have HT := Lib.hid hT
  have HC := Lib.hid hc
  obtain ⟨ca, cp, rfl, hclen, _⟩ := hc
  have HV := Lib.hid hv
  have HW := Lib.hid hw
  have SV := Lib.hid (szW_raw rv)
  have SW := Lib.hid (szW_raw rw_)
  clear hT hv hw
  have B0 : Hid (Below w.heap.size w ((w.alloc (rawObj rv (.slice va vn vc'))).alloc (rawObj rw_ (.slice wa wn wc)))) := ((Below.refl _ w).alloc (Nat.le_refl _) _).alloc (by simp) _
  have HVV := Lib.hid (fun W (hW : RawOk W rv (.slice va vn vc')) => val_any rv _ W hW)
  have HWW := Lib.hid (fun W (hW : RawOk W rw_ (.slice wa wn wc)) => val_any rw_ _ W hW)
  unfold rawV at HVV HWW ⊢
  go_enter Tryd.func3, Tryd.ntmps3
  go_wp2_with fail
  refine (awake_any _ (HT.out.below B0.out)).mono ?_
  rintro e w1 ⟨rfl, b1⟩
  have z1 : w.heap.size + 2 ≤ w1.heap.size := by have := b1.size; simpa using this
  have RV : Hid (w1.heap[w.heap.size]? = some (rawObj rv (.slice va vn vc'))) := (b1.block _ (by simp <;> omega)).trans ((Below.heap_alloc _ _ _ (by simp)).trans (new_block w _ _ rfl))
  have RW : Hid (w1.heap[w.heap.size + 1]? = some (rawObj rw_ (.slice wa wn wc))) := (b1.block _ (by simp)).trans (new_block _ _ _ (by simp))
  have B1 : Hid (Below w.heap.size w w1) := B0.out.trans (b1.mono (by simp; omega))
  have HT1 := Lib.hid (HT.out.below B1.out)
  have HC1 := Lib.hid (HC.out.below B1.out)
  have HV1 := Lib.hid (HV.out.below B1.out)
  have HW1 := Lib.hid (HW.out.below B1.out)
  clear b1 HT HC HV HW B0
  go_wp2_with fail
  refine (new_any _).mono ?_
  rintro e w2 ⟨rfl, x2, b2⟩
  have z2 : w1.heap.size ≤ w2.heap.size := b2.size
  have B2 : Below w2.heap.size w2 (w2.alloc (refObj (.slice none 0 0))) := (Below.refl _ _).alloc (Nat.le_refl _) _
  have D0 : Hid (Duo w1 w1.heap.size w2.heap.size [] [] (w2.alloc (refObj (.slice none 0 0)))) := ⟨x2.below B2, ⟨_, [], new_block w2 _ _ rfl, ⟨row_nil _ _ _, fun m hm => by simp at hm, by simp⟩, rfl⟩, z2, b2.trans (B2.mono z2)⟩
  clear x2 b2 B2
  go_wp2_with fail
  go_loopw [10] (fun x wr => ∃ k : Nat, k ≤ cs.length ∧ k ≤ 40 ∧ x = .int .i64 k ∧ ∃ L, L.length ≤ k ∧ (∀ p ∈ L, okB p.1 p.2 = true) ∧ Duo w1 w1.heap.size w2.heap.size L L wr) (fun x _ => 40 - (intOf x).toNat)
  case atStart => exact ⟨0, by omega, by omega, rfl, [], Nat.le_refl _, fun p hp => by simp at hp, D0.out⟩
  case round =>
    obtain ⟨k, hk1, hk2, rfl, L, hL1, hL2, hD⟩ := hrel
    have HA := Lib.hid hL2
    have D := Lib.hid hD
    clear hL2 hD
    by_cases h1 : k < cs.length
    · have i1 : (k : Int) < (cs.length : Int) := by omega
      have i1d : decide ((k : Int) < (cs.length : Int)) = true := decide_eq_true i1
      by_cases h2 : k < 40
      · have i2 : (k : Int) < 40 := by omega
        have i0 : (0 : Int) ≤ (k : Int) := by omega
        obtain ⟨c, hcs⟩ : ∃ c, cs[k]? = some c := ⟨_, List.getElem?_eq_getElem h1⟩
        obtain ⟨a', cp', e, _, hat⟩ := HC1.out
        cases e
        obtain ⟨b, o, cv, cw, rfl, hC⟩ := hat k c hcs
        have hbl : b < w1.heap.size := by obtain ⟨o', ho, _⟩ := cells_of_cell hC.k; exact lt_of_some ho
        obtain ⟨cva, cvn, cvc, rfl⟩ := hC.rv.slice
        obtain ⟨cwa, cwn, cwc, rfl⟩ := hC.rw.slice
        have HCC := Lib.hid hC
        have HDO := Lib.hid (do_any w1 w1.heap.size w2.heap.size L c (.slice cva cvn cvc) (.slice cwa cwn cwc))
        have k0 := hC.k
        have k1 := hC.v0
        have k2 := hC.v1
        have k3 := hC.v2
        have k4 := hC.v3
        have k5 := hC.w0
        have k6 := hC.w1
        have k7 := hC.w2
        have k8 := hC.w3
        have k9 := hC.id
        obtain ⟨r0, r1, r2, r3⟩ := raw_cells RV.out
        obtain ⟨s0, s1, s2, s3⟩ := raw_cells RW.out
        have l1 : w.heap.size < w1.heap.size := by omega
        have l2 : w.heap.size + 1 < w1.heap.size := by omega
        clear hat hcs hC
        go_wp2_with fail
        have BB : Hid (Below w1.heap.size w1 wr.drew) := D.out.b.drew
        replace D := Lib.hid (D.out.below (Below.refl _ _).drew)
        refine wp_sch (fun W => Below w1.heap.size w1 W) (.read 0 (.read 1 (.read 2 (.read 3 (.read 4 (.read 5 (.call 6 (.read 7 (.read 8 (.read 9 (.read 11 (.read 12 (.read 13 (.read 14 (.read 15 (.call 10 (.read 16 (.read 17 (.read 18 (.read 19 (.read 20 (.read 23 (.read 24 (.call 21 (.call 22 (.call 25 (.call 26 (.call 27 (.read 28 (.read 29 (.read 30 (.read 31 (.read 32 (.read 34 (.read 37 (.read 38 (.read 40 (.call 33 (.call 35 (.call 36 (.call 39 (.call 41 (.call 42 (.call 43 (.read 44 (.read 45 .done)))))))))))))))))))))))))))))))))))))))))))))) (by kernel_rfl) (by kernel_rfl) (fun _ _ _ _ _ h => h) BB.out ?_
        refine wpSch_read rfl (Or.inl ⟨by rfl, fun W hS => by obtain ⟨hcS, _⟩ := bcell hS; clear hS; go_simp; try with_reducible rfl⟩) ?_
        go_simp
        refine wpSch_read rfl (Or.inl ⟨by rfl, fun W hS => by obtain ⟨hcS, _⟩ := bcell hS; clear hS; go_simp; try with_reducible rfl⟩) ?_
        go_simp
        refine wpSch_read rfl (Or.inl ⟨by rfl, fun W hS => by obtain ⟨hcS, _⟩ := bcell hS; clear hS; go_simp; try with_reducible rfl⟩) ?_
        go_simp
        refine wpSch_read rfl (Or.inl ⟨by rfl, fun W hS => by obtain ⟨hcS, _⟩ := bcell hS; clear hS; go_simp; try with_reducible rfl⟩) ?_
        go_simp
        refine wpSch_read rfl (Or.inl ⟨by rfl, fun W hS => by obtain ⟨hcS, _⟩ := bcell hS; clear hS; go_simp; try with_reducible rfl⟩) ?_
        go_simp
        refine wpSch_read rfl (Or.inl ⟨by rfl, fun W hS => by obtain ⟨hcS, _⟩ := bcell hS; clear hS; go_simp; try with_reducible rfl⟩) ?_
        go_simp
        refine wpSch_more rfl (fun K hK => ?_)
        go_simp
        refine (HDO.out _ HT1.out D.out HA.out (by omega) (HCC.out.rv.below BB.out) (HCC.out.rw.below BB.out) HCC.out.ri HCC.out.rk).mono ?_
        intro e q6 hG
        obtain ⟨rfl, L6, d6, hl6, ha6, _⟩ := hG
        obtain ⟨rv6, M6, hr6, hp6, rfl⟩ := d6.r
        obtain ⟨ra6, rc6, rfl⟩ := hp6.row.slice
        have HA6 := Lib.hid ha6
        rw [List.length_map] at hl6
        have D6 := Lib.hid d6
        have R6 := Lib.hid hr6
        have X := Lib.hid d6.x
        have R := Lib.hid d6.r
        have T := Lib.hid (HT1.out.below d6.b)
        have OV := Lib.hid (HV1.out.below d6.b)
        have OW := Lib.hid (HW1.out.below d6.b)
        have sub : Hid (∀ W, Below q6.heap.size q6 W → Below w1.heap.size w1 W) := fun W h => d6.b.trans (h.mono d6.b.size)
        replace BB : Hid (Below q6.heap.size q6 q6) := Below.refl _ _
        have t0 := ref_cell hr6
        have l3 := lt_of_some hr6
        obtain ⟨r0, r1, r2, r3⟩ := raw_cells ((d6.b.block _ l1).trans RV.out)
        obtain ⟨s0, s1, s2, s3⟩ := raw_cells ((d6.b.block _ l2).trans RW.out)
        have l1 : w.heap.size < q6.heap.size := Nat.lt_of_lt_of_le l1 d6.b.size
        have l2 : w.heap.size + 1 < q6.heap.size := Nat.lt_of_lt_of_le l2 d6.b.size
        refine hK _ _ (fun W => Below q6.heap.size q6 W) sub.out BB.out ?_
        clear hK K d6 hr6 hp6 ha6 D HA k0 k1 k2 k3 k4 k5 k6 k7 k8 k9 sub
        go_simp
        refine wpSch_read rfl (Or.inl ⟨by rfl, fun W hS => by obtain ⟨hcS, _⟩ := bcell hS; clear hS; go_simp; try with_reducible rfl⟩) ?_
        go_simp
        refine wpSch_read rfl (Or.inl ⟨by rfl, fun W hS => by obtain ⟨hcS, _⟩ := bcell hS; clear hS; go_simp; try with_reducible rfl⟩) ?_
        go_simp
        refine wpSch_read rfl (Or.inl ⟨by rfl, fun W hS => by obtain ⟨hcS, _⟩ := bcell hS; clear hS; go_simp; try with_reducible rfl⟩) ?_
        go_simp
        refine wpSch_read rfl (Or.inl ⟨by rfl, fun W hS => by obtain ⟨hcS, _⟩ := bcell hS; clear hS; go_simp; try with_reducible rfl⟩) ?_
        go_simp
        refine wpSch_read rfl (Or.inl ⟨by rfl, fun W hS => by obtain ⟨hcS, _⟩ := bcell hS; clear hS; go_simp; try with_reducible rfl⟩) ?_
        go_simp
        refine wpSch_read rfl (Or.inl ⟨by rfl, fun W hS => by obtain ⟨hcS, _⟩ := bcell hS; clear hS; go_simp; try with_reducible rfl⟩) ?_
        go_simp
        refine wpSch_read rfl (Or.inl ⟨by rfl, fun W hS => by obtain ⟨hcS, _⟩ := bcell hS; clear hS; go_simp; try with_reducible rfl⟩) ?_
        go_simp
        refine wpSch_read rfl (Or.inl ⟨by rfl, fun W hS => by obtain ⟨hcS, _⟩ := bcell hS; clear hS; go_simp; try with_reducible rfl⟩) ?_
        go_simp
        refine wpSch_do rfl (fun K hK => ?_)
        go_simp
        have hh := len_any _ X.out
        rw [List.length_map] at hh
        refine hh.mono ?_
        clear hh
        rintro e q10 ⟨rfl, rfl⟩
        refine hK _ _ BB.out ?_
        clear hK K 
        go_simp
        refine wpSch_read rfl (Or.inl ⟨by rfl, fun W hS => by obtain ⟨hcS, _⟩ := bcell hS; clear hS; go_simp; try with_reducible rfl⟩) ?_
        go_simp
        refine wpSch_read rfl (Or.inl ⟨by rfl, fun W hS => by obtain ⟨hcS, _⟩ := bcell hS; clear hS; go_simp; try with_reducible rfl⟩) ?_
        go_simp
        refine wpSch_read rfl (Or.inl ⟨by rfl, fun W hS => by obtain ⟨hcS, _⟩ := bcell hS; clear hS; go_simp; try with_reducible rfl⟩) ?_
        go_simp
        refine wpSch_read rfl (Or.inl ⟨by rfl, fun W hS => by obtain ⟨hcS, _⟩ := bcell hS; clear hS; go_simp; try with_reducible rfl⟩) ?_
        go_simp
        refine wpSch_read rfl (Or.inl ⟨by rfl, fun W hS => by obtain ⟨hcS, _⟩ := bcell hS; clear hS; go_simp; try with_reducible rfl⟩) ?_
        go_simp
        refine wpSch_read rfl (Or.inl ⟨by rfl, fun W hS => by obtain ⟨hcS, _⟩ := bcell hS; clear hS; go_simp; try with_reducible rfl⟩) ?_
        go_simp
        refine wpSch_read rfl (Or.inl ⟨by rfl, fun W hS => by obtain ⟨hcS, _⟩ := bcell hS; clear hS; go_simp; try with_reducible rfl⟩) ?_
        go_simp
        refine wpSch_do rfl (fun K hK => ?_)
        go_simp
        refine (HVV.out _ OV.out).mono ?_
        intro e p1 hG
        obtain ⟨vv, rfl, iv, bv⟩ := hG
        obtain ⟨sl1, rfl, il⟩ := iv
        obtain ⟨la1, ln1, lc1, rfl⟩ := il.1.slice
        have A : Hid (IsVx p1 _ (rawVal rv)) := ⟨_, rfl, il⟩
        replace X := Lib.hid (X.out.below bv)
        replace R := Lib.hid (R.out.below bv)
        replace T := Lib.hid (T.out.below bv)
        replace OV := Lib.hid (OV.out.below bv)
        replace OW := Lib.hid (OW.out.below bv)
        replace BB := Lib.hid (BB.out.trans (bv.mono BB.out.size))
        refine hK _ _ BB.out ?_
        clear hK K bv il
        go_simp
        refine wpSch_do rfl (fun K hK => ?_)
        go_simp
        refine (find_any (rawVal rv) _ _ T.out SV.out.v A.out X.out (by rw [List.length_map]; omega)).mono ?_
        intro e p2 hG
        obtain ⟨vv, rfl, ii, bv⟩ := hG
        obtain ⟨ia2, ic2, rfl⟩ := ii.len
        have Ix := Lib.hid ii
        replace X := Lib.hid (X.out.below bv)
        replace R := Lib.hid (R.out.below bv)
        replace T := Lib.hid (T.out.below bv)
        replace OV := Lib.hid (OV.out.below bv)
        replace OW := Lib.hid (OW.out.below bv)
        replace BB := Lib.hid (BB.out.trans (bv.mono BB.out.size))
        refine hK _ _ BB.out ?_
        clear hK K bv ii A
        go_simp
        refine wpSch_do rfl (fun K hK => ?_)
        go_simp
        refine (HVV.out _ OV.out).mono ?_
        intro e p3 hG
        obtain ⟨vv, rfl, iv, bv⟩ := hG
        obtain ⟨sl3, rfl, il⟩ := iv
        obtain ⟨la3, ln3, lc3, rfl⟩ := il.1.slice
        have A : Hid (IsVx p3 _ (rawVal rv)) := ⟨_, rfl, il⟩
        replace X := Lib.hid (X.out.below bv)
        replace R := Lib.hid (R.out.below bv)
        replace T := Lib.hid (T.out.below bv)
        replace OV := Lib.hid (OV.out.below bv)
        replace OW := Lib.hid (OW.out.below bv)
        replace Ix := Lib.hid (Ix.out.below bv)
        replace BB := Lib.hid (BB.out.trans (bv.mono BB.out.size))
        refine hK _ _ BB.out ?_
        clear hK K bv il
        go_simp
        refine wpSch_do rfl (fun K hK => ?_)
        go_simp
        refine (refFind_any (rawVal rv) _ _ R.out SV.out A.out).mono ?_
        intro e p4 hG
        obtain ⟨vv, rfl, ii, bv⟩ := hG
        obtain ⟨ia4, ic4, rfl⟩ := ii.len
        have Ir := Lib.hid ii
        replace X := Lib.hid (X.out.below bv)
        replace R := Lib.hid (R.out.below bv)
        replace T := Lib.hid (T.out.below bv)
        replace OV := Lib.hid (OV.out.below bv)
        replace OW := Lib.hid (OW.out.below bv)
        replace Ix := Lib.hid (Ix.out.below bv)
        replace BB := Lib.hid (BB.out.trans (bv.mono BB.out.size))
        refine hK _ _ BB.out ?_
        clear hK K bv ii A
        go_simp
        refine wpSch_do rfl (fun K hK => ?_)
        go_simp
        refine (same_true Ix.out Ir.out).mono ?_
        rintro e p5 ⟨rfl, bv⟩
        replace X := Lib.hid (X.out.below bv)
        replace R := Lib.hid (R.out.below bv)
        replace T := Lib.hid (T.out.below bv)
        replace OV := Lib.hid (OV.out.below bv)
        replace OW := Lib.hid (OW.out.below bv)
        replace BB := Lib.hid (BB.out.trans (bv.mono BB.out.size))
        refine hK _ _ BB.out ?_
        clear hK K bv Ix Ir
        go_simp
        refine wpSch_read rfl (Or.inl ⟨by rfl, fun W hS => by obtain ⟨hcS, _⟩ := bcell hS; clear hS; go_simp; try with_reducible rfl⟩) ?_
        go_simp
        refine wpSch_read rfl (Or.inl ⟨by rfl, fun W hS => by obtain ⟨hcS, _⟩ := bcell hS; clear hS; go_simp; try with_reducible rfl⟩) ?_
        go_simp
        refine wpSch_read rfl (Or.inl ⟨by rfl, fun W hS => by obtain ⟨hcS, _⟩ := bcell hS; clear hS; go_simp; try with_reducible rfl⟩) ?_
        go_simp
        refine wpSch_read rfl (Or.inl ⟨by rfl, fun W hS => by obtain ⟨hcS, _⟩ := bcell hS; clear hS; go_simp; try with_reducible rfl⟩) ?_
        go_simp
        refine wpSch_read rfl (Or.inl ⟨by rfl, fun W hS => by obtain ⟨hcS, _⟩ := bcell hS; clear hS; go_simp; try with_reducible rfl⟩) ?_
        go_simp
        refine wpSch_read rfl (Or.inl ⟨by rfl, fun W hS => by obtain ⟨hcS, _⟩ := bcell hS; clear hS; go_simp; try with_reducible rfl⟩) ?_
        go_simp
        refine wpSch_read rfl (Or.inl ⟨by rfl, fun W hS => by obtain ⟨hcS, _⟩ := bcell hS; clear hS; go_simp; try with_reducible rfl⟩) ?_
        go_simp
        refine wpSch_read rfl (Or.inl ⟨by rfl, fun W hS => by obtain ⟨hcS, _⟩ := bcell hS; clear hS; go_simp; try with_reducible rfl⟩) ?_
        go_simp
        refine wpSch_read rfl (Or.inl ⟨by rfl, fun W hS => by obtain ⟨hcS, _⟩ := bcell hS; clear hS; go_simp; try with_reducible rfl⟩) ?_
        go_simp
        refine wpSch_do rfl (fun K hK => ?_)
        go_simp
        refine (HVV.out _ OV.out).mono ?_
        intro e p6 hG
        obtain ⟨vv, rfl, iv, bv⟩ := hG
        obtain ⟨sl6, rfl, il⟩ := iv
        obtain ⟨la6, ln6, lc6, rfl⟩ := il.1.slice
        have A : Hid (IsVx p6 _ (rawVal rv)) := ⟨_, rfl, il⟩
        replace X := Lib.hid (X.out.below bv)
        replace R := Lib.hid (R.out.below bv)
        replace T := Lib.hid (T.out.below bv)
        replace OV := Lib.hid (OV.out.below bv)
        replace OW := Lib.hid (OW.out.below bv)
        replace BB := Lib.hid (BB.out.trans (bv.mono BB.out.size))
        refine hK _ _ BB.out ?_
        clear hK K bv il
        go_simp
        refine wpSch_do rfl (fun K hK => ?_)
        go_simp
        refine (HWW.out _ OW.out).mono ?_
        intro e p7 hG
        obtain ⟨vv, rfl, iv, bv⟩ := hG
        obtain ⟨sl7, rfl, il⟩ := iv
        obtain ⟨la7, ln7, lc7, rfl⟩ := il.1.slice
        have C : Hid (IsVx p7 _ (rawVal rw_)) := ⟨_, rfl, il⟩
        replace X := Lib.hid (X.out.below bv)
        replace R := Lib.hid (R.out.below bv)
        replace T := Lib.hid (T.out.below bv)
        replace OV := Lib.hid (OV.out.below bv)
        replace OW := Lib.hid (OW.out.below bv)
        replace A := Lib.hid (A.out.below bv)
        replace BB := Lib.hid (BB.out.trans (bv.mono BB.out.size))
        refine hK _ _ BB.out ?_
        clear hK K bv il
        go_simp
        refine wpSch_do rfl (fun K hK => ?_)
        go_simp
        refine (range_any (rawVal rv) (rawVal rw_) _ _ _ T.out SV.out.v SW.out.v A.out C.out X.out (by rw [List.length_map]; omega)).mono ?_
        intro e p8 hG
        obtain ⟨vv, rfl, ii, bv⟩ := hG
        obtain ⟨ia8, ic8, rfl⟩ := ii.len
        have Ix := Lib.hid ii
        replace X := Lib.hid (X.out.below bv)
        replace R := Lib.hid (R.out.below bv)
        replace T := Lib.hid (T.out.below bv)
        replace OV := Lib.hid (OV.out.below bv)
        replace OW := Lib.hid (OW.out.below bv)
        replace BB := Lib.hid (BB.out.trans (bv.mono BB.out.size))
        refine hK _ _ BB.out ?_
        clear hK K bv ii A C
        go_simp
        refine wpSch_do rfl (fun K hK => ?_)
        go_simp
        refine (HVV.out _ OV.out).mono ?_
        intro e p9 hG
        obtain ⟨vv, rfl, iv, bv⟩ := hG
        obtain ⟨sl9, rfl, il⟩ := iv
        obtain ⟨la9, ln9, lc9, rfl⟩ := il.1.slice
        have A : Hid (IsVx p9 _ (rawVal rv)) := ⟨_, rfl, il⟩
        replace X := Lib.hid (X.out.below bv)
        replace R := Lib.hid (R.out.below bv)
        replace T := Lib.hid (T.out.below bv)
        replace OV := Lib.hid (OV.out.below bv)
        replace OW := Lib.hid (OW.out.below bv)
        replace Ix := Lib.hid (Ix.out.below bv)
        replace BB := Lib.hid (BB.out.trans (bv.mono BB.out.size))
        refine hK _ _ BB.out ?_
        clear hK K bv il
        go_simp
        refine wpSch_do rfl (fun K hK => ?_)
        go_simp
        refine (HWW.out _ OW.out).mono ?_
        intro e p10 hG
        obtain ⟨vv, rfl, iv, bv⟩ := hG
        obtain ⟨sl10, rfl, il⟩ := iv
        obtain ⟨la10, ln10, lc10, rfl⟩ := il.1.slice
        have C : Hid (IsVx p10 _ (rawVal rw_)) := ⟨_, rfl, il⟩
        replace X := Lib.hid (X.out.below bv)
        replace R := Lib.hid (R.out.below bv)
        replace T := Lib.hid (T.out.below bv)
        replace OV := Lib.hid (OV.out.below bv)
        replace OW := Lib.hid (OW.out.below bv)
        replace Ix := Lib.hid (Ix.out.below bv)
        replace A := Lib.hid (A.out.below bv)
        replace BB := Lib.hid (BB.out.trans (bv.mono BB.out.size))
        refine hK _ _ BB.out ?_
        clear hK K bv il
        go_simp
        refine wpSch_do rfl (fun K hK => ?_)
        go_simp
        refine (refRange_any (rawVal rv) (rawVal rw_) _ _ _ R.out SV.out SW.out A.out C.out).mono ?_
        intro e p11 hG
        obtain ⟨vv, rfl, ii, bv⟩ := hG
        obtain ⟨ia11, ic11, rfl⟩ := ii.len
        have Ir := Lib.hid ii
        replace X := Lib.hid (X.out.below bv)
        replace R := Lib.hid (R.out.below bv)
        replace T := Lib.hid (T.out.below bv)
        replace OV := Lib.hid (OV.out.below bv)
        replace OW := Lib.hid (OW.out.below bv)
        replace Ix := Lib.hid (Ix.out.below bv)
        replace BB := Lib.hid (BB.out.trans (bv.mono BB.out.size))
        refine hK _ _ BB.out ?_
        clear hK K bv ii A C
        go_simp
        refine wpSch_do rfl (fun K hK => ?_)
        go_simp
        refine (same_true Ix.out Ir.out).mono ?_
        rintro e p12 ⟨rfl, bv⟩
        replace X := Lib.hid (X.out.below bv)
        replace R := Lib.hid (R.out.below bv)
        replace T := Lib.hid (T.out.below bv)
        replace OV := Lib.hid (OV.out.below bv)
        replace OW := Lib.hid (OW.out.below bv)
        replace BB := Lib.hid (BB.out.trans (bv.mono BB.out.size))
        refine hK _ _ BB.out ?_
        clear hK K bv Ix Ir
        go_simp
        refine wpSch_read rfl (Or.inl ⟨by rfl, fun W hS => by obtain ⟨hcS, _⟩ := bcell hS; clear hS; go_simp; try with_reducible rfl⟩) ?_
        go_simp
        refine wpSch_read rfl (Or.inl ⟨by rfl, fun W hS => by obtain ⟨hcS, _⟩ := bcell hS; clear hS; go_simp; try with_reducible rfl⟩) ?_
        go_simp
        refine wpSch_done ?_
        clear t0 r0 r1 r2 r3 s0 s1 s2 s3
        have DZ := Lib.hid (D6.out.below BB.out)
        go_wp2_with fail
        go_roundw
        case rel => exact ⟨k + 1, by omega, by omega, by go_num, _, by rw [List.length_map]; omega, HA6.out, DZ.out⟩
        case measure => simp [intOf]; omega
      · have i2 : ¬ (k : Int) < 40 := by omega
        have BE := Lib.hid (B1.out.trans (D.out.b.mono (by omega)))
        go_wp2_with fail
        go_ret
        exact ⟨rfl, BE.out⟩
    · have i1 : ¬ (k : Int) < (cs.length : Int) := by omega
      have BE := Lib.hid (B1.out.trans (D.out.b.mono (by omega)))
      go_wp2_with fail
      go_ret
      exact ⟨rfl, BE.out⟩
end Go.Proofs.YtifaaacbbjlffaaDoor
