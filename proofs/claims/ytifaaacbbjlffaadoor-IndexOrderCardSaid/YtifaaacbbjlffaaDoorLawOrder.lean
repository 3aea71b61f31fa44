/- The walk of IndexOrder: it tells true. -/
import Derived.Test.YtifaaacbbjlffaaDoorLawMade
namespace Mor
theorem mem_addP {L : List Pr} {p q : Pr} : q ∈ addP L p ↔ q = p ∨ q ∈ L := by
  unfold addP; split
  · rename_i h
    have := has_iff.1 h
    constructor
    · exact .inr
    · rintro (rfl | h); exact this; exact h
  · exact mem_ins
theorem sorted_addP {L : List Pr} (h : Sorted L) (p : Pr) : Sorted (addP L p) := by
  unfold addP; split
  · exact h
  · rename_i hh; exact sorted_ins h fun hm => hh (has_iff.2 hm)
theorem foldl_addP : ∀ (ps : List Pr) (L : List Pr), Sorted L → Sorted (ps.foldl addP L) ∧ ∀ q, q ∈ ps.foldl addP L ↔ q ∈ L ∨ q ∈ ps
  | [], L, h => ⟨h, fun q => by simp⟩
  | p :: ps, L, h => by
    obtain ⟨h1, h2⟩ := foldl_addP ps (addP L p) (sorted_addP h p)
    refine ⟨h1, fun q => ?_⟩
    rw [List.foldl_cons, h2, mem_addP, List.mem_cons]
    constructor
    · rintro ((h | h) | h) <;> simp [h]
    · rintro (h | h | h) <;> simp [h]
theorem sorted_madeL (ps : List Pr) : Sorted (madeL ps) := (foldl_addP ps [] List.Pairwise.nil).1
theorem mem_madeL {ps : List Pr} {q : Pr} : q ∈ madeL ps ↔ q ∈ ps := by rw [madeL, (foldl_addP ps [] List.Pairwise.nil).2]; simp
theorem madeL_back (cs : List CallD) : madeL (pairsOf cs true) = madeL (pairsOf cs false) := sorted_ext (sorted_madeL _) (sorted_madeL _) fun q => by
  rw [mem_madeL, mem_madeL]
  simp [pairsOf]
theorem made_forty (cs : List CallD) : (madeL (pairsOf cs false)).length ≤ 40 := by
  have h1 := madeL_len (pairsOf cs false)
  have h2 : (pairsOf cs false).length ≤ 40 := by simp [pairsOf]; omega
  omega
end Mor
namespace Go.Proofs.YtifaaacbbjlffaaDoor
open Go.RowKit Mor

theorem CallAt.below {w w' : World} {b o : Nat} {c : CallD} {sv sw : Value} (h : CallAt w b o c sv sw) (hB : Below w.heap.size w w') : CallAt w' b o c sv sw := by
  have hb : b < w.heap.size := by obtain ⟨o', ho, _⟩ := cells_of_cell h.k; exact lt_of_block ho
  have q : ∀ o, w'.cell? ⟨b, o, none⟩ = w.cell? ⟨b, o, none⟩ := fun o => hB.cell (p := ⟨b, o, none⟩) hb
  exact ⟨(q _).trans h.k, (q _).trans h.v0, (q _).trans h.v1, (q _).trans h.v2, (q _).trans h.v3, (q _).trans h.w0, (q _).trans h.w1, (q _).trans h.w2, (q _).trans h.w3, (q _).trans h.id, h.rv.below hB, h.rw.below hB, h.ri, h.rk⟩
theorem IsC.below {w w' : World} {v : Value} {cs : List CallD} (h : IsC w v cs) (hB : Below w.heap.size w w') : IsC w' v cs := by
  obtain ⟨a, cp, h1, h2, h3⟩ := h
  refine ⟨a, cp, h1, h2, fun i c hc => ?_⟩
  obtain ⟨b, o, sv, sw, e, hC⟩ := h3 i c hc
  exact ⟨b, o, sv, sw, e, hC.below hB⟩
theorem RawOk.slice {w : World} {r : RawD} {sl : Value} (h : RawOk w r sl) : ∃ a n c, sl = .slice a n c := by obtain ⟨_, a, c, h, _⟩ := h.l; exact ⟨_, _, _, h⟩
/-- raw numbers in a box -/
def rawObj (r : RawD) (sl : Value) : Obj := .cells #[.int .i64 r.k, .int .i64 r.n, .string r.s, sl] 25 (0, 0)
theorem raw_cells {w : World} {b : Nat} {r : RawD} {sl : Value} (h : w.heap[b]? = some (rawObj r sl)) : w.cell? ⟨b, 0, none⟩ = some (.int .i64 r.k) ∧ w.cell? ⟨b, 1, none⟩ = some (.int .i64 r.n) ∧ w.cell? ⟨b, 2, none⟩ = some (.string r.s) ∧ w.cell? ⟨b, 3, none⟩ = some sl := by
  unfold rawObj at h
  simp [World.cell?, h]
theorem same_true {l : List Int} {u v : Value} {w : World} (hl : IsI w u l) (hr : IsI w v l) : Calls Tryd.prog 13 #[u, v] w fun e w' => e = .returned (.bool true) ∧ Below w.heap.size w w' :=
  (sameInts_any l l u v w hl hr).mono fun _ _ h => by simpa using h

set_option maxHeartbeats 8000000 in
theorem order_law (cs : List CallD) (rv rw_ : RawD) (vc sv sw : Value) (w : World) (hT : Tabs w) (hc : IsC w vc cs) (hv : RawOk w rv sv) (hw : RawOk w rw_ sw) :
    Calls Tryd.prog 4 #[vc, rawV rv sv, rawV rw_ sw] w fun e w' => e = .returned (.bool true) ∧ Below w.heap.size w w' := by
  obtain ⟨va, vn, vc', rfl⟩ := hv.slice
  obtain ⟨wa, wn, wc, rfl⟩ := hw.slice
  obtain ⟨ca, cp, rfl, _⟩ : ∃ a c, vc = .slice a cs.length c ∧ True := by obtain ⟨a, c, h, _⟩ := hc; exact ⟨a, c, h, trivial⟩
  have HT := Lib.hid hT
  have HC := Lib.hid hc
  have HV := Lib.hid hv
  have HW := Lib.hid hw
  clear hT hc hv hw
  have B0 : Hid (Below w.heap.size w ((w.alloc (rawObj rv (.slice va vn vc'))).alloc (rawObj rw_ (.slice wa wn wc)))) := ((Below.refl _ w).alloc (Nat.le_refl _) _).alloc (by simp) _
  unfold rawV
  go_enter Tryd.func4, Tryd.ntmps4
  go_wp2_with fail
  refine (awake_any _ (HT.out.below B0.out)).mono ?_
  rintro e w1 ⟨rfl, b1⟩
  have z1 : w.heap.size + 2 ≤ w1.heap.size := by have := b1.size; simpa using this
  have R1 : Hid (w1.heap[w.heap.size]? = some (rawObj rv (.slice va vn vc'))) := (b1.block _ (by simp; omega)).trans ((Below.heap_alloc _ _ _ (by simp)).trans (new_block w _ _ rfl))
  have R2 : Hid (w1.heap[w.heap.size + 1]? = some (rawObj rw_ (.slice wa wn wc))) := (b1.block _ (by simp)).trans (new_block _ _ _ (by simp))
  have B1 : Hid (Below w.heap.size w w1) := B0.out.trans (b1.mono (by simp; omega))
  clear b1
  go_wp2_with fail
  refine (made_any cs false _ w1 (HT.out.below B1.out) (HC.out.below B1.out)).mono ?_
  rintro e w2 ⟨xb, rfl, o2⟩
  have OX := Lib.hid o2
  have B2 : Hid (Below w.heap.size w w2) := B1.out.trans (o2.b.mono (by omega))
  have z2 := o2.b.size
  clear o2
  go_wp2_with fail
  refine (made_any cs true _ w2 (HT.out.below B2.out) (HC.out.below B2.out)).mono ?_
  rintro e w3 ⟨yb, rfl, o3⟩
  rw [madeL_back] at o3
  have X := Lib.hid (OX.out.x.below o3.b)
  have Y := Lib.hid o3.x
  have B3 : Hid (Below w.heap.size w w3) := B2.out.trans (o3.b.mono (by omega))
  have z3 := o3.b.size
  have R3 : Hid (w3.heap[w.heap.size]? = some (rawObj rv (.slice va vn vc'))) := (o3.b.block _ (by omega)).trans ((OX.out.b.block _ (by omega)).trans R1.out)
  have R4 : Hid (w3.heap[w.heap.size + 1]? = some (rawObj rw_ (.slice wa wn wc))) := (o3.b.block _ (by omega)).trans ((OX.out.b.block _ (by omega)).trans R2.out)
  clear o3
  have hml : (madeL (pairsOf cs false)).length ≤ 40 := made_forty cs
  generalize madeL (pairsOf cs false) = L at *
  obtain ⟨c0, c1, c2, c3⟩ := raw_cells R3.out
  obtain ⟨d0, d1, d2, d3⟩ := raw_cells R4.out
  have hl1 : w.heap.size < w3.heap.size := by omega
  have hl2 : w.heap.size + 1 < w3.heap.size := by omega
  have T := Lib.hid (HT.out.below B3.out)
  have V := Lib.hid (HV.out.below B3.out)
  have U := Lib.hid (HW.out.below B3.out)
  have SV := Lib.hid (szV_raw HV.out)
  have SW := Lib.hid (szV_raw HW.out)
  go_wp2_with fail
  have BB := Lib.hid ((Below.refl w3.heap.size w3).drew)
  replace X := Lib.hid (X.out.below BB.out)
  replace Y := Lib.hid (Y.out.below BB.out)
  replace T := Lib.hid (T.out.below BB.out)
  replace V := Lib.hid (V.out.below BB.out)
  replace U := Lib.hid (U.out.below BB.out)
  refine wp_sched (fun W => Below w3.heap.size w3 W) [(0, true), (1, true), (2, true), (4, true), (3, false), (5, false), (6, true), (7, true), (8, true), (9, true), (10, true), (13, true), (14, true), (11, false), (12, false), (15, false), (16, false), (17, false), (18, true), (19, true), (20, true), (21, true), (23, true), (26, true), (27, true), (29, true), (22, false), (24, false), (25, false), (28, false), (30, false), (31, false), (32, false), (33, true), (34, true)] (by kernel_rfl) (by kernel_rfl) (fun _ _ _ _ _ h => h) BB.out ?_
  refine wpSched_read rfl (Or.inl ⟨by rfl, fun W hS => by obtain ⟨hcS, _⟩ := bcell hS; clear hS; go_simp; try with_reducible rfl⟩) ?_
  go_simp
  refine wpSched_read rfl (Or.inl ⟨by rfl, fun W hS => by obtain ⟨hcS, _⟩ := bcell hS; clear hS; go_simp; try with_reducible rfl⟩) ?_
  go_simp
  refine wpSched_read rfl (Or.inl ⟨by rfl, fun W hS => by obtain ⟨hcS, _⟩ := bcell hS; clear hS; go_simp; try with_reducible rfl⟩) ?_
  go_simp
  refine wpSched_read rfl (Or.inl ⟨by rfl, fun W hS => by obtain ⟨hcS, _⟩ := bcell hS; clear hS; go_simp; try with_reducible rfl⟩) ?_
  go_simp
  refine wpSched_do rfl (fun K hK => ?_)
  go_simp
  refine (len_any _ X.out).mono ?_
  rintro e w_1 ⟨rfl, rfl⟩
  refine hK _ _ BB.out ?_
  clear hK K
  refine wpSched_do rfl (fun K hK => ?_)
  go_simp
  refine (len_any _ Y.out).mono ?_
  rintro e w_2 ⟨rfl, rfl⟩
  refine hK _ _ BB.out ?_
  clear hK K
  refine wpSched_read rfl (Or.inl ⟨by rfl, fun W hS => by obtain ⟨hcS, _⟩ := bcell hS; clear hS; go_simp; try with_reducible rfl⟩) ?_
  go_simp
  refine wpSched_read rfl (Or.inl ⟨by rfl, fun W hS => by obtain ⟨hcS, _⟩ := bcell hS; clear hS; go_simp; try with_reducible rfl⟩) ?_
  go_simp
  refine wpSched_read rfl (Or.inl ⟨by rfl, fun W hS => by obtain ⟨hcS, _⟩ := bcell hS; clear hS; go_simp; try with_reducible rfl⟩) ?_
  go_simp
  refine wpSched_read rfl (Or.inl ⟨by rfl, fun W hS => by obtain ⟨hcS, _⟩ := bcell hS; clear hS; go_simp; try with_reducible rfl⟩) ?_
  go_simp
  refine wpSched_read rfl (Or.inl ⟨by rfl, fun W hS => by obtain ⟨hcS, _⟩ := bcell hS; clear hS; go_simp; try with_reducible rfl⟩) ?_
  go_simp
  refine wpSched_read rfl (Or.inl ⟨by rfl, fun W hS => by obtain ⟨hcS, _⟩ := bcell hS; clear hS; go_simp; try with_reducible rfl⟩) ?_
  go_simp
  refine wpSched_read rfl (Or.inl ⟨by rfl, fun W hS => by obtain ⟨hcS, _⟩ := bcell hS; clear hS; go_simp; try with_reducible rfl⟩) ?_
  go_simp
  refine wpSched_do rfl (fun K hK => ?_)
  go_simp
  refine (val_any rv _ _ V.out).mono ?_
  intro e w_3 hG
  obtain ⟨vv, rfl, iv, bv⟩ := hG
  obtain ⟨sl3, rfl, il⟩ := iv
  obtain ⟨la3, ln3, lc3, rfl⟩ := il.1.slice
  have A1 : Hid (IsVx w_3 _ (rawVal rv)) := ⟨_, rfl, il⟩
  replace X := Lib.hid (X.out.below bv)
  replace Y := Lib.hid (Y.out.below bv)
  replace T := Lib.hid (T.out.below bv)
  replace V := Lib.hid (V.out.below bv)
  replace U := Lib.hid (U.out.below bv)
  replace BB := Lib.hid (BB.out.trans (bv.mono BB.out.size))
  refine hK _ _ BB.out ?_
  clear hK K bv il
  refine wpSched_do rfl (fun K hK => ?_)
  go_simp
  refine (find_any (rawVal rv) _ _ T.out SV.out A1.out X.out (by omega)).mono ?_
  intro e w_4 hG
  obtain ⟨vv, rfl, ii, bv⟩ := hG
  obtain ⟨ia4, ic4, rfl⟩ := ii.len
  have I1 := Lib.hid ii
  replace X := Lib.hid (X.out.below bv)
  replace Y := Lib.hid (Y.out.below bv)
  replace T := Lib.hid (T.out.below bv)
  replace V := Lib.hid (V.out.below bv)
  replace U := Lib.hid (U.out.below bv)
  replace A1 := Lib.hid (A1.out.below bv)
  replace BB := Lib.hid (BB.out.trans (bv.mono BB.out.size))
  refine hK _ _ BB.out ?_
  clear hK K bv ii
  clear A1
  refine wpSched_do rfl (fun K hK => ?_)
  go_simp
  refine (val_any rv _ _ V.out).mono ?_
  intro e w_5 hG
  obtain ⟨vv, rfl, iv, bv⟩ := hG
  obtain ⟨sl5, rfl, il⟩ := iv
  obtain ⟨la5, ln5, lc5, rfl⟩ := il.1.slice
  have A2 : Hid (IsVx w_5 _ (rawVal rv)) := ⟨_, rfl, il⟩
  replace X := Lib.hid (X.out.below bv)
  replace Y := Lib.hid (Y.out.below bv)
  replace T := Lib.hid (T.out.below bv)
  replace V := Lib.hid (V.out.below bv)
  replace U := Lib.hid (U.out.below bv)
  replace I1 := Lib.hid (I1.out.below bv)
  replace BB := Lib.hid (BB.out.trans (bv.mono BB.out.size))
  refine hK _ _ BB.out ?_
  clear hK K bv il
  refine wpSched_do rfl (fun K hK => ?_)
  go_simp
  refine (find_any (rawVal rv) _ _ T.out SV.out A2.out Y.out (by omega)).mono ?_
  intro e w_6 hG
  obtain ⟨vv, rfl, ii, bv⟩ := hG
  obtain ⟨ia6, ic6, rfl⟩ := ii.len
  have I2 := Lib.hid ii
  replace X := Lib.hid (X.out.below bv)
  replace Y := Lib.hid (Y.out.below bv)
  replace T := Lib.hid (T.out.below bv)
  replace V := Lib.hid (V.out.below bv)
  replace U := Lib.hid (U.out.below bv)
  replace I1 := Lib.hid (I1.out.below bv)
  replace A2 := Lib.hid (A2.out.below bv)
  replace BB := Lib.hid (BB.out.trans (bv.mono BB.out.size))
  refine hK _ _ BB.out ?_
  clear hK K bv ii
  clear A2
  refine wpSched_do rfl (fun K hK => ?_)
  go_simp
  refine (same_true I1.out I2.out).mono ?_
  rintro e w_7 ⟨rfl, bv⟩
  replace X := Lib.hid (X.out.below bv)
  replace Y := Lib.hid (Y.out.below bv)
  replace T := Lib.hid (T.out.below bv)
  replace V := Lib.hid (V.out.below bv)
  replace U := Lib.hid (U.out.below bv)
  replace I1 := Lib.hid (I1.out.below bv)
  replace I2 := Lib.hid (I2.out.below bv)
  replace BB := Lib.hid (BB.out.trans (bv.mono BB.out.size))
  refine hK _ _ BB.out ?_
  clear hK K bv
  clear I1 I2
  refine wpSched_read rfl (Or.inl ⟨by rfl, fun W hS => by obtain ⟨hcS, _⟩ := bcell hS; clear hS; go_simp; try with_reducible rfl⟩) ?_
  go_simp
  refine wpSched_read rfl (Or.inl ⟨by rfl, fun W hS => by obtain ⟨hcS, _⟩ := bcell hS; clear hS; go_simp; try with_reducible rfl⟩) ?_
  go_simp
  refine wpSched_read rfl (Or.inl ⟨by rfl, fun W hS => by obtain ⟨hcS, _⟩ := bcell hS; clear hS; go_simp; try with_reducible rfl⟩) ?_
  go_simp
  refine wpSched_read rfl (Or.inl ⟨by rfl, fun W hS => by obtain ⟨hcS, _⟩ := bcell hS; clear hS; go_simp; try with_reducible rfl⟩) ?_
  go_simp
  refine wpSched_read rfl (Or.inl ⟨by rfl, fun W hS => by obtain ⟨hcS, _⟩ := bcell hS; clear hS; go_simp; try with_reducible rfl⟩) ?_
  go_simp
  refine wpSched_read rfl (Or.inl ⟨by rfl, fun W hS => by obtain ⟨hcS, _⟩ := bcell hS; clear hS; go_simp; try with_reducible rfl⟩) ?_
  go_simp
  refine wpSched_read rfl (Or.inl ⟨by rfl, fun W hS => by obtain ⟨hcS, _⟩ := bcell hS; clear hS; go_simp; try with_reducible rfl⟩) ?_
  go_simp
  refine wpSched_read rfl (Or.inl ⟨by rfl, fun W hS => by obtain ⟨hcS, _⟩ := bcell hS; clear hS; go_simp; try with_reducible rfl⟩) ?_
  go_simp
  refine wpSched_do rfl (fun K hK => ?_)
  go_simp
  refine (val_any rv _ _ V.out).mono ?_
  intro e w_8 hG
  obtain ⟨vv, rfl, iv, bv⟩ := hG
  obtain ⟨sl8, rfl, il⟩ := iv
  obtain ⟨la8, ln8, lc8, rfl⟩ := il.1.slice
  have A1 : Hid (IsVx w_8 _ (rawVal rv)) := ⟨_, rfl, il⟩
  replace X := Lib.hid (X.out.below bv)
  replace Y := Lib.hid (Y.out.below bv)
  replace T := Lib.hid (T.out.below bv)
  replace V := Lib.hid (V.out.below bv)
  replace U := Lib.hid (U.out.below bv)
  replace BB := Lib.hid (BB.out.trans (bv.mono BB.out.size))
  refine hK _ _ BB.out ?_
  clear hK K bv il
  refine wpSched_do rfl (fun K hK => ?_)
  go_simp
  refine (val_any rw_ _ _ U.out).mono ?_
  intro e w_9 hG
  obtain ⟨vv, rfl, iv, bv⟩ := hG
  obtain ⟨sl9, rfl, il⟩ := iv
  obtain ⟨la9, ln9, lc9, rfl⟩ := il.1.slice
  have A2 : Hid (IsVx w_9 _ (rawVal rw_)) := ⟨_, rfl, il⟩
  replace X := Lib.hid (X.out.below bv)
  replace Y := Lib.hid (Y.out.below bv)
  replace T := Lib.hid (T.out.below bv)
  replace V := Lib.hid (V.out.below bv)
  replace U := Lib.hid (U.out.below bv)
  replace A1 := Lib.hid (A1.out.below bv)
  replace BB := Lib.hid (BB.out.trans (bv.mono BB.out.size))
  refine hK _ _ BB.out ?_
  clear hK K bv il
  refine wpSched_do rfl (fun K hK => ?_)
  go_simp
  refine (range_any (rawVal rv) (rawVal rw_) _ _ _ T.out SV.out SW.out A1.out A2.out X.out (by omega)).mono ?_
  intro e w_10 hG
  obtain ⟨vv, rfl, ii, bv⟩ := hG
  obtain ⟨ia10, ic10, rfl⟩ := ii.len
  have I1 := Lib.hid ii
  replace X := Lib.hid (X.out.below bv)
  replace Y := Lib.hid (Y.out.below bv)
  replace T := Lib.hid (T.out.below bv)
  replace V := Lib.hid (V.out.below bv)
  replace U := Lib.hid (U.out.below bv)
  replace A1 := Lib.hid (A1.out.below bv)
  replace A2 := Lib.hid (A2.out.below bv)
  replace BB := Lib.hid (BB.out.trans (bv.mono BB.out.size))
  refine hK _ _ BB.out ?_
  clear hK K bv ii
  clear A1 A2
  refine wpSched_do rfl (fun K hK => ?_)
  go_simp
  refine (val_any rv _ _ V.out).mono ?_
  intro e w_11 hG
  obtain ⟨vv, rfl, iv, bv⟩ := hG
  obtain ⟨sl11, rfl, il⟩ := iv
  obtain ⟨la11, ln11, lc11, rfl⟩ := il.1.slice
  have A1 : Hid (IsVx w_11 _ (rawVal rv)) := ⟨_, rfl, il⟩
  replace X := Lib.hid (X.out.below bv)
  replace Y := Lib.hid (Y.out.below bv)
  replace T := Lib.hid (T.out.below bv)
  replace V := Lib.hid (V.out.below bv)
  replace U := Lib.hid (U.out.below bv)
  replace I1 := Lib.hid (I1.out.below bv)
  replace BB := Lib.hid (BB.out.trans (bv.mono BB.out.size))
  refine hK _ _ BB.out ?_
  clear hK K bv il
  refine wpSched_do rfl (fun K hK => ?_)
  go_simp
  refine (val_any rw_ _ _ U.out).mono ?_
  intro e w_12 hG
  obtain ⟨vv, rfl, iv, bv⟩ := hG
  obtain ⟨sl12, rfl, il⟩ := iv
  obtain ⟨la12, ln12, lc12, rfl⟩ := il.1.slice
  have A2 : Hid (IsVx w_12 _ (rawVal rw_)) := ⟨_, rfl, il⟩
  replace X := Lib.hid (X.out.below bv)
  replace Y := Lib.hid (Y.out.below bv)
  replace T := Lib.hid (T.out.below bv)
  replace V := Lib.hid (V.out.below bv)
  replace U := Lib.hid (U.out.below bv)
  replace I1 := Lib.hid (I1.out.below bv)
  replace A1 := Lib.hid (A1.out.below bv)
  replace BB := Lib.hid (BB.out.trans (bv.mono BB.out.size))
  refine hK _ _ BB.out ?_
  clear hK K bv il
  refine wpSched_do rfl (fun K hK => ?_)
  go_simp
  refine (range_any (rawVal rv) (rawVal rw_) _ _ _ T.out SV.out SW.out A1.out A2.out Y.out (by omega)).mono ?_
  intro e w_13 hG
  obtain ⟨vv, rfl, ii, bv⟩ := hG
  obtain ⟨ia13, ic13, rfl⟩ := ii.len
  have I2 := Lib.hid ii
  replace X := Lib.hid (X.out.below bv)
  replace Y := Lib.hid (Y.out.below bv)
  replace T := Lib.hid (T.out.below bv)
  replace V := Lib.hid (V.out.below bv)
  replace U := Lib.hid (U.out.below bv)
  replace I1 := Lib.hid (I1.out.below bv)
  replace A1 := Lib.hid (A1.out.below bv)
  replace A2 := Lib.hid (A2.out.below bv)
  replace BB := Lib.hid (BB.out.trans (bv.mono BB.out.size))
  refine hK _ _ BB.out ?_
  clear hK K bv ii
  clear A1 A2
  refine wpSched_do rfl (fun K hK => ?_)
  go_simp
  refine (same_true I1.out I2.out).mono ?_
  rintro e w_14 ⟨rfl, bv⟩
  replace X := Lib.hid (X.out.below bv)
  replace Y := Lib.hid (Y.out.below bv)
  replace T := Lib.hid (T.out.below bv)
  replace V := Lib.hid (V.out.below bv)
  replace U := Lib.hid (U.out.below bv)
  replace I1 := Lib.hid (I1.out.below bv)
  replace I2 := Lib.hid (I2.out.below bv)
  replace BB := Lib.hid (BB.out.trans (bv.mono BB.out.size))
  refine hK _ _ BB.out ?_
  clear hK K bv
  refine wpSched_read rfl (Or.inl ⟨by rfl, fun W hS => by obtain ⟨hcS, _⟩ := bcell hS; clear hS; go_simp; try with_reducible rfl⟩) ?_
  go_simp
  refine wpSched_read rfl (Or.inl ⟨by rfl, fun W hS => by obtain ⟨hcS, _⟩ := bcell hS; clear hS; go_simp; try with_reducible rfl⟩) ?_
  go_simp
  refine wpSched_done ?_
  go_wp2_with fail
  go_ret
  exact ⟨by simp, B3.out.trans (BB.out.mono (by omega))⟩
end Go.Proofs.YtifaaacbbjlffaaDoor
