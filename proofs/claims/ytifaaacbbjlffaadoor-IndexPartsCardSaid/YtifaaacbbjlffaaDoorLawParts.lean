/- The walk of IndexParts: it tells true. -/
import Derived.Test.YtifaaacbbjlffaaDoorPartsPlain
import Derived.Test.YtifaaacbbjlffaaDoorAppInts
namespace Go.Proofs.YtifaaacbbjlffaaDoor
open Go.RowKit Mor

/-- what the walk of IndexParts knows: the world, the three values' boxes -/
structure PS (W : World) (rv rw_ ru : RawD) (xb ab bb mb base : Nat) (sa sb sm : Value) (L : List Pr) : Prop where
  t : Tabs W
  x : IsX base W xb L
  a : W.heap[ab]? = some (valObj (rawVal rv) sa)
  al : IsLt W sa (rawVal rv).l
  b : W.heap[bb]? = some (valObj (rawVal rw_) sb)
  bl : IsLt W sb (rawVal rw_).l
  m : W.heap[mb]? = some (valObj (rawVal ru) sm)
  ml : IsLt W sm (rawVal ru).l
theorem PS.below {W W' : World} {rv rw_ ru : RawD} {xb ab bb mb base : Nat} {sa sb sm : Value} {L : List Pr} (h : PS W rv rw_ ru xb ab bb mb base sa sb sm L) (hB : Below W.heap.size W W') : PS W' rv rw_ ru xb ab bb mb base sa sb sm L :=
  ⟨h.t.below hB, h.x.below hB, (hB.block _ (lt_of_block h.a)).trans h.a, h.al.below hB, (hB.block _ (lt_of_block h.b)).trans h.b, h.bl.below hB, (hB.block _ (lt_of_block h.m)).trans h.m, h.ml.below hB⟩

theorem from_named {W : World} {a : Option Addr} {c n k : Nat} {l : List Int} (h : IsI W (.slice a n c) l) (hk : k ≤ n) : ∃ a' c', ((if c = k then a else Option.map (fun x => x.add k) a) = a' ∧ c - k = c') ∧ IsI W (.slice a' (n - k) c') (l.drop k) :=
  ⟨_, _, ⟨rfl, rfl⟩, by have := isI_from h hk; unfold sliced at this; rw [Nat.mul_one] at this; exact this⟩
theorem to_named {W : World} {a : Option Addr} {c n k : Nat} {l : List Int} (h : IsI W (.slice a n c) l) (hk : k ≤ n) : IsI W (.slice a k c) (l.take k) := by have := isI_to h hk; simpa [sliced, Addr.add_zero'] using this
theorem beside_after {q : World} {base : Nat} {r : Value} {l : List Int} (hi : IsI q r l) (hb : base ≤ q.heap.size) : Beside (q.alloc (.cells #[] 3)) base (.slice (some ⟨q.heap.size, 0, none⟩) 0 0) [] r l := by
  refine ⟨World.ownsRow_made q #[] 0 hb (by unfold maxLen; omega) rfl, hi.below ((Below.refl _ q).alloc (Nat.le_refl _) _), ?_, by simp; omega⟩
  cases l with
  | nil => exact .inl rfl
  | cons x l =>
    right
    intro a n c e
    subst e
    obtain ⟨a', c', e, _, _, _, _, h6⟩ := hi
    obtain ⟨_, ad, arr, fr, had, hbk⟩ := h6 0 x rfl
    cases e
    cases had
    have := lt_of_block hbk
    simp only [Value.ownBlock, ne_eq, Option.some.injEq]; omega
theorem beside_before {w q : World} {base : Nat} {r : Value} {l : List Int} (hB : Below (w.alloc (.cells #[] 3)).heap.size (w.alloc (.cells #[] 3)) q) (hi : IsI q r l) (hb : base ≤ w.heap.size) : Beside q base (.slice (some ⟨w.heap.size, 0, none⟩) 0 0) [] r l := by
  have hg : q.heap[w.heap.size]? = some (.cells #[] 3 (0, 0)) := (hB.block _ (by simp)).trans (new_block w _ _ rfl)
  refine ⟨⟨rfl, .inr ⟨w.heap.size, 0, #[], rfl, hb, hg, Nat.le_refl _, by unfold maxLen; omega, rfl, rfl⟩⟩, hi, ?_, by have := lt_of_block hg; omega⟩
  cases l with
  | nil => exact .inl rfl
  | cons x l =>
    right
    intro a n c e
    subst e
    obtain ⟨a', c', e, _, _, _, _, h6⟩ := hi
    obtain ⟨⟨b, o, had, hc⟩, _⟩ := h6 0 x rfl
    cases e
    cases had
    simp only [Value.ownBlock, ne_eq, Option.some.injEq]
    rintro rfl
    simp [World.cell?, hg] at hc
theorem Beside.row {W : World} {base : Nat} {v r : Value} {l q : List Int} (h : Beside W base v l r q) (hl : l.length < 1000000) : IsI W v l := isI_own hl h.own
theorem Beside.slice {W : World} {base : Nat} {v r : Value} {l q : List Int} (h : Beside W base v l r q) : ∃ a n c, v = .slice a n c := ownsRow_slice h.own

set_option maxRecDepth 100000 in
set_option maxHeartbeats 16000000 in
theorem parts_law (cs : List CallD) (rv rw_ ru : RawD) (vc sv sw su : Value) (w : World) (hT : Tabs w) (hc : IsC w vc cs) (hv : RawOk w rv sv) (hw : RawOk w rw_ sw) (hu : RawOk w ru su) :
    Calls Tryd.prog 5 #[vc, rawV rv sv, rawV rw_ sw, rawV ru su] w fun e w' => e = .returned (.bool true) ∧ Below w.heap.size w w' := by
  obtain ⟨va, vn, vc', rfl⟩ := hv.slice
  obtain ⟨wa, wn, wc, rfl⟩ := hw.slice
  obtain ⟨ua, un, uc, rfl⟩ := hu.slice
  obtain ⟨ca, cp, rfl, hclen⟩ : ∃ a c, vc = .slice a cs.length c ∧ cs.length ≤ 9223372036854775807 := by obtain ⟨a, c, h, h2, _⟩ := hc; exact ⟨a, c, h, h2⟩
  have HT := Lib.hid hT
  have HC := Lib.hid hc
  have HV := Lib.hid hv
  have HW := Lib.hid hw
  have HU := Lib.hid hu
  have SV := Lib.hid (szV_raw hv)
  have SW := Lib.hid (szV_raw hw)
  have SU := Lib.hid (szV_raw hu)
  clear hT hc hv hw hu
  have B0 : Hid (Below w.heap.size w (((w.alloc (rawObj rv (.slice va vn vc'))).alloc (rawObj rw_ (.slice wa wn wc))).alloc (rawObj ru (.slice ua un uc)))) := (((Below.refl _ w).alloc (Nat.le_refl _) _).alloc (by simp) _).alloc (by simp; omega) _
  unfold rawV
  go_enter Tryd.func5, Tryd.ntmps5
  go_wp2_with fail
  refine (awake_any _ (HT.out.below B0.out)).mono ?_
  rintro e w1 ⟨rfl, b1⟩
  have z1 : w.heap.size + 3 ≤ w1.heap.size := by have := b1.size; simpa using this
  have RV : Hid (w1.heap[w.heap.size]? = some (rawObj rv (.slice va vn vc'))) := (b1.block _ (by simp <;> omega)).trans ((Below.heap_alloc _ _ _ (by simp; omega)).trans ((Below.heap_alloc _ _ _ (by simp)).trans (new_block w _ _ rfl)))
  have RW : Hid (w1.heap[w.heap.size + 1]? = some (rawObj rw_ (.slice wa wn wc))) := (b1.block _ (by simp <;> omega)).trans ((Below.heap_alloc _ _ _ (by simp)).trans (new_block _ _ _ (by simp)))
  have RU : Hid (w1.heap[w.heap.size + 2]? = some (rawObj ru (.slice ua un uc))) := (b1.block _ (by simp <;> omega)).trans (new_block _ _ _ (by simp))
  have B1 : Hid (Below w.heap.size w w1) := B0.out.trans (b1.mono (by simp; omega))
  have BW : Hid (∀ {W : World}, Below w1.heap.size w1 W → Below w.heap.size w W) := fun h => B1.out.trans (h.mono (by omega))
  have HT1 := Lib.hid (HT.out.below B1.out)
  clear b1
  go_wp2_with fail
  refine (made_any cs false _ w1 HT1.out (HC.out.below B1.out)).mono ?_
  rintro e w2 ⟨xb, rfl, o2⟩
  have O := Lib.hid o2
  replace RV : Hid (w2.heap[w.heap.size]? = some (rawObj rv (.slice va vn vc'))) := (o2.b.block _ (by omega)).trans RV.out
  replace RW : Hid (w2.heap[w.heap.size + 1]? = some (rawObj rw_ (.slice wa wn wc))) := (o2.b.block _ (by omega)).trans RW.out
  replace RU : Hid (w2.heap[w.heap.size + 2]? = some (rawObj ru (.slice ua un uc))) := (o2.b.block _ (by omega)).trans RU.out
  clear o2
  have hml : (madeL (pairsOf cs false)).length ≤ 40 := made_forty cs
  obtain ⟨v0, v1, v2, v3⟩ := raw_cells RV.out
  obtain ⟨u0, u1, u2, u3⟩ := raw_cells RW.out
  obtain ⟨x0, x1, x2, x3⟩ := raw_cells RU.out
  go_wp2_with fail
  refine (val_any rv _ _ (HV.out.below (BW.out O.out.b))).mono ?_
  intro e w_1 hG
  obtain ⟨vv, rfl, iv, bv⟩ := hG
  obtain ⟨sl1, rfl, il⟩ := iv
  obtain ⟨la1, ln1, lc1, rfl⟩ := il.1.slice
  have bz : Below (w2).heap.size (w2) (w_1.alloc (valObj (rawVal rv) (.slice la1 ln1 lc1))) := bv.alloc bv.size _
  replace O := Lib.hid (O.out.below bz)
  replace RV : Hid ((w_1.alloc (valObj (rawVal rv) (.slice la1 ln1 lc1))).heap[w.heap.size]? = some (rawObj rv (.slice va vn vc'))) := (bz.block _ (lt_of_block RV.out)).trans RV.out
  replace RW : Hid ((w_1.alloc (valObj (rawVal rv) (.slice la1 ln1 lc1))).heap[w.heap.size + 1]? = some (rawObj rw_ (.slice wa wn wc))) := (bz.block _ (lt_of_block RW.out)).trans RW.out
  replace RU : Hid ((w_1.alloc (valObj (rawVal rv) (.slice la1 ln1 lc1))).heap[w.heap.size + 2]? = some (rawObj ru (.slice ua un uc))) := (bz.block _ (lt_of_block RU.out)).trans RU.out
  have AB : Hid ((w_1.alloc (valObj (rawVal rv) (.slice la1 ln1 lc1))).heap[w_1.heap.size]? = some (valObj (rawVal rv) (.slice la1 ln1 lc1))) := new_block w_1 _ _ rfl
  have AL : Hid (IsLt (w_1.alloc (valObj (rawVal rv) (.slice la1 ln1 lc1))) (.slice la1 ln1 lc1) (rawVal rv).l) := il.below ((Below.refl _ w_1).alloc (Nat.le_refl _) _)
  clear v0 v1 v2 v3 u0 u1 u2 u3 x0 x1 x2 x3
  clear bz bv il
  obtain ⟨v0, v1, v2, v3⟩ := raw_cells RV.out
  obtain ⟨u0, u1, u2, u3⟩ := raw_cells RW.out
  obtain ⟨x0, x1, x2, x3⟩ := raw_cells RU.out
  obtain ⟨a0, a1, a2, a3⟩ := val_cells AB.out
  unfold valObj at v0 v1 v2 v3 u0 u1 u2 u3 x0 x1 x2 x3 a0 a1 a2 a3
  go_wp2_with fail
  refine (val_any rw_ _ _ (HW.out.below (BW.out O.out.b))).mono ?_
  intro e w_2 hG
  obtain ⟨vv, rfl, iv, bv⟩ := hG
  obtain ⟨sl2, rfl, il⟩ := iv
  obtain ⟨la2, ln2, lc2, rfl⟩ := il.1.slice
  have bz : Below (w_1.alloc (valObj (rawVal rv) (.slice la1 ln1 lc1))).heap.size (w_1.alloc (valObj (rawVal rv) (.slice la1 ln1 lc1))) (w_2.alloc (valObj (rawVal rw_) (.slice la2 ln2 lc2))) := bv.alloc bv.size _
  replace O := Lib.hid (O.out.below bz)
  replace RV : Hid ((w_2.alloc (valObj (rawVal rw_) (.slice la2 ln2 lc2))).heap[w.heap.size]? = some (rawObj rv (.slice va vn vc'))) := (bz.block _ (lt_of_block RV.out)).trans RV.out
  replace RW : Hid ((w_2.alloc (valObj (rawVal rw_) (.slice la2 ln2 lc2))).heap[w.heap.size + 1]? = some (rawObj rw_ (.slice wa wn wc))) := (bz.block _ (lt_of_block RW.out)).trans RW.out
  replace RU : Hid ((w_2.alloc (valObj (rawVal rw_) (.slice la2 ln2 lc2))).heap[w.heap.size + 2]? = some (rawObj ru (.slice ua un uc))) := (bz.block _ (lt_of_block RU.out)).trans RU.out
  replace AB : Hid ((w_2.alloc (valObj (rawVal rw_) (.slice la2 ln2 lc2))).heap[w_1.heap.size]? = some (valObj (rawVal rv) (.slice la1 ln1 lc1))) := (bz.block _ (lt_of_block AB.out)).trans AB.out
  replace AL := Lib.hid (AL.out.below bz)
  have DB : Hid ((w_2.alloc (valObj (rawVal rw_) (.slice la2 ln2 lc2))).heap[w_2.heap.size]? = some (valObj (rawVal rw_) (.slice la2 ln2 lc2))) := new_block w_2 _ _ rfl
  have DL : Hid (IsLt (w_2.alloc (valObj (rawVal rw_) (.slice la2 ln2 lc2))) (.slice la2 ln2 lc2) (rawVal rw_).l) := il.below ((Below.refl _ w_2).alloc (Nat.le_refl _) _)
  clear v0 v1 v2 v3 u0 u1 u2 u3 x0 x1 x2 x3 a0 a1 a2 a3
  clear bz bv il
  obtain ⟨v0, v1, v2, v3⟩ := raw_cells RV.out
  obtain ⟨u0, u1, u2, u3⟩ := raw_cells RW.out
  obtain ⟨x0, x1, x2, x3⟩ := raw_cells RU.out
  obtain ⟨a0, a1, a2, a3⟩ := val_cells AB.out
  obtain ⟨b0, b1, b2, b3⟩ := val_cells DB.out
  unfold valObj at v0 v1 v2 v3 u0 u1 u2 u3 x0 x1 x2 x3 a0 a1 a2 a3 b0 b1 b2 b3
  go_wp2_with fail
  refine (val_any ru _ _ (HU.out.below (BW.out O.out.b))).mono ?_
  intro e w_3 hG
  obtain ⟨vv, rfl, iv, bv⟩ := hG
  obtain ⟨sl3, rfl, il⟩ := iv
  obtain ⟨la3, ln3, lc3, rfl⟩ := il.1.slice
  have bz : Below (w_2.alloc (valObj (rawVal rw_) (.slice la2 ln2 lc2))).heap.size (w_2.alloc (valObj (rawVal rw_) (.slice la2 ln2 lc2))) (w_3.alloc (valObj (rawVal ru) (.slice la3 ln3 lc3))) := bv.alloc bv.size _
  replace O := Lib.hid (O.out.below bz)
  replace RV : Hid ((w_3.alloc (valObj (rawVal ru) (.slice la3 ln3 lc3))).heap[w.heap.size]? = some (rawObj rv (.slice va vn vc'))) := (bz.block _ (lt_of_block RV.out)).trans RV.out
  replace RW : Hid ((w_3.alloc (valObj (rawVal ru) (.slice la3 ln3 lc3))).heap[w.heap.size + 1]? = some (rawObj rw_ (.slice wa wn wc))) := (bz.block _ (lt_of_block RW.out)).trans RW.out
  replace RU : Hid ((w_3.alloc (valObj (rawVal ru) (.slice la3 ln3 lc3))).heap[w.heap.size + 2]? = some (rawObj ru (.slice ua un uc))) := (bz.block _ (lt_of_block RU.out)).trans RU.out
  replace AB : Hid ((w_3.alloc (valObj (rawVal ru) (.slice la3 ln3 lc3))).heap[w_1.heap.size]? = some (valObj (rawVal rv) (.slice la1 ln1 lc1))) := (bz.block _ (lt_of_block AB.out)).trans AB.out
  replace AL := Lib.hid (AL.out.below bz)
  replace DB : Hid ((w_3.alloc (valObj (rawVal ru) (.slice la3 ln3 lc3))).heap[w_2.heap.size]? = some (valObj (rawVal rw_) (.slice la2 ln2 lc2))) := (bz.block _ (lt_of_block DB.out)).trans DB.out
  replace DL := Lib.hid (DL.out.below bz)
  have EB : Hid ((w_3.alloc (valObj (rawVal ru) (.slice la3 ln3 lc3))).heap[w_3.heap.size]? = some (valObj (rawVal ru) (.slice la3 ln3 lc3))) := new_block w_3 _ _ rfl
  have EL : Hid (IsLt (w_3.alloc (valObj (rawVal ru) (.slice la3 ln3 lc3))) (.slice la3 ln3 lc3) (rawVal ru).l) := il.below ((Below.refl _ w_3).alloc (Nat.le_refl _) _)
  clear v0 v1 v2 v3 u0 u1 u2 u3 x0 x1 x2 x3 a0 a1 a2 a3 b0 b1 b2 b3
  clear bz bv il
  obtain ⟨v0, v1, v2, v3⟩ := raw_cells RV.out
  obtain ⟨u0, u1, u2, u3⟩ := raw_cells RW.out
  obtain ⟨x0, x1, x2, x3⟩ := raw_cells RU.out
  obtain ⟨a0, a1, a2, a3⟩ := val_cells AB.out
  obtain ⟨b0, b1, b2, b3⟩ := val_cells DB.out
  obtain ⟨e0, e1, e2, e3⟩ := val_cells EB.out
  unfold valObj at v0 v1 v2 v3 u0 u1 u2 u3 x0 x1 x2 x3 a0 a1 a2 a3 b0 b1 b2 b3 e0 e1 e2 e3
  have PZ : Hid (PS (w_3.alloc (valObj (rawVal ru) (.slice la3 ln3 lc3))) rv rw_ ru xb w_1.heap.size w_2.heap.size w_3.heap.size w1.heap.size (.slice la1 ln1 lc1) (.slice la2 ln2 lc2) (.slice la3 ln3 lc3) (madeL (pairsOf cs false))) := ⟨HT1.out.below O.out.b, O.out.x, AB.out, AL.out, DB.out, DL.out, EB.out, EL.out⟩
  have BZ : Hid (Below w.heap.size w (w_3.alloc (valObj (rawVal ru) (.slice la3 ln3 lc3)))) := BW.out O.out.b
  clear v0 v1 v2 v3 u0 u1 u2 u3 x0 x1 x2 x3 a0 a1 a2 a3 b0 b1 b2 b3 e0 e1 e2 e3
  clear RV RW RU O AB AL DB DL EB EL HT HT1 HC HV HW HU B0 B1 BW z1
  have HP := Lib.hid (fun (h : cmpV (rawVal rv) (rawVal ru) ≤ 0) (h2 : cmpV (rawVal ru) (rawVal rw_) ≤ 0) => parts h h2 (sorted_madeL (pairsOf cs false)))
  have HE := Lib.hid (fun (h : 0 < cmpV (rawVal rv) (rawVal rw_)) => rng_empty h (madeL (pairsOf cs false)))
  generalize madeL (pairsOf cs false) = L at *
  have CLM := Lib.hid (fun W (h : PS W rv rw_ ru xb w_1.heap.size w_2.heap.size w_3.heap.size w1.heap.size (.slice la1 ln1 lc1) (.slice la2 ln2 lc2) (.slice la3 ln3 lc3) L) => compare_any (rawVal rv) (rawVal ru) (.agg #[.int .i64 (rawVal rv).k, .int .i64 (rawVal rv).n, .string (rawVal rv).s, .slice la1 ln1 lc1]) (.agg #[.int .i64 (rawVal ru).k, .int .i64 (rawVal ru).n, .string (rawVal ru).s, .slice la3 ln3 lc3]) W ⟨_, rfl, h.al.1⟩ ⟨_, rfl, h.ml.1⟩)
  have CMH := Lib.hid (fun W (h : PS W rv rw_ ru xb w_1.heap.size w_2.heap.size w_3.heap.size w1.heap.size (.slice la1 ln1 lc1) (.slice la2 ln2 lc2) (.slice la3 ln3 lc3) L) => compare_any (rawVal ru) (rawVal rw_) (.agg #[.int .i64 (rawVal ru).k, .int .i64 (rawVal ru).n, .string (rawVal ru).s, .slice la3 ln3 lc3]) (.agg #[.int .i64 (rawVal rw_).k, .int .i64 (rawVal rw_).n, .string (rawVal rw_).s, .slice la2 ln2 lc2]) W ⟨_, rfl, h.ml.1⟩ ⟨_, rfl, h.bl.1⟩)
  have CLH := Lib.hid (fun W (h : PS W rv rw_ ru xb w_1.heap.size w_2.heap.size w_3.heap.size w1.heap.size (.slice la1 ln1 lc1) (.slice la2 ln2 lc2) (.slice la3 ln3 lc3) L) => compare_any (rawVal rv) (rawVal rw_) (.agg #[.int .i64 (rawVal rv).k, .int .i64 (rawVal rv).n, .string (rawVal rv).s, .slice la1 ln1 lc1]) (.agg #[.int .i64 (rawVal rw_).k, .int .i64 (rawVal rw_).n, .string (rawVal rw_).s, .slice la2 ln2 lc2]) W ⟨_, rfl, h.al.1⟩ ⟨_, rfl, h.bl.1⟩)
  have RLM := Lib.hid (fun W (h : PS W rv rw_ ru xb w_1.heap.size w_2.heap.size w_3.heap.size w1.heap.size (.slice la1 ln1 lc1) (.slice la2 ln2 lc2) (.slice la3 ln3 lc3) L) => range_any (rawVal rv) (rawVal ru) (.agg #[.int .i64 (rawVal rv).k, .int .i64 (rawVal rv).n, .string (rawVal rv).s, .slice la1 ln1 lc1]) (.agg #[.int .i64 (rawVal ru).k, .int .i64 (rawVal ru).n, .string (rawVal ru).s, .slice la3 ln3 lc3]) W h.t SV.out SU.out ⟨_, rfl, h.al⟩ ⟨_, rfl, h.ml⟩ h.x (by omega))
  rw [show rangeL (rawVal rv) (rawVal ru) L = rng (rawVal rv) (rawVal ru) L by unfold rangeL; rw [right_rawVal, right_rawVal]; rfl] at RLM
  have RMH := Lib.hid (fun W (h : PS W rv rw_ ru xb w_1.heap.size w_2.heap.size w_3.heap.size w1.heap.size (.slice la1 ln1 lc1) (.slice la2 ln2 lc2) (.slice la3 ln3 lc3) L) => range_any (rawVal ru) (rawVal rw_) (.agg #[.int .i64 (rawVal ru).k, .int .i64 (rawVal ru).n, .string (rawVal ru).s, .slice la3 ln3 lc3]) (.agg #[.int .i64 (rawVal rw_).k, .int .i64 (rawVal rw_).n, .string (rawVal rw_).s, .slice la2 ln2 lc2]) W h.t SU.out SW.out ⟨_, rfl, h.ml⟩ ⟨_, rfl, h.bl⟩ h.x (by omega))
  rw [show rangeL (rawVal ru) (rawVal rw_) L = rng (rawVal ru) (rawVal rw_) L by unfold rangeL; rw [right_rawVal, right_rawVal]; rfl] at RMH
  have RLH := Lib.hid (fun W (h : PS W rv rw_ ru xb w_1.heap.size w_2.heap.size w_3.heap.size w1.heap.size (.slice la1 ln1 lc1) (.slice la2 ln2 lc2) (.slice la3 ln3 lc3) L) => range_any (rawVal rv) (rawVal rw_) (.agg #[.int .i64 (rawVal rv).k, .int .i64 (rawVal rv).n, .string (rawVal rv).s, .slice la1 ln1 lc1]) (.agg #[.int .i64 (rawVal rw_).k, .int .i64 (rawVal rw_).n, .string (rawVal rw_).s, .slice la2 ln2 lc2]) W h.t SV.out SW.out ⟨_, rfl, h.al⟩ ⟨_, rfl, h.bl⟩ h.x (by omega))
  rw [show rangeL (rawVal rv) (rawVal rw_) L = rng (rawVal rv) (rawVal rw_) L by unfold rangeL; rw [right_rawVal, right_rawVal]; rfl] at RLH
  have FM := Lib.hid (fun W (h : PS W rv rw_ ru xb w_1.heap.size w_2.heap.size w_3.heap.size w1.heap.size (.slice la1 ln1 lc1) (.slice la2 ln2 lc2) (.slice la3 ln3 lc3) L) => find_any (rawVal ru) (.agg #[.int .i64 (rawVal ru).k, .int .i64 (rawVal ru).n, .string (rawVal ru).s, .slice la3 ln3 lc3]) W h.t SU.out ⟨_, rfl, h.ml⟩ h.x (by omega))
  rw [show rangeL (rawVal ru) (rawVal ru) L = rng (rawVal ru) (rawVal ru) L by unfold rangeL; rw [right_rawVal]; rfl] at FM
  obtain ⟨a0, a1, a2, a3⟩ := val_cells PZ.out.a
  obtain ⟨b0, b1, b2, b3⟩ := val_cells PZ.out.b
  obtain ⟨e0, e1, e2, e3⟩ := val_cells PZ.out.m
  unfold valObj at a0 a1 a2 a3 b0 b1 b2 b3 e0 e1 e2 e3
  by_cases c1 : 0 < cmpV (rawVal rv) (rawVal ru)
  · have d1 : decide (0 < cmpV (rawVal rv) (rawVal ru)) = true := decide_eq_true c1
    go_wp2_with fail
    refine (CLM.out _ PZ.out).mono ?_
    rintro e w_4 ⟨rfl, bv⟩
    replace PZ := Lib.hid (PZ.out.below bv)
    replace BZ := Lib.hid (BZ.out.trans (bv.mono BZ.out.size))
    clear bv a0 a1 a2 a3 b0 b1 b2 b3 e0 e1 e2 e3
    obtain ⟨a0, a1, a2, a3⟩ := val_cells PZ.out.a
    obtain ⟨b0, b1, b2, b3⟩ := val_cells PZ.out.b
    obtain ⟨e0, e1, e2, e3⟩ := val_cells PZ.out.m
    by_cases c3 : cmpV (rawVal rv) (rawVal rw_) ≤ 0
    · have d3 : decide (cmpV (rawVal rv) (rawVal rw_) ≤ 0) = true := decide_eq_true c3
      go_wp2_with fail
      refine (CLH.out _ PZ.out).mono ?_
      rintro e w_5 ⟨rfl, bv⟩
      replace PZ := Lib.hid (PZ.out.below bv)
      replace BZ := Lib.hid (BZ.out.trans (bv.mono BZ.out.size))
      clear bv a0 a1 a2 a3 b0 b1 b2 b3 e0 e1 e2 e3
      obtain ⟨a0, a1, a2, a3⟩ := val_cells PZ.out.a
      obtain ⟨b0, b1, b2, b3⟩ := val_cells PZ.out.b
      obtain ⟨e0, e1, e2, e3⟩ := val_cells PZ.out.m
      go_wp2_with fail
      go_ret
      exact ⟨by simp, BZ.out⟩
    · have d3 : decide (cmpV (rawVal rv) (rawVal rw_) ≤ 0) = false := decide_eq_false c3
      have he := HE.out (by omega)
      rw [he] at RLH
      clear he
      go_wp2_with fail
      refine (CLH.out _ PZ.out).mono ?_
      rintro e w_5 ⟨rfl, bv⟩
      replace PZ := Lib.hid (PZ.out.below bv)
      replace BZ := Lib.hid (BZ.out.trans (bv.mono BZ.out.size))
      clear bv a0 a1 a2 a3 b0 b1 b2 b3 e0 e1 e2 e3
      obtain ⟨a0, a1, a2, a3⟩ := val_cells PZ.out.a
      obtain ⟨b0, b1, b2, b3⟩ := val_cells PZ.out.b
      obtain ⟨e0, e1, e2, e3⟩ := val_cells PZ.out.m
      go_wp2_with fail
      refine (RLH.out _ PZ.out).mono ?_
      intro e w_6 hG
      obtain ⟨vv, rfl, ii, bv⟩ := hG
      obtain ⟨ga, gc, rfl⟩ := ii.len
      have Ig := Lib.hid ii
      clear ii
      replace PZ := Lib.hid (PZ.out.below bv)
      replace BZ := Lib.hid (BZ.out.trans (bv.mono BZ.out.size))
      clear bv a0 a1 a2 a3 b0 b1 b2 b3 e0 e1 e2 e3
      obtain ⟨a0, a1, a2, a3⟩ := val_cells PZ.out.a
      obtain ⟨b0, b1, b2, b3⟩ := val_cells PZ.out.b
      obtain ⟨e0, e1, e2, e3⟩ := val_cells PZ.out.m
      go_wp2_with fail
      go_ret
      exact ⟨by simp, BZ.out⟩
  · have d1 : decide (0 < cmpV (rawVal rv) (rawVal ru)) = false := decide_eq_false c1
    by_cases c2 : 0 < cmpV (rawVal ru) (rawVal rw_)
    · have d2 : decide (0 < cmpV (rawVal ru) (rawVal rw_)) = true := decide_eq_true c2
      go_wp2_with fail
      refine (CLM.out _ PZ.out).mono ?_
      rintro e w_4 ⟨rfl, bv⟩
      replace PZ := Lib.hid (PZ.out.below bv)
      replace BZ := Lib.hid (BZ.out.trans (bv.mono BZ.out.size))
      clear bv a0 a1 a2 a3 b0 b1 b2 b3 e0 e1 e2 e3
      obtain ⟨a0, a1, a2, a3⟩ := val_cells PZ.out.a
      obtain ⟨b0, b1, b2, b3⟩ := val_cells PZ.out.b
      obtain ⟨e0, e1, e2, e3⟩ := val_cells PZ.out.m
      go_wp2_with fail
      refine (CMH.out _ PZ.out).mono ?_
      rintro e w_5 ⟨rfl, bv⟩
      replace PZ := Lib.hid (PZ.out.below bv)
      replace BZ := Lib.hid (BZ.out.trans (bv.mono BZ.out.size))
      clear bv a0 a1 a2 a3 b0 b1 b2 b3 e0 e1 e2 e3
      obtain ⟨a0, a1, a2, a3⟩ := val_cells PZ.out.a
      obtain ⟨b0, b1, b2, b3⟩ := val_cells PZ.out.b
      obtain ⟨e0, e1, e2, e3⟩ := val_cells PZ.out.m
      by_cases c3 : cmpV (rawVal rv) (rawVal rw_) ≤ 0
      · have d3 : decide (cmpV (rawVal rv) (rawVal rw_) ≤ 0) = true := decide_eq_true c3
        go_wp2_with fail
        refine (CLH.out _ PZ.out).mono ?_
        rintro e w_6 ⟨rfl, bv⟩
        replace PZ := Lib.hid (PZ.out.below bv)
        replace BZ := Lib.hid (BZ.out.trans (bv.mono BZ.out.size))
        clear bv a0 a1 a2 a3 b0 b1 b2 b3 e0 e1 e2 e3
        obtain ⟨a0, a1, a2, a3⟩ := val_cells PZ.out.a
        obtain ⟨b0, b1, b2, b3⟩ := val_cells PZ.out.b
        obtain ⟨e0, e1, e2, e3⟩ := val_cells PZ.out.m
        go_wp2_with fail
        go_ret
        exact ⟨by simp, BZ.out⟩
      · have d3 : decide (cmpV (rawVal rv) (rawVal rw_) ≤ 0) = false := decide_eq_false c3
        have he := HE.out (by omega)
        rw [he] at RLH
        clear he
        go_wp2_with fail
        refine (CLH.out _ PZ.out).mono ?_
        rintro e w_6 ⟨rfl, bv⟩
        replace PZ := Lib.hid (PZ.out.below bv)
        replace BZ := Lib.hid (BZ.out.trans (bv.mono BZ.out.size))
        clear bv a0 a1 a2 a3 b0 b1 b2 b3 e0 e1 e2 e3
        obtain ⟨a0, a1, a2, a3⟩ := val_cells PZ.out.a
        obtain ⟨b0, b1, b2, b3⟩ := val_cells PZ.out.b
        obtain ⟨e0, e1, e2, e3⟩ := val_cells PZ.out.m
        go_wp2_with fail
        refine (RLH.out _ PZ.out).mono ?_
        intro e w_7 hG
        obtain ⟨vv, rfl, ii, bv⟩ := hG
        obtain ⟨ga, gc, rfl⟩ := ii.len
        have Ig := Lib.hid ii
        clear ii
        replace PZ := Lib.hid (PZ.out.below bv)
        replace BZ := Lib.hid (BZ.out.trans (bv.mono BZ.out.size))
        clear bv a0 a1 a2 a3 b0 b1 b2 b3 e0 e1 e2 e3
        obtain ⟨a0, a1, a2, a3⟩ := val_cells PZ.out.a
        obtain ⟨b0, b1, b2, b3⟩ := val_cells PZ.out.b
        obtain ⟨e0, e1, e2, e3⟩ := val_cells PZ.out.m
        go_wp2_with fail
        go_ret
        exact ⟨by simp, BZ.out⟩
    · have d2 : decide (0 < cmpV (rawVal ru) (rawVal rw_)) = false := decide_eq_false c2
      obtain ⟨p1, p2, p3, p4, p5⟩ := HP.out (by omega) (by omega)
      generalize rng (rawVal rv) (rawVal ru) L = LA at *
      generalize rng (rawVal ru) (rawVal rw_) L = LB at *
      generalize rng (rawVal ru) (rawVal ru) L = LC at *
      generalize rng (rawVal rv) (rawVal rw_) L = LW at *
      have P3 := Lib.hid p3
      have P4 := Lib.hid p4
      have P5 := Lib.hid p5
      clear p3 p4 p5 HP HE CLH
      go_wp2_with fail
      refine (CLM.out _ PZ.out).mono ?_
      rintro e w_4 ⟨rfl, bv⟩
      replace PZ := Lib.hid (PZ.out.below bv)
      replace BZ := Lib.hid (BZ.out.trans (bv.mono BZ.out.size))
      clear bv a0 a1 a2 a3 b0 b1 b2 b3 e0 e1 e2 e3
      obtain ⟨a0, a1, a2, a3⟩ := val_cells PZ.out.a
      obtain ⟨b0, b1, b2, b3⟩ := val_cells PZ.out.b
      obtain ⟨e0, e1, e2, e3⟩ := val_cells PZ.out.m
      go_wp2_with fail
      refine (CMH.out _ PZ.out).mono ?_
      rintro e w_5 ⟨rfl, bv⟩
      replace PZ := Lib.hid (PZ.out.below bv)
      replace BZ := Lib.hid (BZ.out.trans (bv.mono BZ.out.size))
      clear bv a0 a1 a2 a3 b0 b1 b2 b3 e0 e1 e2 e3
      obtain ⟨a0, a1, a2, a3⟩ := val_cells PZ.out.a
      obtain ⟨b0, b1, b2, b3⟩ := val_cells PZ.out.b
      obtain ⟨e0, e1, e2, e3⟩ := val_cells PZ.out.m
      go_wp2_with fail
      refine (RLM.out _ PZ.out).mono ?_
      intro e w_6 hG
      obtain ⟨vv, rfl, ii, bv⟩ := hG
      obtain ⟨kaa, kac, rfl⟩ := ii.len
      have Ika := Lib.hid ii
      clear ii
      replace PZ := Lib.hid (PZ.out.below bv)
      replace BZ := Lib.hid (BZ.out.trans (bv.mono BZ.out.size))
      clear bv a0 a1 a2 a3 b0 b1 b2 b3 e0 e1 e2 e3
      obtain ⟨a0, a1, a2, a3⟩ := val_cells PZ.out.a
      obtain ⟨b0, b1, b2, b3⟩ := val_cells PZ.out.b
      obtain ⟨e0, e1, e2, e3⟩ := val_cells PZ.out.m
      clear c1 c2 d1 d2 CLM CMH
      go_wp2_with fail
      refine (RMH.out _ PZ.out).mono ?_
      intro e w_7 hG
      obtain ⟨vv, rfl, ii, bv⟩ := hG
      obtain ⟨kba, kbc, rfl⟩ := ii.len
      have Ikb := Lib.hid ii
      clear ii
      replace PZ := Lib.hid (PZ.out.below bv)
      replace BZ := Lib.hid (BZ.out.trans (bv.mono BZ.out.size))
      replace Ika := Lib.hid (Ika.out.below bv)
      clear bv a0 a1 a2 a3 b0 b1 b2 b3 e0 e1 e2 e3
      obtain ⟨a0, a1, a2, a3⟩ := val_cells PZ.out.a
      obtain ⟨b0, b1, b2, b3⟩ := val_cells PZ.out.b
      obtain ⟨e0, e1, e2, e3⟩ := val_cells PZ.out.m
      go_wp2_with fail
      refine (FM.out _ PZ.out).mono ?_
      intro e w_8 hG
      obtain ⟨vv, rfl, ii, bv⟩ := hG
      obtain ⟨kca, kcc, rfl⟩ := ii.len
      have Ikc := Lib.hid ii
      clear ii
      replace PZ := Lib.hid (PZ.out.below bv)
      replace BZ := Lib.hid (BZ.out.trans (bv.mono BZ.out.size))
      replace Ika := Lib.hid (Ika.out.below bv)
      replace Ikb := Lib.hid (Ikb.out.below bv)
      clear bv a0 a1 a2 a3 b0 b1 b2 b3 e0 e1 e2 e3
      obtain ⟨a0, a1, a2, a3⟩ := val_cells PZ.out.a
      obtain ⟨b0, b1, b2, b3⟩ := val_cells PZ.out.b
      obtain ⟨e0, e1, e2, e3⟩ := val_cells PZ.out.m
      have n1 : ¬ (LA.length : Int) < (LC.length : Int) := by omega
      have n2 : ¬ (LB.length : Int) < (LC.length : Int) := by omega
      have n3 : decide ((LA.length : Int) < (LC.length : Int)) = false := decide_eq_false n1
      have n4 : decide ((LB.length : Int) < (LC.length : Int)) = false := decide_eq_false n2
      go_wp2_with fail
      have hlB : LB.length < 1000000 := by obtain ⟨_, _, _, h, _⟩ := Ikb.out; exact h
      have hlA : LA.length < 1000000 := by obtain ⟨_, _, _, h, _⟩ := Ika.out; exact h
      have q0 : (0 : Int) ≤ (LC.length : Int) := by omega
      have q1 : (LC.length : Int) ≤ (LB.length : Int) := by omega
      have q2 : (LC.length : Int) ≤ (LA.length : Int) := by omega
      obtain ⟨s86a, s86c, h86, i86⟩ := from_named Ikb.out p2
      have H86 := Lib.hid h86
      have I86 := Lib.hid i86
      clear h86 i86
      have l1 : w_1.heap.size < w_8.heap.size := lt_of_block PZ.out.a
      have l2 : w_2.heap.size < w_8.heap.size := lt_of_block PZ.out.b
      have i94 := to_named Ikb.out p2
      rw [P4.out] at i94
      have I94 := Lib.hid i94
      clear i94
      have q3 : LC.length ≤ kbc := by obtain ⟨_, _, h, _, h2, _⟩ := Ikb.out; cases h; omega
      have q4 : (LC.length : Int) ≤ (kbc : Int) := by omega
      obtain ⟨dd, hdd⟩ : ∃ dd : Nat, LA.length - LC.length = dd := ⟨_, rfl⟩
      have d0 : (0 : Int) ≤ (dd : Int) := by omega
      have d1 : (dd : Int) ≤ (LA.length : Int) := by omega
      have d2 : IntKind.i64.wrap ((LA.length : Int) - (LC.length : Int)) = (dd : Int) := (IntWalk.i64_in _ (by omega)).trans (by omega)
      obtain ⟨s105a, s105c, h105, i105⟩ := from_named (k := dd) Ika.out (by omega)
      rw [← hdd, P5.out, hdd] at i105
      have H105 := Lib.hid h105
      have I105 := Lib.hid i105
      clear h105 i105 hdd
      have BB : Hid (Below w_8.heap.size w_8 w_8.drew) := (Below.refl _ _).drew
      refine wp_two (fun W => Below w_8.heap.size w_8 W) [(0, true), (1, true), (2, true), (3, true), (4, true), (7, true), (9, true), (10, true), (11, true), (12, true)] 5 6 [(8, false), (13, false), (14, false), (15, true), (16, true), (17, true), (18, true), (19, true), (20, true), (21, true), (22, false), (23, true), (24, true), (25, true), (26, true), (27, true), (28, true), (29, true), (30, true), (31, true), (32, true), (33, false), (34, true), (35, true)] (by kernel_rfl) (by kernel_rfl) (fun _ _ _ _ _ h => h) BB.out ?_
      refine wpTwo_read rfl (Or.inl ⟨by rfl, fun W hS => by obtain ⟨hcS, _⟩ := bcell hS; clear hS; go_simp; try with_reducible rfl⟩) ?_
      go_simp
      refine wpTwo_read rfl (Or.inl ⟨by rfl, fun W hS => by obtain ⟨hcS, _⟩ := bcell hS; clear hS; go_simp; try with_reducible rfl⟩) ?_
      go_simp
      refine wpTwo_read rfl (Or.inl ⟨by rfl, fun W hS => by obtain ⟨hcS, _⟩ := bcell hS; clear hS; go_simp; try with_reducible rfl⟩) ?_
      go_simp
      refine wpTwo_read rfl (Or.inl ⟨by rfl, fun W hS => by obtain ⟨hcS, _⟩ := bcell hS; clear hS; go_simp; try with_reducible rfl⟩) ?_
      go_simp
      refine wpTwo_read rfl (Or.inl ⟨by rfl, fun W hS => by obtain ⟨hcS, _⟩ := bcell hS; clear hS; go_simp; try with_reducible rfl⟩) ?_
      go_simp
      refine wpTwo_read rfl (Or.inl ⟨by rfl, fun W hS => by obtain ⟨hcS, _⟩ := bcell hS; clear hS; go_simp; try with_reducible rfl⟩) ?_
      go_simp
      refine wpTwo_read rfl (Or.inl ⟨by rfl, fun W hS => by obtain ⟨hcS, _⟩ := bcell hS; clear hS; go_simp; try with_reducible rfl⟩) ?_
      go_simp
      refine wpTwo_read rfl (Or.inl ⟨by rfl, fun W hS => by obtain ⟨hcS, _⟩ := bcell hS; clear hS; go_simp; try with_reducible rfl⟩) ?_
      go_simp
      refine wpTwo_read rfl (Or.inl ⟨by rfl, fun W hS => by obtain ⟨hcS, _⟩ := bcell hS; clear hS; go_simp; try with_reducible rfl⟩) ?_
      go_simp
      refine wpTwo_read (v := .slice s86a (LB.length - LC.length) s86c) rfl (Or.inl ⟨by rfl, fun W hS => by obtain ⟨hcS, _⟩ := bcell hS; clear hS; go_simp; exact H86.out⟩) ?_
      go_simp
      refine wpTwo_two ?_ ?_
      · skip
        refine wpSched_do rfl (fun K hK => ?_)
        go_simp
        refine (RLH.out _ (PZ.out.below BB.out)).mono ?_
        intro e q5 hG
        obtain ⟨vv, rfl, ii, bv⟩ := hG
        obtain ⟨ra, rc, rfl⟩ := ii.len
        have BS : Hid (Beside (q5.alloc (.cells #[] 3)) w_8.heap.size (.slice (some ⟨q5.heap.size, 0, none⟩) 0 0) [] (.slice ra LW.length rc) LW) := beside_after ii (Nat.le_trans BB.out.size bv.size)
        replace BB := Lib.hid (BB.out.trans (bv.mono BB.out.size))
        refine hK _ _ BB.out ?_
        clear hK K ii bv
        go_simp
        refine wpSched_do rfl (fun K hK => ?_)
        go_simp
        replace BB : Hid (Below w_8.heap.size w_8 (q5.alloc (.cells #[] 3))) := BB.out.alloc BB.out.size _
        refine hK _ _ BB.out ?_
        clear hK K
        go_simp
        refine wpSched_do rfl (fun K hK => ?_)
        refine step_app (by rfl) (.tmp 80) (.tmp 81) rfl w_8.heap.size _ _ _ _ _ _ (by simp [Act.eval]) (by simp [Act.eval]) BS.out (Ika.out.below BB.out) (by simp) ?_
        intro v8 q8 bs8 b8
        obtain ⟨a8, n8, c8, rfl⟩ := bs8.slice
        replace BB := Lib.hid (BB.out.trans b8)
        replace BS := Lib.hid bs8
        clear bs8 b8
        refine hK _ _ BB.out ?_
        clear hK K
        go_simp
        refine wpSched_do rfl (fun K hK => ?_)
        refine step_app (by rfl) (.tmp 82) (.tmp 86) rfl w_8.heap.size _ _ _ _ _ _ (by simp [Act.eval]) (by simp [Act.eval]) BS.out (I86.out.below BB.out) (by simp; omega) ?_
        intro v8 q9 bs8 b8
        obtain ⟨a9, n9, c9, rfl⟩ := bs8.slice
        replace BB := Lib.hid (BB.out.trans b8)
        replace BS := Lib.hid bs8
        clear bs8 b8
        refine hK _ _ BB.out ?_
        clear hK K
        go_simp
        have IR : Hid (IsI q9 (.slice a9 n9 c9) LW) := by
          have h := BS.out.row (by rw [List.nil_append, ← P3.out]; obtain ⟨_, _, _, h, _⟩ := BS.out.other; exact h)
          rw [List.nil_append, ← P3.out] at h
          exact h
        refine wpSched_do rfl (fun K hK => ?_)
        go_simp
        refine (same_true BS.out.other IR.out).mono ?_
        rintro e q14 ⟨rfl, b14⟩
        replace BB := Lib.hid (BB.out.trans (b14.mono BB.out.size))
        refine hK _ _ BB.out ?_
        clear hK K b14 BS IR
        go_simp
        refine wpSched_read rfl (Or.inl ⟨by rfl, fun W hS => by obtain ⟨hcS, _⟩ := bcell hS; clear hS; go_simp; try with_reducible rfl⟩) ?_
        go_simp
        refine wpSched_read rfl (Or.inl ⟨by rfl, fun W hS => by obtain ⟨hcS, _⟩ := bcell hS; clear hS; go_simp; try with_reducible rfl⟩) ?_
        go_simp
        refine wpSched_read rfl (Or.inl ⟨by rfl, fun W hS => by obtain ⟨hcS, _⟩ := bcell hS; clear hS; go_simp; try with_reducible rfl⟩) ?_
        go_simp
        refine wpSched_read rfl (Or.inl ⟨by rfl, fun W hS => by obtain ⟨hcS, _⟩ := bcell hS; clear hS; go_simp; try with_reducible rfl⟩) ?_
        go_simp
        refine wpSched_read rfl (Or.inl ⟨by rfl, fun W hS => by obtain ⟨hcS, _⟩ := bcell hS; clear hS; go_simp; try with_reducible rfl⟩) ?_
        go_simp
        refine wpSched_read rfl (Or.inl ⟨by rfl, fun W hS => by obtain ⟨hcS, _⟩ := bcell hS; clear hS; go_simp; try with_reducible rfl⟩) ?_
        go_simp
        refine wpSched_read rfl (Or.inl ⟨by rfl, fun W hS => by obtain ⟨hcS, _⟩ := bcell hS; clear hS; go_simp; try with_reducible rfl⟩) ?_
        go_simp
        refine wpSched_do rfl (fun K hK => ?_)
        go_simp
        refine (same_true (I94.out.below BB.out) (Ikc.out.below BB.out)).mono ?_
        rintro e q22 ⟨rfl, b14⟩
        replace BB := Lib.hid (BB.out.trans (b14.mono BB.out.size))
        refine hK _ _ BB.out ?_
        clear hK K b14
        go_simp
        refine wpSched_read rfl (Or.inl ⟨by rfl, fun W hS => by obtain ⟨hcS, _⟩ := bcell hS; clear hS; go_simp; try with_reducible rfl⟩) ?_
        go_simp
        refine wpSched_read rfl (Or.inl ⟨by rfl, fun W hS => by obtain ⟨hcS, _⟩ := bcell hS; clear hS; go_simp; try with_reducible rfl⟩) ?_
        go_simp
        refine wpSched_read rfl (Or.inl ⟨by rfl, fun W hS => by obtain ⟨hcS, _⟩ := bcell hS; clear hS; go_simp; try with_reducible rfl⟩) ?_
        go_simp
        refine wpSched_read rfl (Or.inl ⟨by rfl, fun W hS => by obtain ⟨hcS, _⟩ := bcell hS; clear hS; go_simp; try with_reducible rfl⟩) ?_
        go_simp
        refine wpSched_read rfl (Or.inl ⟨by rfl, fun W hS => by obtain ⟨hcS, _⟩ := bcell hS; clear hS; go_simp; try with_reducible rfl⟩) ?_
        go_simp
        refine wpSched_read rfl (Or.inl ⟨by rfl, fun W hS => by obtain ⟨hcS, _⟩ := bcell hS; clear hS; go_simp; try with_reducible rfl⟩) ?_
        go_simp
        refine wpSched_read rfl (Or.inl ⟨by rfl, fun W hS => by obtain ⟨hcS, _⟩ := bcell hS; clear hS; go_simp; try with_reducible rfl⟩) ?_
        go_simp
        refine wpSched_read rfl (Or.inl ⟨by rfl, fun W hS => by obtain ⟨hcS, _⟩ := bcell hS; clear hS; go_simp; try with_reducible rfl⟩) ?_
        go_simp
        refine wpSched_read (v := .slice s105a (LA.length - dd) s105c) rfl (Or.inl ⟨by rfl, fun W hS => by obtain ⟨hcS, _⟩ := bcell hS; clear hS; go_simp; exact H105.out⟩) ?_
        go_simp
        refine wpSched_read rfl (Or.inl ⟨by rfl, fun W hS => by obtain ⟨hcS, _⟩ := bcell hS; clear hS; go_simp; try with_reducible rfl⟩) ?_
        go_simp
        refine wpSched_do rfl (fun K hK => ?_)
        go_simp
        refine (same_true (I105.out.below BB.out) (Ikc.out.below BB.out)).mono ?_
        rintro e q33 ⟨rfl, b14⟩
        replace BB := Lib.hid (BB.out.trans (b14.mono BB.out.size))
        refine hK _ _ BB.out ?_
        clear hK K b14
        go_simp
        refine wpSched_read rfl (Or.inl ⟨by rfl, fun W hS => by obtain ⟨hcS, _⟩ := bcell hS; clear hS; go_simp; try with_reducible rfl⟩) ?_
        go_simp
        refine wpSched_read rfl (Or.inl ⟨by rfl, fun W hS => by obtain ⟨hcS, _⟩ := bcell hS; clear hS; go_simp; try with_reducible rfl⟩) ?_
        go_simp
        refine wpSched_done ?_
        have BE := Lib.hid (BZ.out.trans (BB.out.mono BZ.out.size))
        go_wp2_with fail
        go_ret
        exact ⟨by simp, BE.out⟩
      · skip
        refine wpSched_do rfl (fun K hK => ?_)
        go_simp
        have BA : Hid (Below w_8.heap.size w_8 (w_8.drew.alloc (.cells #[] 3))) := BB.out.alloc BB.out.size _
        refine hK _ _ BA.out ?_
        clear hK K
        go_simp
        refine wpSched_do rfl (fun K hK => ?_)
        go_simp
        refine (RLH.out _ (PZ.out.below BA.out)).mono ?_
        intro e q5 hG
        obtain ⟨vv, rfl, ii, bv⟩ := hG
        obtain ⟨ra, rc, rfl⟩ := ii.len
        have BS : Hid (Beside q5 w_8.heap.size (.slice (some ⟨w_8.drew.heap.size, 0, none⟩) 0 0) [] (.slice ra LW.length rc) LW) := beside_before bv ii BB.out.size
        replace BB := Lib.hid (BA.out.trans (bv.mono BA.out.size))
        refine hK _ _ BB.out ?_
        clear hK K ii bv BA
        go_simp
        refine wpSched_do rfl (fun K hK => ?_)
        refine step_app (by rfl) (.tmp 80) (.tmp 81) rfl w_8.heap.size _ _ _ _ _ _ (by simp [Act.eval]) (by simp [Act.eval]) BS.out (Ika.out.below BB.out) (by simp) ?_
        intro v8 q8 bs8 b8
        obtain ⟨a8, n8, c8, rfl⟩ := bs8.slice
        replace BB := Lib.hid (BB.out.trans b8)
        replace BS := Lib.hid bs8
        clear bs8 b8
        refine hK _ _ BB.out ?_
        clear hK K
        go_simp
        refine wpSched_do rfl (fun K hK => ?_)
        refine step_app (by rfl) (.tmp 82) (.tmp 86) rfl w_8.heap.size _ _ _ _ _ _ (by simp [Act.eval]) (by simp [Act.eval]) BS.out (I86.out.below BB.out) (by simp; omega) ?_
        intro v8 q9 bs8 b8
        obtain ⟨a9, n9, c9, rfl⟩ := bs8.slice
        replace BB := Lib.hid (BB.out.trans b8)
        replace BS := Lib.hid bs8
        clear bs8 b8
        refine hK _ _ BB.out ?_
        clear hK K
        go_simp
        have IR : Hid (IsI q9 (.slice a9 n9 c9) LW) := by
          have h := BS.out.row (by rw [List.nil_append, ← P3.out]; obtain ⟨_, _, _, h, _⟩ := BS.out.other; exact h)
          rw [List.nil_append, ← P3.out] at h
          exact h
        refine wpSched_do rfl (fun K hK => ?_)
        go_simp
        refine (same_true BS.out.other IR.out).mono ?_
        rintro e q14 ⟨rfl, b14⟩
        replace BB := Lib.hid (BB.out.trans (b14.mono BB.out.size))
        refine hK _ _ BB.out ?_
        clear hK K b14 BS IR
        go_simp
        refine wpSched_read rfl (Or.inl ⟨by rfl, fun W hS => by obtain ⟨hcS, _⟩ := bcell hS; clear hS; go_simp; try with_reducible rfl⟩) ?_
        go_simp
        refine wpSched_read rfl (Or.inl ⟨by rfl, fun W hS => by obtain ⟨hcS, _⟩ := bcell hS; clear hS; go_simp; try with_reducible rfl⟩) ?_
        go_simp
        refine wpSched_read rfl (Or.inl ⟨by rfl, fun W hS => by obtain ⟨hcS, _⟩ := bcell hS; clear hS; go_simp; try with_reducible rfl⟩) ?_
        go_simp
        refine wpSched_read rfl (Or.inl ⟨by rfl, fun W hS => by obtain ⟨hcS, _⟩ := bcell hS; clear hS; go_simp; try with_reducible rfl⟩) ?_
        go_simp
        refine wpSched_read rfl (Or.inl ⟨by rfl, fun W hS => by obtain ⟨hcS, _⟩ := bcell hS; clear hS; go_simp; try with_reducible rfl⟩) ?_
        go_simp
        refine wpSched_read rfl (Or.inl ⟨by rfl, fun W hS => by obtain ⟨hcS, _⟩ := bcell hS; clear hS; go_simp; try with_reducible rfl⟩) ?_
        go_simp
        refine wpSched_read rfl (Or.inl ⟨by rfl, fun W hS => by obtain ⟨hcS, _⟩ := bcell hS; clear hS; go_simp; try with_reducible rfl⟩) ?_
        go_simp
        refine wpSched_do rfl (fun K hK => ?_)
        go_simp
        refine (same_true (I94.out.below BB.out) (Ikc.out.below BB.out)).mono ?_
        rintro e q22 ⟨rfl, b14⟩
        replace BB := Lib.hid (BB.out.trans (b14.mono BB.out.size))
        refine hK _ _ BB.out ?_
        clear hK K b14
        go_simp
        refine wpSched_read rfl (Or.inl ⟨by rfl, fun W hS => by obtain ⟨hcS, _⟩ := bcell hS; clear hS; go_simp; try with_reducible rfl⟩) ?_
        go_simp
        refine wpSched_read rfl (Or.inl ⟨by rfl, fun W hS => by obtain ⟨hcS, _⟩ := bcell hS; clear hS; go_simp; try with_reducible rfl⟩) ?_
        go_simp
        refine wpSched_read rfl (Or.inl ⟨by rfl, fun W hS => by obtain ⟨hcS, _⟩ := bcell hS; clear hS; go_simp; try with_reducible rfl⟩) ?_
        go_simp
        refine wpSched_read rfl (Or.inl ⟨by rfl, fun W hS => by obtain ⟨hcS, _⟩ := bcell hS; clear hS; go_simp; try with_reducible rfl⟩) ?_
        go_simp
        refine wpSched_read rfl (Or.inl ⟨by rfl, fun W hS => by obtain ⟨hcS, _⟩ := bcell hS; clear hS; go_simp; try with_reducible rfl⟩) ?_
        go_simp
        refine wpSched_read rfl (Or.inl ⟨by rfl, fun W hS => by obtain ⟨hcS, _⟩ := bcell hS; clear hS; go_simp; try with_reducible rfl⟩) ?_
        go_simp
        refine wpSched_read rfl (Or.inl ⟨by rfl, fun W hS => by obtain ⟨hcS, _⟩ := bcell hS; clear hS; go_simp; try with_reducible rfl⟩) ?_
        go_simp
        refine wpSched_read rfl (Or.inl ⟨by rfl, fun W hS => by obtain ⟨hcS, _⟩ := bcell hS; clear hS; go_simp; try with_reducible rfl⟩) ?_
        go_simp
        refine wpSched_read (v := .slice s105a (LA.length - dd) s105c) rfl (Or.inl ⟨by rfl, fun W hS => by obtain ⟨hcS, _⟩ := bcell hS; clear hS; go_simp; exact H105.out⟩) ?_
        go_simp
        refine wpSched_read rfl (Or.inl ⟨by rfl, fun W hS => by obtain ⟨hcS, _⟩ := bcell hS; clear hS; go_simp; try with_reducible rfl⟩) ?_
        go_simp
        refine wpSched_do rfl (fun K hK => ?_)
        go_simp
        refine (same_true (I105.out.below BB.out) (Ikc.out.below BB.out)).mono ?_
        rintro e q33 ⟨rfl, b14⟩
        replace BB := Lib.hid (BB.out.trans (b14.mono BB.out.size))
        refine hK _ _ BB.out ?_
        clear hK K b14
        go_simp
        refine wpSched_read rfl (Or.inl ⟨by rfl, fun W hS => by obtain ⟨hcS, _⟩ := bcell hS; clear hS; go_simp; try with_reducible rfl⟩) ?_
        go_simp
        refine wpSched_read rfl (Or.inl ⟨by rfl, fun W hS => by obtain ⟨hcS, _⟩ := bcell hS; clear hS; go_simp; try with_reducible rfl⟩) ?_
        go_simp
        refine wpSched_done ?_
        have BE := Lib.hid (BZ.out.trans (BB.out.mono BZ.out.size))
        go_wp2_with fail
        go_ret
        exact ⟨by simp, BE.out⟩
end Go.Proofs.YtifaaacbbjlffaaDoor
