/- The contract of the law's odd. -/
import Derived.Test.YtifaaacbbjlffaaDoorLawMore
import Derived.Test.YtifaaacbbjlffaaDoorRefPut
namespace Mor
def cut80 (s : ByteArray) : ByteArray := s.extract 0 (min s.size 80)
def oddVal (r : RawD) : Vl := if pickZ (r.k.tdiv 7) 3 = 0 then ⟨r.k, r.n, cut80 r.s, []⟩ else rawVal r
theorem cut80_size (s : ByteArray) : (cut80 s).size ≤ 80 := by unfold cut80; rw [ByteArray.size_extract]; omega
end Mor
namespace Go.Proofs.YtifaaacbbjlffaaDoor
open Go.RowKit Mor

theorem i64_tdiv {k : Int} (h : I64 k) : I64 (k.tdiv 7) := by
  unfold I64 at *
  by_cases h0 : 0 ≤ k
  · rw [Int.tdiv_eq_ediv_of_nonneg h0]; omega
  · obtain ⟨m, rfl⟩ : ∃ m : Int, k = -m := ⟨-k, by omega⟩
    rw [Int.neg_tdiv, Int.tdiv_eq_ediv_of_nonneg (by omega)]; omega
theorem szW_raw (r : RawD) : SzW (rawVal r) := by
  have hl : ∀ p ∈ listOf r.l, p.s.size ≤ 4611686018427387904 := fun p hp => by
    unfold listOf at hp
    obtain ⟨z, _, rfl⟩ := List.mem_map.1 hp
    show (ByteArray.mk #[]).size ≤ _
    decide
  have h0 : (ByteArray.mk #[]).size ≤ 4611686018427387904 := by decide
  have ht := txtZ_size (pickZ r.n 5)
  unfold rawVal
  repeat' split
  all_goals first
    | exact ⟨h0, hl⟩
    | exact ⟨h0, fun p hp => by simp at hp⟩
    | exact ⟨Nat.le_trans ht (by decide), fun p hp => by simp at hp⟩
theorem szW_odd (r : RawD) : SzW (oddVal r) := by
  unfold oddVal
  split
  · exact ⟨Nat.le_trans (cut80_size _) (by decide), fun p hp => by simp at hp⟩
  · exact szW_raw r
theorem SzW.v {V : Vl} (h : SzW V) : SzV V := ⟨Nat.le_trans h.1 (by decide), fun p hp => Nat.le_trans (h.2 p hp) (by decide)⟩

theorem val_store {w1 : World} {b : Nat} {sl0 : Value} {V0 : Vl} (h : w1.heap[b]? = some (valObj V0 sl0)) (k n : Int) (s : ByteArray) (sl : Value) :
    ((((w1.setCell ⟨b, 0, none⟩ (.int .i64 k)).setCell ⟨b, 1, none⟩ (.int .i64 n)).setCell ⟨b, 2, none⟩ (.string s)).setCell ⟨b, 3, none⟩ sl).heap[b]? = some (valObj ⟨k, n, s, []⟩ sl) :=
  heap_setCell_same _ (heap_setCell_same _ (heap_setCell_same _ (heap_setCell_same _ h)))
theorem val_stored {w w1 : World} {b : Nat} (hb : Below w.heap.size w w1) (hlt : w.heap.size ≤ b) (k n : Int) (s : ByteArray) (sl : Value) :
    Below w.heap.size w ((((w1.setCell ⟨b, 0, none⟩ (.int .i64 k)).setCell ⟨b, 1, none⟩ (.int .i64 n)).setCell ⟨b, 2, none⟩ (.string s)).setCell ⟨b, 3, none⟩ sl) :=
  (((hb.setCell (show w.heap.size ≤ (⟨b, 0, none⟩ : Addr).block from hlt) _).setCell (show w.heap.size ≤ (⟨b, 1, none⟩ : Addr).block from hlt) _).setCell (show w.heap.size ≤ (⟨b, 2, none⟩ : Addr).block from hlt) _).setCell (show w.heap.size ≤ (⟨b, 3, none⟩ : Addr).block from hlt) _
theorem val_others (w1 : World) (b j : Nat) (hj : j ≠ b) (k n : Int) (s : ByteArray) (sl : Value) :
    ((((w1.setCell ⟨b, 0, none⟩ (.int .i64 k)).setCell ⟨b, 1, none⟩ (.int .i64 n)).setCell ⟨b, 2, none⟩ (.string s)).setCell ⟨b, 3, none⟩ sl).heap[j]? = w1.heap[j]? :=
  (Below.heap_setCell _ _ _ _ hj).trans ((Below.heap_setCell _ _ _ _ hj).trans ((Below.heap_setCell _ _ _ _ hj).trans (Below.heap_setCell _ _ _ _ hj)))
theorem IsLt.at {w w' : World} {sl : Value} {l : List Pv} (h : IsLt w sl l) (hk : ∀ (b o n c : Nat), sl = .slice (some ⟨b, o, none⟩) n c → (∀ i p, l[i]? = some p → PvAt w b (o + i * 4) p) → l ≠ [] → w'.heap[b]? = w.heap[b]?) : IsLt w' sl l := by
  obtain ⟨h1, h2⟩ := h
  rcases h1 with ⟨rfl, rfl⟩ | ⟨h3, h4, b, o, c, rfl, h5⟩
  · exact ⟨.inl ⟨rfl, rfl⟩, fun a n c e => by cases e⟩
  · have e := hk b o _ c rfl h5 h3
    have q : ∀ o, w'.cell? ⟨b, o, none⟩ = w.cell? ⟨b, o, none⟩ := fun o => World.cell?_of_block (w := w) (a := ⟨b, o, none⟩) e
    refine ⟨.inr ⟨h3, h4, b, o, c, rfl, fun i p hp => ?_⟩, fun a n c' e' => ?_⟩
    · have := h5 i p hp
      exact ⟨(q _).trans this.k, (q _).trans this.n, (q _).trans this.s, (q _).trans this.l⟩
    · cases e'
      obtain ⟨arr, fr, hb⟩ := h2 _ _ _ rfl
      exact ⟨arr, fr, e.trans hb⟩
theorem rawVal_l (r : RawD) : ∀ p ∈ (rawVal r).l, p.k = 1 := by
  have hl : ∀ p ∈ listOf r.l, p.k = 1 := fun p hp => by
    unfold listOf at hp
    obtain ⟨z, _, rfl⟩ := List.mem_map.1 hp
    rfl
  unfold rawVal
  repeat' split
  all_goals first
    | exact hl
    | exact fun p hp => by simp at hp
theorem apart_zero {w : World} {z b o : Nat} {p : Pv} (hz : w.heap[z]? = some zeroObj) (hp : PvAt w b o p) (hk : p.k = 1) : b ≠ z := by
  rintro rfl
  have h1 := hp.k
  have h2 := hp.s
  unfold zeroObj at hz
  simp only [World.cell?, hz] at h1 h2
  match o with
  | 0 => simp [hk] at h1
  | 1 => simp at h2
  | o + 2 => simp at h2

set_option maxHeartbeats 400000 in
theorem odd_any (r : RawD) (sl : Value) (w : World) (h : RawOk w r sl) : Calls Tryd.prog 28 #[rawV r sl] w (GivesV (oddVal r) w) := by
  obtain ⟨ra, rn, rc, rfl⟩ := h.slice
  have HB := Lib.hid (fun (o o' : Obj) => ((Below.refl w.heap.size w).alloc (Nat.le_refl _) o).alloc (by simp) o')
  have HV := Lib.hid (fun W (hW : Below w.heap.size w W) => val_any r _ W (h.below hW))
  have HPK := Lib.hid (fun W => pick_any (r.k.tdiv 7) 3 (i64_tdiv h.k) (by decide) (by decide) W)
  have hq0 := i64_tdiv h.k
  unfold I64 at hq0
  have hs := h.s
  clear h
  unfold rawV at HV ⊢
  unfold oddVal
  generalize hz : pickZ (r.k.tdiv 7) 3 = z at *
  clear hz
  obtain ⟨rk, rn', rs, rl⟩ := r
  simp only at *
  obtain ⟨q, hq⟩ : ∃ q, rk.tdiv 7 = q := ⟨_, rfl⟩
  rw [hq] at hq0 HPK
  obtain ⟨hq1, hq2⟩ := hq0
  obtain ⟨n, e1⟩ : ∃ n : Nat, min (rs.size : Int) 80 = (n : Int) := ⟨min rs.size 80, by omega⟩
  have hn : n = min rs.size 80 := by omega
  have ES : Hid (rs.extract 0 n = cut80 rs) := by show _ = _; unfold cut80; rw [hn]
  have n1 : (n : Int) ≤ (rs.size : Int) := by omega
  have n2 : n ≤ rs.size := by omega
  clear hn
  by_cases hz : z = 0
  · subst hz
    rw [if_pos rfl, ← ES.out]
    clear ES
    go_enter Tryd.func28, Tryd.ntmps28
    go_wp2_with fail
    refine (HV.out _ (HB.out _ _)).mono ?_
    intro e w1 hG
    obtain ⟨vv, rfl, iv, bv⟩ := hG
    obtain ⟨sv, rfl, il⟩ := iv
    obtain ⟨sa, sn, sc, rfl⟩ := il.1.slice
    have zz : w.heap.size + 2 ≤ w1.heap.size := by have := bv.size; simpa using this
    have RB : Hid (w1.heap[w.heap.size]? = some (rawObj ⟨rk, rn', rs, rl⟩ (.slice ra rn rc))) := (bv.block _ (by simp; omega)).trans ((Below.heap_alloc _ _ _ (by simp)).trans (new_block w _ _ rfl))
    have ZB : Hid (w1.heap[w.heap.size + 1]? = some zeroObj) := (bv.block _ (by simp)).trans (new_block _ _ _ (by simp))
    have B1 := Lib.hid ((HB.out _ _).trans (bv.mono (by simp; omega)))
    obtain ⟨a0, a1, a2, a3⟩ := raw_cells RB.out
    obtain ⟨b0, b1, b2, b3⟩ := zero_cells ZB.out
    have f0 := zero_free ZB.out
    have l0 : w.heap.size < w1.heap.size := by omega
    have l1 : w.heap.size + 1 < w1.heap.size := by omega
    clear bv il
    go_wp2_with fail
    refine (HPK.out _).mono ?_
    clear hq hq1 hq2
    rintro e w2 ⟨rfl, rfl⟩
    go_wp2_with fail
    refine wp_still_tail 12 (by kernel_rfl) (by kernel_rfl) ?_
    simp only [List.take_succ_cons, List.take_zero, List.drop_succ_cons, List.drop_zero]
    repeat still_step
    refine wpStill_nil ?_
    go_wp2_with fail
    have X1 := val_store (V0 := ⟨0, 0, ⟨#[]⟩, []⟩) ZB.out rk rn' (rs.extract 0 n) (.slice none 0 0)
    have Y1 := val_stored (b := w.heap.size + 1) B1.out (by omega) rk rn' (rs.extract 0 n) (.slice none 0 0)
    generalize (((w1.setCell ⟨w.heap.size + 1, 0, none⟩ (.int .i64 rk)).setCell ⟨w.heap.size + 1, 1, none⟩ (.int .i64 rn')).setCell ⟨w.heap.size + 1, 2, none⟩ (.string (rs.extract 0 n))).setCell ⟨w.heap.size + 1, 3, none⟩ (.slice none 0 0) = X at *
    obtain ⟨c0, c1, c2, c3⟩ := val_cells X1
    have xl := lt_of_some X1
    clear a0 a1 a2 a3 b0 b1 b2 b3 f0
    exact bodyPost_ret (v := .agg #[.int .i64 rk, .int .i64 rn', .string (rs.extract 0 n), .slice none 0 0]) (by simp [results, Tryd.results28, go_sem, c0, c1, c2, c3, xl]) rfl ⟨_, rfl, isVx_bare _ _ _ _, (Y1.alloc Y1.size _).drew⟩
  · have hzb : (z == 0) = false := beq_eq_false_iff_ne.2 hz
    rw [if_neg hz]
    clear hz ES n1 n2 e1
    go_enter Tryd.func28, Tryd.ntmps28
    go_wp2_with fail
    refine (HV.out _ (HB.out _ _)).mono ?_
    intro e w1 hG
    obtain ⟨vv, rfl, iv, bv⟩ := hG
    obtain ⟨sv, rfl, il⟩ := iv
    obtain ⟨sa, sn, sc, rfl⟩ := il.1.slice
    have zz : w.heap.size + 2 ≤ w1.heap.size := by have := bv.size; simpa using this
    have RB : Hid (w1.heap[w.heap.size]? = some (rawObj ⟨rk, rn', rs, rl⟩ (.slice ra rn rc))) := (bv.block _ (by simp; omega)).trans ((Below.heap_alloc _ _ _ (by simp)).trans (new_block w _ _ rfl))
    have ZB : Hid (w1.heap[w.heap.size + 1]? = some zeroObj) := (bv.block _ (by simp)).trans (new_block _ _ _ (by simp))
    have B1 := Lib.hid ((HB.out _ _).trans (bv.mono (by simp; omega)))
    have HK := Lib.hid (rawVal_l ⟨rk, rn', rs, rl⟩)
    have IL := Lib.hid il
    obtain ⟨a0, a1, a2, a3⟩ := raw_cells RB.out
    obtain ⟨b0, b1, b2, b3⟩ := zero_cells ZB.out
    have f0 := zero_free ZB.out
    have l0 : w.heap.size < w1.heap.size := by omega
    have l1 : w.heap.size + 1 < w1.heap.size := by omega
    clear bv il
    generalize rawVal ⟨rk, rn', rs, rl⟩ = V at *
    obtain ⟨Vk, Vn, Vs, Vl⟩ := V
    simp only at *
    go_wp2_with fail
    refine (HPK.out _).mono ?_
    clear hq hq1 hq2
    rintro e w2 ⟨rfl, rfl⟩
    go_wp2_with fail
    have X1 := val_store (V0 := ⟨0, 0, ⟨#[]⟩, []⟩) ZB.out Vk Vn Vs (.slice sa sn sc)
    have Y1 := val_stored (b := w.heap.size + 1) B1.out (by omega) Vk Vn Vs (.slice sa sn sc)
    have IX : IsLt ((((w1.setCell ⟨w.heap.size + 1, 0, none⟩ (.int .i64 Vk)).setCell ⟨w.heap.size + 1, 1, none⟩ (.int .i64 Vn)).setCell ⟨w.heap.size + 1, 2, none⟩ (.string Vs)).setCell ⟨w.heap.size + 1, 3, none⟩ (.slice sa sn sc)) (.slice sa sn sc) Vl := IL.out.at fun b o n c _ hp hne => by
      refine val_others _ _ _ ?_ _ _ _ _
      cases Vl with
      | nil => exact absurd rfl hne
      | cons x l => exact apart_zero ZB.out (hp 0 x rfl) (HK.out x (by simp))
    generalize (((w1.setCell ⟨w.heap.size + 1, 0, none⟩ (.int .i64 Vk)).setCell ⟨w.heap.size + 1, 1, none⟩ (.int .i64 Vn)).setCell ⟨w.heap.size + 1, 2, none⟩ (.string Vs)).setCell ⟨w.heap.size + 1, 3, none⟩ (.slice sa sn sc) = X at *
    obtain ⟨c0, c1, c2, c3⟩ := val_cells X1
    have xl := lt_of_some X1
    clear a0 a1 a2 a3 b0 b1 b2 b3 f0
    exact bodyPost_ret (v := .agg #[.int .i64 Vk, .int .i64 Vn, .string Vs, .slice sa sn sc]) (by simp [results, Tryd.results28, go_sem, c0, c1, c2, c3, xl]) rfl ⟨_, rfl, ⟨_, rfl, IX.below ((Below.refl _ X).alloc (Nat.le_refl _) _)⟩, Y1.alloc Y1.size _⟩
end Go.Proofs.YtifaaacbbjlffaaDoor
