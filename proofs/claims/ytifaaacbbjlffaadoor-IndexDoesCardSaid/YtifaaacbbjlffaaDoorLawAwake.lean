/- The contract of the law's awake: it tells true. -/
import Derived.Test.YtifaaacbbjlffaaDoorAwakePlain
namespace Go.Proofs.YtifaaacbbjlffaaDoor
open Go.RowKit Mor

/-- an index of one's own, and what there was ahead of it as it was -/
structure Own (w0 : World) (xb : Nat) (L : List Pr) (W : World) : Prop where
  x : IsX w0.heap.size W xb L
  b : Below w0.heap.size w0 W
theorem Own.did {w0 : World} {xb : Nat} {L L' : List Pr} {W W' : World} (h : Own w0 xb L W) (hx : IsX w0.heap.size W' xb L') (hf : Fx w0.heap.size W W') : Own w0 xb L' W' := ⟨hx, h.b.trans (hf.below (Nat.le_refl _) h.b.size)⟩
theorem Own.below {w0 : World} {xb : Nat} {L : List Pr} {W W' : World} (h : Own w0 xb L W) (hb : Below W.heap.size W W') : Own w0 xb L W' := ⟨h.x.below hb, h.b.trans (hb.mono h.b.size)⟩
theorem szV_bare (k n : Int) : SzV ⟨k, n, ⟨#[]⟩, []⟩ := ⟨by simp [ByteArray.size], fun p hp => by simp at hp⟩
theorem isI_new2 (W : World) (x y : Int) (n : Nat) (hn : n = W.heap.size) : IsI (W.alloc (.cells #[.int .i64 x, .int .i64 y] 3)) (.slice (some ⟨n, 0, none⟩) 2 2) [x, y] := by
  subst hn
  refine ⟨_, 2, rfl, by simp, by simp, by unfold maxLen; omega, (fun h => by cases h), fun j z hj => ⟨⟨_, _, rfl, ?_⟩, _, _, _, rfl, new_block W _ _ rfl⟩⟩
  rw [Nat.zero_add, World.cell?_alloc_new]
  match j, hj with
  | 0, hj => simp at hj; subst hj; rfl
  | 1, hj => simp at hj; subst hj; rfl
  | j + 2, hj => simp at hj
theorem isI_new3 (W : World) (x y u : Int) (n : Nat) (hn : n = W.heap.size) : IsI (W.alloc (.cells #[.int .i64 x, .int .i64 y, .int .i64 u] 3)) (.slice (some ⟨n, 0, none⟩) 3 3) [x, y, u] := by
  subst hn
  refine ⟨_, 3, rfl, by simp, by simp, by unfold maxLen; omega, (fun h => by cases h), fun j z hj => ⟨⟨_, _, rfl, ?_⟩, _, _, _, rfl, new_block W _ _ rfl⟩⟩
  rw [Nat.zero_add, World.cell?_alloc_new]
  match j, hj with
  | 0, hj => simp at hj; subst hj; rfl
  | 1, hj => simp at hj; subst hj; rfl
  | 2, hj => simp at hj; subst hj; rfl
  | j + 3, hj => simp at hj

set_option maxHeartbeats 4000000 in
theorem awake_any (w : World) (hT : Tabs w) : Calls Tryd.prog 9 #[] w fun e w' => e = .returned (.bool true) ∧ Below w.heap.size w w' := by
  have HT := Lib.hid hT
  clear hT
  go_enter Tryd.func9, Tryd.ntmps9
  go_wp2_with fail
  refine (new_any _).mono ?_
  rintro e w1 ⟨rfl, x1, b1⟩
  have hb : Own w w.heap.size [] (((w1.alloc (valObj five (.slice none 0 0))).alloc (valObj seven (.slice none 0 0))).alloc (valObj six (.slice none 0 0))) := (Own.mk x1 b1).below ((((Below.refl _ w1).alloc (Nat.le_refl _) _).alloc (by simp) _).alloc (by simp; omega) _)
  have O := Lib.hid hb
  have V5 : Hid ((((w1.alloc (valObj five (.slice none 0 0))).alloc (valObj seven (.slice none 0 0))).alloc (valObj six (.slice none 0 0))).heap[w1.heap.size]? = some (valObj five (.slice none 0 0))) := (Below.heap_alloc _ _ _ (by simp; omega)).trans ((Below.heap_alloc _ _ _ (by simp)).trans (new_block w1 _ _ rfl))
  have V7 : Hid ((((w1.alloc (valObj five (.slice none 0 0))).alloc (valObj seven (.slice none 0 0))).alloc (valObj six (.slice none 0 0))).heap[w1.heap.size + 1]? = some (valObj seven (.slice none 0 0))) := (Below.heap_alloc _ _ _ (by simp)).trans (new_block _ _ _ (by simp))
  have V6 : Hid ((((w1.alloc (valObj five (.slice none 0 0))).alloc (valObj seven (.slice none 0 0))).alloc (valObj six (.slice none 0 0))).heap[w1.heap.size + 1 + 1]? = some (valObj six (.slice none 0 0))) := new_block _ _ _ (by simp)
  clear hb x1 b1
  go_wp2_with fail
  have h2 := putX_any five (.agg #[.int .i64 1, .int .i64 5, .string ⟨#[]⟩, .slice none 0 0]) 2 _ (HT.out.below O.out.b) (szV_bare _ _) (isVx_bare _ _ _ _) O.out.x (by decide)
  rw [aw1.1, aw1.2] at h2
  refine h2.mono ?_
  clear h2
  intro e w2 hG
  obtain ⟨rfl, x, f⟩ := hG
  replace O := Lib.hid (O.out.did x f)
  replace V5 : Hid (w2.heap[w1.heap.size]? = some (valObj five (.slice none 0 0))) := (f.vals _ _ _ V5.out).trans V5.out
  replace V7 : Hid (w2.heap[w1.heap.size + 1]? = some (valObj seven (.slice none 0 0))) := (f.vals _ _ _ V7.out).trans V7.out
  replace V6 : Hid (w2.heap[w1.heap.size + 1 + 1]? = some (valObj six (.slice none 0 0))) := (f.vals _ _ _ V6.out).trans V6.out
  obtain ⟨p0, p1, p2, p3⟩ := val_cells V5.out
  obtain ⟨q0, q1, q2, q3⟩ := val_cells V7.out
  obtain ⟨r0, r1, r2, r3⟩ := val_cells V6.out
  unfold five at p0 p1 p2
  unfold seven at q0 q1 q2
  unfold six at r0 r1 r2
  clear x f
  go_wp2_with fail
  have h3 := putX_any five (.agg #[.int .i64 1, .int .i64 5, .string ⟨#[]⟩, .slice none 0 0]) 1 _ (HT.out.below O.out.b) (szV_bare _ _) (isVx_bare _ _ _ _) O.out.x (by decide)
  rw [aw2.1, aw2.2] at h3
  refine h3.mono ?_
  clear h3
  intro e w3 hG
  obtain ⟨rfl, x, f⟩ := hG
  replace O := Lib.hid (O.out.did x f)
  replace V5 : Hid (w3.heap[w1.heap.size]? = some (valObj five (.slice none 0 0))) := (f.vals _ _ _ V5.out).trans V5.out
  replace V7 : Hid (w3.heap[w1.heap.size + 1]? = some (valObj seven (.slice none 0 0))) := (f.vals _ _ _ V7.out).trans V7.out
  replace V6 : Hid (w3.heap[w1.heap.size + 1 + 1]? = some (valObj six (.slice none 0 0))) := (f.vals _ _ _ V6.out).trans V6.out
  clear p0 p1 p2 p3 q0 q1 q2 q3 r0 r1 r2 r3
  obtain ⟨p0, p1, p2, p3⟩ := val_cells V5.out
  obtain ⟨q0, q1, q2, q3⟩ := val_cells V7.out
  obtain ⟨r0, r1, r2, r3⟩ := val_cells V6.out
  unfold five at p0 p1 p2
  unfold seven at q0 q1 q2
  unfold six at r0 r1 r2
  clear x f
  go_wp2_with fail
  have h4 := putX_any seven (.agg #[.int .i64 1, .int .i64 7, .string ⟨#[]⟩, .slice none 0 0]) 3 _ (HT.out.below O.out.b) (szV_bare _ _) (isVx_bare _ _ _ _) O.out.x (by decide)
  rw [aw3.1, aw3.2] at h4
  refine h4.mono ?_
  clear h4
  intro e w4 hG
  obtain ⟨rfl, x, f⟩ := hG
  replace O := Lib.hid (O.out.did x f)
  replace V5 : Hid (w4.heap[w1.heap.size]? = some (valObj five (.slice none 0 0))) := (f.vals _ _ _ V5.out).trans V5.out
  replace V7 : Hid (w4.heap[w1.heap.size + 1]? = some (valObj seven (.slice none 0 0))) := (f.vals _ _ _ V7.out).trans V7.out
  replace V6 : Hid (w4.heap[w1.heap.size + 1 + 1]? = some (valObj six (.slice none 0 0))) := (f.vals _ _ _ V6.out).trans V6.out
  clear p0 p1 p2 p3 q0 q1 q2 q3 r0 r1 r2 r3
  obtain ⟨p0, p1, p2, p3⟩ := val_cells V5.out
  obtain ⟨q0, q1, q2, q3⟩ := val_cells V7.out
  obtain ⟨r0, r1, r2, r3⟩ := val_cells V6.out
  unfold five at p0 p1 p2
  unfold seven at q0 q1 q2
  unfold six at r0 r1 r2
  clear x f
  go_wp2_with fail
  have h5 := putX_any five (.agg #[.int .i64 1, .int .i64 5, .string ⟨#[]⟩, .slice none 0 0]) 2 _ (HT.out.below O.out.b) (szV_bare _ _) (isVx_bare _ _ _ _) O.out.x (by decide)
  rw [aw4.1, aw4.2] at h5
  refine h5.mono ?_
  clear h5
  intro e w5 hG
  obtain ⟨rfl, x, f⟩ := hG
  replace O := Lib.hid (O.out.did x f)
  replace V5 : Hid (w5.heap[w1.heap.size]? = some (valObj five (.slice none 0 0))) := (f.vals _ _ _ V5.out).trans V5.out
  replace V7 : Hid (w5.heap[w1.heap.size + 1]? = some (valObj seven (.slice none 0 0))) := (f.vals _ _ _ V7.out).trans V7.out
  replace V6 : Hid (w5.heap[w1.heap.size + 1 + 1]? = some (valObj six (.slice none 0 0))) := (f.vals _ _ _ V6.out).trans V6.out
  clear p0 p1 p2 p3 q0 q1 q2 q3 r0 r1 r2 r3
  obtain ⟨p0, p1, p2, p3⟩ := val_cells V5.out
  obtain ⟨q0, q1, q2, q3⟩ := val_cells V7.out
  obtain ⟨r0, r1, r2, r3⟩ := val_cells V6.out
  unfold five at p0 p1 p2
  unfold seven at q0 q1 q2
  unfold six at r0 r1 r2
  clear x f
  go_wp2_with fail
  have h6 := putX_any five (.agg #[.int .i64 1, .int .i64 5, .string ⟨#[]⟩, .slice none 0 0]) 0 _ (HT.out.below O.out.b) (szV_bare _ _) (isVx_bare _ _ _ _) O.out.x (by decide)
  rw [aw5.1, aw5.2] at h6
  refine h6.mono ?_
  clear h6
  intro e w6 hG
  obtain ⟨rfl, x, f⟩ := hG
  replace O := Lib.hid (O.out.did x f)
  replace V5 : Hid (w6.heap[w1.heap.size]? = some (valObj five (.slice none 0 0))) := (f.vals _ _ _ V5.out).trans V5.out
  replace V7 : Hid (w6.heap[w1.heap.size + 1]? = some (valObj seven (.slice none 0 0))) := (f.vals _ _ _ V7.out).trans V7.out
  replace V6 : Hid (w6.heap[w1.heap.size + 1 + 1]? = some (valObj six (.slice none 0 0))) := (f.vals _ _ _ V6.out).trans V6.out
  clear p0 p1 p2 p3 q0 q1 q2 q3 r0 r1 r2 r3
  obtain ⟨p0, p1, p2, p3⟩ := val_cells V5.out
  obtain ⟨q0, q1, q2, q3⟩ := val_cells V7.out
  obtain ⟨r0, r1, r2, r3⟩ := val_cells V6.out
  unfold five at p0 p1 p2
  unfold seven at q0 q1 q2
  unfold six at r0 r1 r2
  clear x f
  go_wp2_with fail
  have h7 := putX_any nine (.agg #[.int .i64 9, .int .i64 0, .string ⟨#[]⟩, .slice none 0 0]) 1 _ (HT.out.below O.out.b) (szV_bare _ _) (isVx_bare _ _ _ _) O.out.x (by decide)
  rw [aw6.1, aw6.2] at h7
  refine h7.mono ?_
  clear h7
  intro e w7 hG
  obtain ⟨rfl, x, f⟩ := hG
  replace O := Lib.hid (O.out.did x f)
  replace V5 : Hid (w7.heap[w1.heap.size]? = some (valObj five (.slice none 0 0))) := (f.vals _ _ _ V5.out).trans V5.out
  replace V7 : Hid (w7.heap[w1.heap.size + 1]? = some (valObj seven (.slice none 0 0))) := (f.vals _ _ _ V7.out).trans V7.out
  replace V6 : Hid (w7.heap[w1.heap.size + 1 + 1]? = some (valObj six (.slice none 0 0))) := (f.vals _ _ _ V6.out).trans V6.out
  clear p0 p1 p2 p3 q0 q1 q2 q3 r0 r1 r2 r3
  obtain ⟨p0, p1, p2, p3⟩ := val_cells V5.out
  obtain ⟨q0, q1, q2, q3⟩ := val_cells V7.out
  obtain ⟨r0, r1, r2, r3⟩ := val_cells V6.out
  unfold five at p0 p1 p2
  unfold seven at q0 q1 q2
  unfold six at r0 r1 r2
  clear x f
  go_wp2_with fail
  have h8 := find_any five (.agg #[.int .i64 1, .int .i64 5, .string ⟨#[]⟩, .slice none 0 0]) _ (HT.out.below O.out.b) (szV_bare _ _) (isVx_bare _ _ _ _) O.out.x (by decide)
  rw [aw7] at h8
  refine h8.mono ?_
  clear h8
  intro e w8 hG
  obtain ⟨v8, rfl, i8, b8⟩ := hG
  obtain ⟨a8, c8, rfl⟩ := i8.len
  have I8 := Lib.hid i8
  replace O := Lib.hid (O.out.below b8)
  replace V5 : Hid (w8.heap[w1.heap.size]? = some (valObj five (.slice none 0 0))) := (b8.block _ (lt_of_block V5.out)).trans V5.out
  replace V7 : Hid (w8.heap[w1.heap.size + 1]? = some (valObj seven (.slice none 0 0))) := (b8.block _ (lt_of_block V7.out)).trans V7.out
  replace V6 : Hid (w8.heap[w1.heap.size + 1 + 1]? = some (valObj six (.slice none 0 0))) := (b8.block _ (lt_of_block V6.out)).trans V6.out
  clear p0 p1 p2 p3 q0 q1 q2 q3 r0 r1 r2 r3
  obtain ⟨p0, p1, p2, p3⟩ := val_cells V5.out
  obtain ⟨q0, q1, q2, q3⟩ := val_cells V7.out
  obtain ⟨r0, r1, r2, r3⟩ := val_cells V6.out
  unfold five at p0 p1 p2
  unfold seven at q0 q1 q2
  unfold six at r0 r1 r2
  clear i8 b8
  go_wp2_with fail
  have bN : ∀ o : Obj, Below w8.heap.size w8 (w8.alloc o) := fun o => (Below.refl _ w8).alloc (Nat.le_refl _) o
  refine (sameInts_any [1, 2] [1, 2] _ _ _ (I8.out.below (bN _)) (isI_new2 w8 1 2 _ rfl)).mono ?_
  rintro e w9 ⟨rfl, b9⟩
  have b9' : Below w8.heap.size w8 w9 := (bN (.cells #[.int .i64 1, .int .i64 2] 3)).trans (b9.mono (by simp))
  replace O := Lib.hid (O.out.below b9')
  replace V5 : Hid (w9.heap[w1.heap.size]? = some (valObj five (.slice none 0 0))) := (b9'.block _ (lt_of_block V5.out)).trans V5.out
  replace V7 : Hid (w9.heap[w1.heap.size + 1]? = some (valObj seven (.slice none 0 0))) := (b9'.block _ (lt_of_block V7.out)).trans V7.out
  replace V6 : Hid (w9.heap[w1.heap.size + 1 + 1]? = some (valObj six (.slice none 0 0))) := (b9'.block _ (lt_of_block V6.out)).trans V6.out
  clear p0 p1 p2 p3 q0 q1 q2 q3 r0 r1 r2 r3
  obtain ⟨p0, p1, p2, p3⟩ := val_cells V5.out
  obtain ⟨q0, q1, q2, q3⟩ := val_cells V7.out
  obtain ⟨r0, r1, r2, r3⟩ := val_cells V6.out
  unfold five at p0 p1 p2
  unfold seven at q0 q1 q2
  unfold six at r0 r1 r2
  clear b9 b9' bN
  simp only [decide_true]
  go_wp2_with fail
  have h10 := range_any five seven (.agg #[.int .i64 1, .int .i64 5, .string ⟨#[]⟩, .slice none 0 0]) (.agg #[.int .i64 1, .int .i64 7, .string ⟨#[]⟩, .slice none 0 0]) _ (HT.out.below O.out.b) (szV_bare _ _) (szV_bare _ _) (isVx_bare _ _ _ _) (isVx_bare _ _ _ _) O.out.x (by decide)
  rw [aw8] at h10
  refine h10.mono ?_
  clear h10
  intro e w10 hG
  obtain ⟨v10, rfl, i10, b10⟩ := hG
  obtain ⟨a10, c10, rfl⟩ := i10.len
  have I10 := Lib.hid i10
  replace O := Lib.hid (O.out.below b10)
  replace V5 : Hid (w10.heap[w1.heap.size]? = some (valObj five (.slice none 0 0))) := (b10.block _ (lt_of_block V5.out)).trans V5.out
  replace V7 : Hid (w10.heap[w1.heap.size + 1]? = some (valObj seven (.slice none 0 0))) := (b10.block _ (lt_of_block V7.out)).trans V7.out
  replace V6 : Hid (w10.heap[w1.heap.size + 1 + 1]? = some (valObj six (.slice none 0 0))) := (b10.block _ (lt_of_block V6.out)).trans V6.out
  clear p0 p1 p2 p3 q0 q1 q2 q3 r0 r1 r2 r3
  obtain ⟨p0, p1, p2, p3⟩ := val_cells V5.out
  obtain ⟨q0, q1, q2, q3⟩ := val_cells V7.out
  obtain ⟨r0, r1, r2, r3⟩ := val_cells V6.out
  unfold five at p0 p1 p2
  unfold seven at q0 q1 q2
  unfold six at r0 r1 r2
  clear i10 b10
  go_wp2_with fail
  have bN : ∀ o : Obj, Below w10.heap.size w10 (w10.alloc o) := fun o => (Below.refl _ w10).alloc (Nat.le_refl _) o
  refine (sameInts_any [1, 2, 3] [1, 2, 3] _ _ _ (I10.out.below (bN _)) (isI_new3 w10 1 2 3 _ rfl)).mono ?_
  rintro e w11 ⟨rfl, b11⟩
  have b11' : Below w10.heap.size w10 w11 := (bN (.cells #[.int .i64 1, .int .i64 2, .int .i64 3] 3)).trans (b11.mono (by simp))
  replace O := Lib.hid (O.out.below b11')
  replace V5 : Hid (w11.heap[w1.heap.size]? = some (valObj five (.slice none 0 0))) := (b11'.block _ (lt_of_block V5.out)).trans V5.out
  replace V7 : Hid (w11.heap[w1.heap.size + 1]? = some (valObj seven (.slice none 0 0))) := (b11'.block _ (lt_of_block V7.out)).trans V7.out
  replace V6 : Hid (w11.heap[w1.heap.size + 1 + 1]? = some (valObj six (.slice none 0 0))) := (b11'.block _ (lt_of_block V6.out)).trans V6.out
  clear p0 p1 p2 p3 q0 q1 q2 q3 r0 r1 r2 r3
  obtain ⟨p0, p1, p2, p3⟩ := val_cells V5.out
  obtain ⟨q0, q1, q2, q3⟩ := val_cells V7.out
  obtain ⟨r0, r1, r2, r3⟩ := val_cells V6.out
  unfold five at p0 p1 p2
  unfold seven at q0 q1 q2
  unfold six at r0 r1 r2
  clear b11 b11' bN
  simp only [decide_true]
  go_wp2_with fail
  have h12 := range_any six six (.agg #[.int .i64 1, .int .i64 6, .string ⟨#[]⟩, .slice none 0 0]) (.agg #[.int .i64 1, .int .i64 6, .string ⟨#[]⟩, .slice none 0 0]) _ (HT.out.below O.out.b) (szV_bare _ _) (szV_bare _ _) (isVx_bare _ _ _ _) (isVx_bare _ _ _ _) O.out.x (by decide)
  rw [aw9] at h12
  refine h12.mono ?_
  clear h12
  intro e w12 hG
  obtain ⟨v12, rfl, i12, b12⟩ := hG
  obtain ⟨a12, c12, rfl⟩ := i12.len
  replace O := Lib.hid (O.out.below b12)
  replace V5 : Hid (w12.heap[w1.heap.size]? = some (valObj five (.slice none 0 0))) := (b12.block _ (lt_of_block V5.out)).trans V5.out
  replace V7 : Hid (w12.heap[w1.heap.size + 1]? = some (valObj seven (.slice none 0 0))) := (b12.block _ (lt_of_block V7.out)).trans V7.out
  replace V6 : Hid (w12.heap[w1.heap.size + 1 + 1]? = some (valObj six (.slice none 0 0))) := (b12.block _ (lt_of_block V6.out)).trans V6.out
  clear p0 p1 p2 p3 q0 q1 q2 q3 r0 r1 r2 r3
  obtain ⟨p0, p1, p2, p3⟩ := val_cells V5.out
  obtain ⟨q0, q1, q2, q3⟩ := val_cells V7.out
  obtain ⟨r0, r1, r2, r3⟩ := val_cells V6.out
  unfold five at p0 p1 p2
  unfold seven at q0 q1 q2
  unfold six at r0 r1 r2
  clear i12 b12
  go_wp2_with fail
  refine (len_any w12 O.out.x).mono ?_
  rintro e w13 ⟨rfl, rfl⟩
  rw [show L3.length = 3 from rfl]
  go_wp2_with fail
  have h14 := dropX_any five (.agg #[.int .i64 1, .int .i64 5, .string ⟨#[]⟩, .slice none 0 0]) 1 _ (HT.out.below O.out.b) (szV_bare _ _) (isVx_bare _ _ _ _) O.out.x (by decide)
  rw [aw10.1, aw10.2] at h14
  refine h14.mono ?_
  clear h14
  intro e w14 hG
  obtain ⟨rfl, x, f⟩ := hG
  replace O := Lib.hid (O.out.did x f)
  replace V5 : Hid (w14.heap[w1.heap.size]? = some (valObj five (.slice none 0 0))) := (f.vals _ _ _ V5.out).trans V5.out
  replace V7 : Hid (w14.heap[w1.heap.size + 1]? = some (valObj seven (.slice none 0 0))) := (f.vals _ _ _ V7.out).trans V7.out
  replace V6 : Hid (w14.heap[w1.heap.size + 1 + 1]? = some (valObj six (.slice none 0 0))) := (f.vals _ _ _ V6.out).trans V6.out
  clear p0 p1 p2 p3 q0 q1 q2 q3 r0 r1 r2 r3
  obtain ⟨p0, p1, p2, p3⟩ := val_cells V5.out
  obtain ⟨q0, q1, q2, q3⟩ := val_cells V7.out
  obtain ⟨r0, r1, r2, r3⟩ := val_cells V6.out
  unfold five at p0 p1 p2
  unfold seven at q0 q1 q2
  unfold six at r0 r1 r2
  clear x f
  go_wp2_with fail
  have h15 := dropX_any five (.agg #[.int .i64 1, .int .i64 5, .string ⟨#[]⟩, .slice none 0 0]) 1 _ (HT.out.below O.out.b) (szV_bare _ _) (isVx_bare _ _ _ _) O.out.x (by decide)
  rw [aw11.1, aw11.2] at h15
  refine h15.mono ?_
  clear h15
  intro e w15 hG
  obtain ⟨rfl, x, f⟩ := hG
  replace O := Lib.hid (O.out.did x f)
  replace V5 : Hid (w15.heap[w1.heap.size]? = some (valObj five (.slice none 0 0))) := (f.vals _ _ _ V5.out).trans V5.out
  replace V7 : Hid (w15.heap[w1.heap.size + 1]? = some (valObj seven (.slice none 0 0))) := (f.vals _ _ _ V7.out).trans V7.out
  replace V6 : Hid (w15.heap[w1.heap.size + 1 + 1]? = some (valObj six (.slice none 0 0))) := (f.vals _ _ _ V6.out).trans V6.out
  clear p0 p1 p2 p3 q0 q1 q2 q3 r0 r1 r2 r3
  obtain ⟨p0, p1, p2, p3⟩ := val_cells V5.out
  obtain ⟨q0, q1, q2, q3⟩ := val_cells V7.out
  obtain ⟨r0, r1, r2, r3⟩ := val_cells V6.out
  unfold five at p0 p1 p2
  unfold seven at q0 q1 q2
  unfold six at r0 r1 r2
  clear x f
  go_wp2_with fail
  refine (len_any w15 O.out.x).mono ?_
  rintro e w16 ⟨rfl, rfl⟩
  rw [show L4.length = 2 from rfl]
  go_wp2_with fail
  go_ret
  exact ⟨by simp, O.out.b⟩
end Go.Proofs.YtifaaacbbjlffaaDoor
