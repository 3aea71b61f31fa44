/- The contracts of wire.ReadNum, of (*wire.reader).words, of wire.ReadText and of wire.Text. -/
import Derived.Test.YtlmimmdaniggiaaDoorWireIs
import Derived.Test.YtlmimmdaniggiaaDoorWireNum
namespace Go.Proofs.YtlmimmdaniggiaaDoor
open Go.RowKit Go.Shelf Mor

theorem lt_of_block {w : World} {b : Nat} {o : Obj} (h : w.heap[b]? = some o) : b < w.heap.size := (Array.getElem?_eq_some_iff.1 h).1

theorem Errs.below {aE aF : Addr} {w w' : World} (h : Errs aE aF w) {B : Nat} (hB : Below B w w') (hs : w.heap.size ≤ B) : Errs aE aF w' := by
  obtain ⟨c1, t1, h1⟩ := h.he
  obtain ⟨c2, t2, h2⟩ := h.hf
  have l1 := lt_of_block h1
  have l2 := lt_of_block h2
  have := h.sz
  exact ⟨(hB.cell (p := ⟨0, 0, none⟩) (by simp; omega)).trans h.e, (hB.cell (p := ⟨1, 0, none⟩) (by simp; omega)).trans h.f, h.ne, ⟨c1, t1, (hB.block _ (by omega)).trans h1⟩, ⟨c2, t2, (hB.block _ (by omega)).trans h2⟩, Nat.lt_of_lt_of_le h.sz hB.size⟩

/-- the number that is told -/
def valOf (m sg : Nat) : Int := if sg = 1 then wrap64 (-1 - wrap64 m) else wrap64 m

/-- a reader lies at block b: its text, its place -/
structure Reader (s : ByteArray) (p : Int) (b : Nat) (w : World) : Prop where
  blk : w.heap[b]? = some (.cells #[.string s, .int .i64 p] 44 (0, 0))
theorem Reader.lt {s : ByteArray} {p : Int} {b : Nat} {w : World} (h : Reader s p b w) : b < w.heap.size := lt_of_block h.blk
theorem Reader.c0 {s : ByteArray} {p : Int} {b : Nat} {w : World} (h : Reader s p b w) : w.cell? ⟨b, 0, none⟩ = some (.string s) := by simp [World.cell?, h.blk]
theorem Reader.c1 {s : ByteArray} {p : Int} {b : Nat} {w : World} (h : Reader s p b w) : w.cell? ⟨b, 1, none⟩ = some (.int .i64 p) := by simp [World.cell?, h.blk]
theorem Reader.f1 {s : ByteArray} {p : Int} {b : Nat} {w : World} (h : Reader s p b w) : w.frozen? ⟨b, 1, none⟩ = false := by simp [World.frozen?, h.blk]
theorem Reader.new (s : ByteArray) (p : Int) (w : World) : Reader s p w.heap.size (w.alloc (.cells #[.string s, .int .i64 p] 44)) := ⟨World.alloc_heap_new w _⟩
theorem Reader.set {s : ByteArray} {p : Int} {b : Nat} {w : World} (h : Reader s p b w) (q : Int) : Reader s q b (w.setCell ⟨b, 1, none⟩ (.int .i64 q)) :=
  ⟨heap_setCell_same w b 1 _ _ _ h.blk⟩
theorem Reader.below {s : ByteArray} {p : Int} {b : Nat} {w w' : World} (h : Reader s p b w) {B : Nat} (hB : Below B w w') (hb : b < B) : Reader s p b w' := ⟨(hB.block b hb).trans h.blk⟩

/-- number, at any place -/
theorem number_bad (s : ByteArray) (hs : s.size ≤ 281474976710656) (p : Int) (b : Nat) (aE aF : Addr) (w : World) (hr : Reader s p b w) (he : Errs aE aF w) (h : ∀ m sg size, numRes s p ≠ .num m sg size) :
    Calls Tryd.prog 15 #[.pointer (some ⟨b, 0, none⟩)] w fun e w' => (e = .returned (.tuple #[.int .i64 0, errV aE]) ∨ e = .returned (.tuple #[.int .i64 0, errV aF])) ∧ Below w.heap.size w w' := by
  by_cases hh : hasB s p 1 = true
  · have hp : 0 ≤ p ∧ p ≤ s.size ∧ 1 ≤ s.size - p := by simpa [hasB] using hh
    obtain ⟨n, rfl⟩ := Int.eq_ofNat_of_zero_le hp.1
    have c := number_some s hs n b aE aF w hr.lt he.sz hr.c0 hr.c1 hr.f1 he.e he.f (by omega)
    rw [numRes, if_pos hp, Int.toNat_natCast] at h
    cases hsc : scan (s.data.toList.drop n) 0 0 0 with
    | ends => rw [hsc] at c; exact c.mono fun e w' ⟨h1, h2⟩ => ⟨.inl h1, h2⟩
    | form => rw [hsc] at c; exact c.mono fun e w' ⟨h1, h2⟩ => ⟨.inr h1, h2⟩
    | num m sg size => exact absurd hsc (h m sg size)
  · have hz := he.sz
    exact (number_none s hs p b aE w hr.lt (by omega) hr.c0 hr.c1 he.e (by simpa using hh)).mono fun e w' ⟨h1, h2⟩ => ⟨.inl h1, h2⟩

theorem number_ok (s : ByteArray) (hs : s.size ≤ 281474976710656) (p : Int) (b : Nat) (aE aF : Addr) (w : World) (hr : Reader s p b w) (he : Errs aE aF w) (m sg size : Nat) (h : numRes s p = .num m sg size) :
    Calls Tryd.prog 15 #[.pointer (some ⟨b, 0, none⟩)] w fun e w' => e = .returned (.tuple #[.int .i64 (valOf m sg), .nilIface]) ∧ Below w.heap.size (w.setCell ⟨b, 1, none⟩ (.int .i64 (p + size))) w' := by
  rw [numRes] at h
  split at h
  · rename_i hp
    obtain ⟨n, rfl⟩ := Int.eq_ofNat_of_zero_le hp.1
    have c := number_some s hs n b aE aF w hr.lt he.sz hr.c0 hr.c1 hr.f1 he.e he.f (by omega)
    rw [Int.toNat_natCast] at h
    rw [h] at c
    exact c.mono fun e w' ⟨h1, h2⟩ => ⟨h1, by rw [Int.natCast_add] at h2; exact h2⟩
  · cases h

set_option maxHeartbeats 400000 in
theorem readNum_bad (s : ByteArray) (hs : s.size ≤ 281474976710656) (p : Int) (aE aF : Addr) (w : World) (he : Errs aE aF w) (h : ∀ m sg size, numRes s p ≠ .num m sg size) :
    Calls Tryd.prog 9 #[.string s, .int .i64 p] w fun e w' => e = .returned (.tuple #[.int .i64 0, .int .i64 0, .int .i64 10]) ∧ Below w.heap.size w w' := by
  have H := Lib.hid h
  have hB0 : Below w.heap.size w (w.alloc (.cells #[.string s, .int .i64 p] 44)) := (Below.refl _ w).alloc (Nat.le_refl _) _
  have he0 := Lib.hid (he.below hB0 (Nat.le_refl _))
  have hr0 := Reader.new s p w
  clear h
  go_enter Tryd.func9, Tryd.ntmps9
  go_wp2_with fail
  refine (number_bad s hs p _ aE aF _ hr0 he0.out H.out).mono ?_
  rintro e w1 ⟨rfl | rfl, hb⟩
  · have he1 := Lib.hid (he0.out.below hb (Nat.le_refl _))
    go_wp2_with fail
    refine (wrong_e aE aF _ he1.out).mono ?_
    rintro e w' ⟨rfl, rfl⟩
    go_wp2
    go_ret3
    exact ⟨rfl, hB0.trans (hb.mono (by simp))⟩
  · have he1 := Lib.hid (he0.out.below hb (Nat.le_refl _))
    go_wp2_with fail
    refine (wrong_f aE aF _ he1.out).mono ?_
    rintro e w' ⟨rfl, rfl⟩
    go_wp2
    go_ret3
    exact ⟨rfl, hB0.trans (hb.mono (by simp))⟩

set_option maxHeartbeats 400000 in
theorem readNum_ok (s : ByteArray) (hs : s.size ≤ 281474976710656) (p : Int) (aE aF : Addr) (w : World) (he : Errs aE aF w) (m sg size : Nat) (h : numRes s p = .num m sg size) :
    Calls Tryd.prog 9 #[.string s, .int .i64 p] w fun e w' => e = .returned (.tuple #[.int .i64 (valOf m sg), .int .i64 (p + size), .int .i64 0]) ∧ Below w.heap.size w w' := by
  have H := Lib.hid h
  have hB0 : Below w.heap.size w (w.alloc (.cells #[.string s, .int .i64 p] 44)) := (Below.refl _ w).alloc (Nat.le_refl _) _
  have he0 := Lib.hid (he.below hB0 (Nat.le_refl _))
  have hr0 := Reader.new s p w
  clear h
  go_enter Tryd.func9, Tryd.ntmps9
  go_wp2_with fail
  refine (number_ok s hs p _ aE aF _ hr0 he0.out m sg size H.out).mono ?_
  rintro e w1 ⟨rfl, hb⟩
  have hB1 : Below w.heap.size w w1 := (hB0.setCell (p := ⟨w.heap.size, 1, none⟩) (Nat.le_refl _) (.int .i64 (p + size))).trans (hb.mono (by simp))
  have he1 := Lib.hid (he.below hB1 (Nat.le_refl _))
  have hr1 := (hr0.set (p + size)).below hb (by simp)
  have k1 := hr1.c1
  clear hr0 hb
  go_wp2_with fail
  refine (wrong_nil aE aF _ he1.out).mono ?_
  rintro e w' ⟨rfl, rfl⟩
  go_wp2
  refine wp_still (by kernel_rfl) (by kernel_rfl) ?_
  repeat still_step
  refine wpStill_nil ?_
  go_wp2
  go_ret3
  exact ⟨rfl, hB1.drew⟩

end Go.Proofs.YtlmimmdaniggiaaDoor
