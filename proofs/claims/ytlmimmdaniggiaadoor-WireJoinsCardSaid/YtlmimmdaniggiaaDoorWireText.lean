/- The contracts of (*wire.reader).words, of wire.ReadText and of wire.Text. -/
import Derived.Test.YtlmimmdaniggiaaDoorWireRead
namespace Go.Proofs.YtlmimmdaniggiaaDoor
open Go.RowKit Go.Shelf Mor

theorem grown_of_below_set {w w' : World} {a : Addr} {v : Value} (h : Below w.heap.size (w.setCell a v) w') : w.grownBy w' (some a.block) :=
  ⟨h.os, h.tape, h.output, by have := h.size; simpa [World.setCell] using this, fun k hk hne => (h.block k hk).trans (Below.heap_setCell _ _ _ _ (fun e => hne (by rw [e])))⟩
theorem grown_of_below {w w' : World} {r : Option Nat} (h : Below w.heap.size w w') : w.grownBy w' r := ⟨h.os, h.tape, h.output, h.size, fun k hk _ => h.block k hk⟩
theorem grown_trans' {a b c : World} {r : Option Nat} (h : a.grownBy b r) (k : b.grownBy c r) : a.grownBy c r :=
  ⟨k.os.trans h.os, k.tape.trans h.tape, k.output.trans h.output, Nat.le_trans h.size k.size, fun i hi hne => (k.block i (Nat.lt_of_lt_of_le hi h.size) hne).trans (h.block i hi hne)⟩
theorem grown_drew' {a b : World} {r : Option Nat} (h : a.grownBy b r) : a.grownBy b.drew r := ⟨h.os, h.tape, h.output, h.size, h.block⟩
theorem Errs.grown {aE aF : Addr} {w w' : World} {b : Nat} (h : Errs aE aF w) (hg : w.grownBy w' (some b)) (h0 : b ≠ 0) (h1 : b ≠ 1) (h2 : b ≠ aE.block) (h3 : b ≠ aF.block) : Errs aE aF w' := by
  obtain ⟨c1, t1, q1⟩ := h.he
  obtain ⟨c2, t2, q2⟩ := h.hf
  have := h.sz
  exact ⟨(World.cell?_of_block (w := w) (hg.block 0 (by omega) (by simpa using Ne.symm h0))).trans h.e, (World.cell?_of_block (w := w) (hg.block 1 (by omega) (by simpa using Ne.symm h1))).trans h.f, h.ne,
    ⟨c1, t1, (hg.block _ (lt_of_block q1) (by simpa using Ne.symm h2)).trans q1⟩, ⟨c2, t2, (hg.block _ (lt_of_block q2) (by simpa using Ne.symm h3)).trans q2⟩, Nat.lt_of_lt_of_le h.sz hg.size⟩

set_option maxHeartbeats 400000 in
theorem words_bad1 (s : ByteArray) (hs : s.size ≤ 281474976710656) (p : Int) (b : Nat) (aE aF : Addr) (w : World) (hr : Reader s p b w) (he : Errs aE aF w) (h : ∀ m sg size, numRes s p ≠ .num m sg size) :
    Calls Tryd.prog 18 #[.pointer (some ⟨b, 0, none⟩)] w fun e w' => (e = .returned (.tuple #[.string ⟨#[]⟩, errV aE]) ∨ e = .returned (.tuple #[.string ⟨#[]⟩, errV aF])) ∧ w.grownBy w' (some b) := by
  have H := Lib.hid h
  clear h
  go_enter Tryd.func18, Tryd.ntmps18
  go_wp2_with fail
  refine (number_bad s hs p b aE aF w hr he H.out).mono ?_
  rintro e w1 ⟨rfl | rfl, hb⟩
  · go_wp2
    go_ret2
    exact ⟨.inl rfl, grown_of_below hb⟩
  · go_wp2
    go_ret2
    exact ⟨.inr rfl, grown_of_below hb⟩

set_option maxRecDepth 100000 in
set_option maxHeartbeats 400000 in
theorem words_num (s : ByteArray) (hs : s.size ≤ 281474976710656) (p : Int) (b : Nat) (aE aF : Addr) (w : World) (hr : Reader s p b w) (he : Errs aE aF w) (m sg size : Nat) (h : numRes s p = .num m sg size) (hb0 : b ≠ 0) (hb1 : b ≠ 1)
    (hbad : ¬ (0 ≤ valOf m sg ∧ valOf m sg ≤ 10000 ∧ hasB s (p + size) (valOf m sg) = true)) :
    Calls Tryd.prog 18 #[.pointer (some ⟨b, 0, none⟩)] w fun e w' => (e = .returned (.tuple #[.string ⟨#[]⟩, errV aE]) ∨ e = .returned (.tuple #[.string ⟨#[]⟩, errV aF])) ∧ w.grownBy w' (some b) := by
  have H := Lib.hid h
  have HB := Lib.hid hbad
  clear h hbad
  go_enter Tryd.func18, Tryd.ntmps18
  go_wp2_with fail
  refine (number_ok s hs p b aE aF w hr he m sg size H.out).mono ?_
  rintro e w1 ⟨rfl, hb⟩
  have hg1 := grown_of_below_set hb
  have hr1 := (hr.set (p + size)).below hb hr.lt
  have hsz := he.sz
  have g0 := (World.cell?_of_block (w := w) (w' := w1) (a := ⟨0, 0, none⟩) (hg1.block 0 (by omega) (by simpa using Ne.symm hb0))).trans he.e
  have g1 := (World.cell?_of_block (w := w) (w' := w1) (a := ⟨1, 0, none⟩) (hg1.block 1 (by omega) (by simpa using Ne.symm hb1))).trans he.f
  have k0 := hr1.c0
  have k1 := hr1.c1
  have HG := Lib.hid hg1
  clear hb hg1
  generalize valOf m sg = n at *
  by_cases hn0 : n < 0
  · go_wp2
    refine wp_still (by kernel_rfl) (by kernel_rfl) ?_
    repeat still_step
    refine wpStill_nil ?_
    go_wp2
    go_ret2
    exact ⟨.inr rfl, grown_drew' HG.out⟩
  · by_cases hn1 : 10000 < n
    · go_wp2
      refine wp_still (by kernel_rfl) (by kernel_rfl) ?_
      repeat still_step
      refine wpStill_nil ?_
      go_wp2
      go_ret2
      exact ⟨.inr rfl, grown_drew' HG.out⟩
    · have hh : hasB s (p + size) n = false := by
        cases hx : hasB s (p + size) n with
        | false => rfl
        | true => exact absurd ⟨by omega, by omega, hx⟩ HB.out
      go_wp2
      refine wp_still (by kernel_rfl) (by kernel_rfl) ?_
      repeat first | still_step | still_call (has_still _ _ _ _ hs)
      refine wpStill_nil ?_
      go_wp2
      refine wp_still (by kernel_rfl) (by kernel_rfl) ?_
      repeat still_step
      refine wpStill_nil ?_
      go_wp2
      go_ret2
      exact ⟨.inl rfl, grown_drew' (grown_drew' HG.out)⟩

/-- the bytes of a text from one place to another -/
def cutB (s : ByteArray) (a b : Nat) : ByteArray := s.extract a b

set_option maxRecDepth 100000 in
set_option maxHeartbeats 400000 in
theorem words_ok (s : ByteArray) (hs : s.size ≤ 281474976710656) (p : Nat) (b : Nat) (aE aF : Addr) (w : World) (hr : Reader s (p : Int) b w) (he : Errs aE aF w) (m sg size n : Nat) (h : numRes s p = .num m sg size)
    (hn : valOf m sg = n) (hn1 : n ≤ 10000) (hh : hasB s (p + size) n = true) :
    Calls Tryd.prog 18 #[.pointer (some ⟨b, 0, none⟩)] w fun e w' => e = .returned (.tuple #[.string (s.extract (p + size) (p + size + n)), .nilIface]) ∧ w.grownBy w' (some b) ∧ Reader s ((p + size + n : Nat) : Int) b w' := by
  have H := Lib.hid h
  have HN := Lib.hid hn
  have hb4 : p + size + n ≤ s.size := by
    have : 0 ≤ (p : Int) + size ∧ (p : Int) + size ≤ s.size ∧ (n : Int) ≤ s.size - (p + size) := by simpa [hasB] using hh
    omega
  obtain ⟨q, hq⟩ : ∃ q : Nat, q = p + size := ⟨_, rfl⟩
  have e1 := Lib.hid (show (p : Int) + (size : Int) = (q : Int) by omega)
  rw [e1.out] at hh
  rw [← hq] at hb4 ⊢
  clear h hn hq
  go_enter Tryd.func18, Tryd.ntmps18
  go_wp2_with fail
  refine (number_ok s hs p b aE aF w hr he m sg size H.out).mono ?_
  rintro e w1 ⟨rfl, hb⟩
  have hg1 := grown_of_below_set hb
  have hr1 := (hr.set (p + size)).below hb hr.lt
  rw [HN.out]
  rw [e1.out] at hr1
  have k0 := hr1.c0
  have k1 := hr1.c1
  have kf := hr1.f1
  have HG := Lib.hid hg1
  clear hb hg1
  go_wp2
  refine wp_still (by kernel_rfl) (by kernel_rfl) ?_
  repeat first | still_step | still_call (has_still _ _ _ _ hs)
  refine wpStill_nil ?_
  obtain ⟨r, hr'⟩ : ∃ r : Nat, r = q + n := ⟨_, rfl⟩
  have HRR := Lib.hid hr'
  have hqr : (q : Int) + (n : Int) = (r : Int) := by omega
  have hqr2 : IntKind.i64.wrap ((r : Int) - (n : Int)) = (q : Int) := by rw [IntWalk.i64_in _ (by omega)]; omega
  have hqle : q ≤ r := by omega
  have hrle : r ≤ s.size := by omega
  clear hr'
  have hr2 := hr1.set (r : Int)
  have l0 := hr2.c0
  have l1 := hr2.c1
  go_wp2
  refine wp_still (by kernel_rfl) (by kernel_rfl) ?_
  repeat still_step
  refine wpStill_nil ?_
  go_wp2
  go_ret2
  have hg2 := grown_trans' HG.out (grownBy_setCellA w1 ⟨b, 1, none⟩ (.int .i64 (r : Int)))
  rw [← HRR.out]
  exact ⟨rfl, grown_drew' (grown_drew' hg2), ⟨heap_drew (heap_drew hr2.blk)⟩⟩

/-- what reading a text comes to: the text, and the place behind it -/
def textRes (s : ByteArray) (p : Int) : Option (ByteArray × Nat) := match numRes s p with
  | .num m sg size => if 0 ≤ valOf m sg ∧ valOf m sg ≤ 10000 ∧ hasB s (p + size) (valOf m sg) = true then some (s.extract (p.toNat + size) (p.toNat + size + (valOf m sg).toNat), p.toNat + size + (valOf m sg).toNat) else none
  | _ => none

theorem words_bad (s : ByteArray) (hs : s.size ≤ 281474976710656) (p : Int) (b : Nat) (aE aF : Addr) (w : World) (hr : Reader s p b w) (he : Errs aE aF w) (h : textRes s p = none) (hb0 : b ≠ 0) (hb1 : b ≠ 1) :
    Calls Tryd.prog 18 #[.pointer (some ⟨b, 0, none⟩)] w fun e w' => (e = .returned (.tuple #[.string ⟨#[]⟩, errV aE]) ∨ e = .returned (.tuple #[.string ⟨#[]⟩, errV aF])) ∧ w.grownBy w' (some b) := by
  cases hn : numRes s p with
  | ends => exact words_bad1 s hs p b aE aF w hr he (by rw [hn]; intro _ _ _ e; cases e)
  | form => exact words_bad1 s hs p b aE aF w hr he (by rw [hn]; intro _ _ _ e; cases e)
  | num m sg size =>
    refine words_num s hs p b aE aF w hr he m sg size hn hb0 hb1 (fun hh => ?_)
    rw [textRes, hn] at h
    simp only [hh, and_self, if_true] at h
    cases h

set_option maxHeartbeats 400000 in
theorem readText_bad (s : ByteArray) (hs : s.size ≤ 281474976710656) (p : Int) (aE aF : Addr) (w : World) (he : Errs aE aF w) (h : textRes s p = none) :
    Calls Tryd.prog 12 #[.string s, .int .i64 p] w fun e w' => e = .returned (.tuple #[.string ⟨#[]⟩, .int .i64 0, .int .i64 10]) ∧ Below w.heap.size w w' := by
  have H := Lib.hid h
  have hB0 : Below w.heap.size w (w.alloc (.cells #[.string s, .int .i64 p] 44)) := (Below.refl _ w).alloc (Nat.le_refl _) _
  have he0 := Lib.hid (he.below hB0 (Nat.le_refl _))
  have hr0 := Reader.new s p w
  have hsz := he.sz
  clear h
  go_enter Tryd.func12, Tryd.ntmps12
  go_wp2_with fail
  refine (words_bad s hs p _ aE aF _ hr0 he0.out H.out (by omega) (by omega)).mono ?_
  rintro e w1 ⟨hor, hg⟩
  have hB1 : Below w.heap.size w w1 := hB0.grown hg (by simp) (fun k e => by cases e; exact Nat.le_refl _)
  have he1 := Lib.hid (he.below hB1 (Nat.le_refl _))
  clear hg
  rcases hor with rfl | rfl
  · go_wp2_with fail
    refine (wrong_e aE aF _ he1.out).mono ?_
    rintro e w' ⟨rfl, rfl⟩
    go_wp2
    go_ret3
    exact ⟨rfl, hB1⟩
  · go_wp2_with fail
    refine (wrong_f aE aF _ he1.out).mono ?_
    rintro e w' ⟨rfl, rfl⟩
    go_wp2
    go_ret3
    exact ⟨rfl, hB1⟩

set_option maxHeartbeats 400000 in
theorem readText_ok (s : ByteArray) (hs : s.size ≤ 281474976710656) (p : Int) (aE aF : Addr) (w : World) (he : Errs aE aF w) (t : ByteArray) (q : Nat) (h : textRes s p = some (t, q)) :
    Calls Tryd.prog 12 #[.string s, .int .i64 p] w fun e w' => e = .returned (.tuple #[.string t, .int .i64 (q : Int), .int .i64 0]) ∧ Below w.heap.size w w' := by
  have hB0 : Below w.heap.size w (w.alloc (.cells #[.string s, .int .i64 p] 44)) := (Below.refl _ w).alloc (Nat.le_refl _) _
  have he0 := Lib.hid (he.below hB0 (Nat.le_refl _))
  have hr0 := Reader.new s p w
  have hsz := he.sz
  have hw : Calls Tryd.prog 18 #[.pointer (some ⟨w.heap.size, 0, none⟩)] (w.alloc (.cells #[.string s, .int .i64 p] 44)) fun e w' => e = .returned (.tuple #[.string t, .nilIface]) ∧ (w.alloc (.cells #[.string s, .int .i64 p] 44)).grownBy w' (some w.heap.size) ∧ Reader s (q : Int) w.heap.size w' := by
    rw [textRes] at h
    split at h
    · rename_i m sg size hn
      split at h
      · rename_i hc
        have hp : 0 ≤ p := by
          rw [numRes] at hn
          split at hn
          · rename_i h1; exact h1.1
          · cases hn
        obtain ⟨n, rfl⟩ := Int.eq_ofNat_of_zero_le hp
        obtain ⟨v, hv⟩ := Int.eq_ofNat_of_zero_le hc.1
        simp only [Option.some.injEq, Prod.mk.injEq, Int.toNat_natCast] at h
        obtain ⟨rfl, rfl⟩ := h
        rw [hv] at hc ⊢
        exact words_ok s hs n _ aE aF _ hr0 he0.out m sg size v hn hv (by omega) hc.2.2
      · cases h
    · cases h
  have HW := Lib.hid hw
  clear hw h
  go_enter Tryd.func12, Tryd.ntmps12
  go_wp2_with fail
  refine HW.out.mono ?_
  rintro e w1 ⟨rfl, hg, hr1⟩
  have hB1 : Below w.heap.size w w1 := hB0.grown hg (by simp) (fun k e => by cases e; exact Nat.le_refl _)
  have he1 := Lib.hid (he.below hB1 (Nat.le_refl _))
  have k1 := hr1.c1
  clear hg hr0
  go_wp2_with fail
  refine (wrong_nil aE aF _ he1.out).mono ?_
  rintro e w' ⟨rfl, rfl⟩
  go_wp2
  refine wp_still (by kernel_rfl) (by kernel_rfl) ?_
  repeat still_step
  refine wpStill_nil ?_
  go_wp2
  go_ret3
  exact ⟨rfl, hB1.drew⟩

set_option maxHeartbeats 400000 in
theorem text_big (s : ByteArray) (hs : s.size ≤ 281474976710656) (h : 10000 < s.size) (w : World) :
    Calls Tryd.prog 13 #[.string s] w fun e w' => e = .returned (.tuple #[.string ⟨#[]⟩, .int .i64 10]) ∧ Below w.heap.size w w' := by
  go_enter Tryd.func13, Tryd.ntmps13
  go_wp2
  go_ret2
  exact ⟨rfl, Below.refl _ _⟩

set_option maxHeartbeats 400000 in
theorem text_small (s : ByteArray) (h : s.size ≤ 10000) (w : World) :
    Calls Tryd.prog 13 #[.string s] w fun e w' => e = .returned (.tuple #[.string (⟨(numBytes s.size).toArray⟩ ++ s), .int .i64 0]) ∧ Below w.heap.size w w' := by
  have hten : (numBytes s.size).length ≤ 10 := by rw [numBytes, length_marks]; exact length_numG _
  have hl : ¬ 9223372036854775807 < (numBytes s.size).length + s.size := by omega
  go_enter Tryd.func13, Tryd.ntmps13
  go_wp2_with (go_at_call 8; refine (num_any _ (by omega) (by omega) _).mono ?_; rintro e w' ⟨rfl, hb⟩)
  go_ret2
  exact ⟨rfl, hb⟩

end Go.Proofs.YtlmimmdaniggiaaDoor
