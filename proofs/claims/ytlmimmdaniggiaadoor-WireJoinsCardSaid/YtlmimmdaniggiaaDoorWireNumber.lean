/- The contract of (*wire.reader).number. -/
import Derived.Test.YtlmimmdaniggiaaDoorWireHas
import Derived.Test.YtlmimmdaniggiaaDoorWireScan
import Derived.BigQuiet
import Derived.StillTailTactics
import Derived.BigRegion
import Derived.Deep.QuietTactic
namespace Go.Proofs.YtlmimmdaniggiaaDoor
open Go.RowKit Go.Shelf Mor
attribute [local go_sem] Oper.semAt_some wide_depth wide_fn

/-- an error of errors.New -/
abbrev errV (a : Addr) : Value := .iface 76 (.pointer (some a))

theorem has_still (s : ByteArray) (p n : Int) (w : World) (hs : s.size ≤ 281474976710656) :
    Calls Tryd.prog 20 #[.string s, .int .i64 p, .int .i64 n] w fun e w'' => e = .returned (.bool (hasB s p n)) ∧ w'' = w :=
  (has_any s p n _ (by omega)).mono fun _ _ ⟨he, hm⟩ => ⟨he, hm.symm⟩

set_option maxRecDepth 100000 in
set_option maxHeartbeats 1000000 in
theorem number_none (s : ByteArray) (hs : s.size ≤ 281474976710656) (p : Int) (b : Nat) (aE : Addr) (w : World) (hb : b < w.heap.size) (hz : 0 < w.heap.size)
    (h0 : w.cell? ⟨b, 0, none⟩ = some (.string s)) (h1 : w.cell? ⟨b, 1, none⟩ = some (.int .i64 p)) (hg : w.cell? ⟨0, 0, none⟩ = some (errV aE)) (hno : hasB s p 1 = false) :
    Calls Tryd.prog 15 #[.pointer (some ⟨b, 0, none⟩)] w fun e w' => e = .returned (.tuple #[.int .i64 0, errV aE]) ∧ Below w.heap.size w w' := by
  have hb1 : b < w.heap.size + 1 := by omega
  have hz1 : 0 < w.heap.size + 1 := by omega
  go_enter Tryd.func15, Tryd.ntmps15
  go_wp2
  go_step3
  go_wp2
  refine wp_still (by kernel_rfl) (by kernel_rfl) ?_
  repeat first | still_step | still_call (has_still _ _ _ _ hs)
  refine wpStill_nil ?_
  go_wp2
  go_region
  go_wp2
  rw [Exit.noGoto_ret]
  exact bodyPost_ret (v := .tuple #[.int .i64 0, errV aE]) (by simp [results, Tryd.results15, go_sem]) rfl ⟨rfl, ((((Below.refl _ w).alloc (Nat.le_refl _) _).alloc (by simp) _).drew).drew⟩

theorem shl_u64 (x : Nat) (yk : IntKind) (y : Nat) : Op.shift .shl .u64 (x : Int) yk (y : Int) = pure (.int .u64 ((x * 2 ^ y % 18446744073709551616 : Nat) : Int)) := by
  have hy : ¬ ((y : Int) < 0) := by omega
  have e : ∀ k, IntKind.u64.wrap ((x : Int) * 2 ^ k) = ((x * 2 ^ k % 18446744073709551616 : Nat) : Int) := fun k => by
    rw [IntKind.wrap_u64]; simp
  simp only [Op.shift, hy, if_false, Int.toNat_natCast, e]
  by_cases h : y ≤ 64
  · rw [Nat.min_eq_left (by simpa [IntKind.bits] using h)]
  · rw [Nat.min_eq_right (by simp [IntKind.bits]; omega)]
    have h1 : x * 2 ^ IntKind.u64.bits % 18446744073709551616 = 0 := by simp [IntKind.bits]
    have h2 : x * 2 ^ y % 18446744073709551616 = 0 := by
      obtain ⟨d, rfl⟩ : ∃ d, y = 64 + d := ⟨y - 64, by omega⟩
      rw [Nat.pow_add, ← Nat.mul_assoc, Nat.mul_right_comm]
      simp
    rw [h1, h2]

theorem below_setCell {B : Nat} {w W : World} (h : Below B w W) (a : Addr) (v : Value) : Below B (w.setCell a v) (W.setCell a v) :=
  ⟨h.os, h.tape, h.output, by simpa [World.setCell] using h.size, fun k hk => by
    simp only [World.setCell, Array.getElem?_modify]
    rw [h.block k hk]⟩

theorem range_snoc {M : Nat} (q : List (Fin M)) (j : Fin M) (h : (q ++ [j]).map Fin.val = List.range (q ++ [j]).length) : q.map Fin.val = List.range q.length ∧ j.val = q.length := by
  rw [List.map_append, List.length_append, List.length_cons, List.length_nil, List.range_succ] at h
  have := List.append_inj h (by simp)
  exact ⟨this.1, by simpa using this.2⟩

/-- between two rounds of number's loop: the boxes of m, of the sign, of the size, of both results -/
def NumI (w : World) (s : ByteArray) (p : Nat) (pre : List (Fin (s.size - p))) (W : World) : Prop :=
  (∃ m sg : Nat, m < 18446744073709551616 ∧ sg < 18446744073709551616 ∧ Boxed W (w.heap.size + 1 + 1) 55 (.int .u64 (m : Int)) ∧ Boxed W (w.heap.size + 1 + 1 + 1) 55 (.int .u64 (sg : Int)) ∧
    (pre.map Fin.val = List.range pre.length → scan (s.data.toList.drop p) 0 0 0 = scan (s.data.toList.drop (p + pre.length)) pre.length m sg)) ∧
  Boxed W (w.heap.size + 1 + 1 + 1 + 1) 3 (.int .i64 0) ∧ Boxed W w.heap.size 3 (.int .i64 0) ∧ Boxed W (w.heap.size + 1) 46 .nilIface ∧ Below w.heap.size w W

/-- where a round has left the loop: by a break, or by a return -/
def NumX (w : World) (s : ByteArray) (p : Nat) (aF : Addr) (c : Code) (pre : List (Fin (s.size - p))) (W : World) : Prop :=
  ((c = .exit 0 ∧ ∃ m sg k : Nat, m < 18446744073709551616 ∧ sg < 18446744073709551616 ∧ k < s.size - p ∧ Boxed W (w.heap.size + 1 + 1) 55 (.int .u64 (m : Int)) ∧ Boxed W (w.heap.size + 1 + 1 + 1) 55 (.int .u64 (sg : Int)) ∧
    Boxed W (w.heap.size + 1 + 1 + 1 + 1) 3 (.int .i64 ((k + 1 : Nat) : Int)) ∧ Boxed W w.heap.size 3 (.int .i64 0) ∧ Boxed W (w.heap.size + 1) 46 .nilIface ∧
    (pre.map Fin.val = List.range pre.length → scan (s.data.toList.drop p) 0 0 0 = .num m sg (k + 1))) ∨
   (c = .ret ∧ Boxed W w.heap.size 3 (.int .i64 0) ∧ Boxed W (w.heap.size + 1) 46 (errV aF) ∧ (pre.map Fin.val = List.range pre.length → scan (s.data.toList.drop p) 0 0 0 = .form))) ∧
  Below w.heap.size w W

theorem boxed_from {W W' : World} {row : Option Nat} {B k : Nat} {t : TypeId} {v : Value} (h : Boxed W k t v) (hg : W.grownBy W' row) (hr : ∀ r, row = some r → B ≤ r ∧ ∃ o : Obj, W.heap[r]? = some o ∧ o.isCells = false) : Boxed W' k t v :=
  h.kept hg (fun e => by
    obtain ⟨_, o, ho, hc⟩ := hr k e.symm
    rw [show W.heap[k]? = _ from h] at ho
    cases ho
    cases hc)

theorem NumI_own (w : World) (s : ByteArray) (p B : Nat) (hB : w.heap.size ≤ B) : OwnFrom B (NumI w s p) := by
  rintro pre W W' row ⟨⟨m, sg, h1, h2, b2, b3, h5⟩, b4, b0, b1, hb⟩ hg hr
  exact ⟨⟨m, sg, h1, h2, boxed_from b2 hg hr, boxed_from b3 hg hr, h5⟩, boxed_from b4 hg hr, boxed_from b0 hg hr, boxed_from b1 hg hr, hb.grown hg hb.size (fun k e => Nat.le_trans hB (hr k e).1)⟩

theorem NumX_own (w : World) (s : ByteArray) (p : Nat) (aF : Addr) (c : Code) (B : Nat) (hB : w.heap.size ≤ B) : OwnFrom B (NumX w s p aF c) := by
  rintro pre W W' row ⟨h, hb⟩ hg hr
  refine ⟨?_, hb.grown hg hb.size (fun k e => Nat.le_trans hB (hr k e).1)⟩
  rcases h with ⟨rfl, m, sg, k, h1, h2, h3, b2, b3, b4, b0, b1, h5⟩ | ⟨rfl, b0, b1, h5⟩
  · exact .inl ⟨rfl, m, sg, k, h1, h2, h3, boxed_from b2 hg hr, boxed_from b3 hg hr, boxed_from b4 hg hr, boxed_from b0 hg hr, boxed_from b1 hg hr, h5⟩
  · exact .inr ⟨rfl, boxed_from b0 hg hr, boxed_from b1 hg hr, h5⟩

theorem number_end {R : Ending → World → Prop} {tmps : Array Value} {W : World} {D N : Nat} {v0 v1 : Value} (h2 : tmps.getD 2 undef = .pointer (some ⟨N, 0, none⟩)) (h3 : tmps.getD 3 undef = .pointer (some ⟨N + 1, 0, none⟩))
    (b0 : Boxed W N 3 v0) (b1 : Boxed W (N + 1) 46 v1) (hK : W.heap[D]? = some (.deferred (some []))) (hR : R (.returned (.tuple #[v0, v1])) (W.putObj D (.deferred none))) :
    bodyPostM Fence.wide 3 Tryd.prog Tryd.f15 R .ret { tmps := tmps, defers := [{ target := .collected D, args := #[] }] } W := by
  have hc0 := cell_kept b0.cell (grownBy_putObj' W D (.deferred none)) (fun r e => by cases e; exact ⟨_, hK, rfl⟩)
  have hc1 := cell_kept b1.cell (grownBy_putObj' W D (.deferred none)) (fun r e => by cases e; exact ⟨_, hK, rfl⟩)
  refine ⟨by simp, .inl ⟨_, _, rfl, run_takeDeferred hK, ?_⟩⟩
  refine ⟨.tuple #[v0, v1], ?_, hR⟩
  rw [Array.getD_eq_getD_getElem?] at h2 h3
  simp [results, Tryd.f15, go_sem, hc0, hc1, h2, h3]

set_option maxRecDepth 100000 in
set_option maxHeartbeats 2000000 in
theorem number_some (s : ByteArray) (hs : s.size ≤ 281474976710656) (p b : Nat) (aE aF : Addr) (w : World) (hb : b < w.heap.size) (hz : 1 < w.heap.size)
    (h0 : w.cell? ⟨b, 0, none⟩ = some (.string s)) (h1 : w.cell? ⟨b, 1, none⟩ = some (.int .i64 (p : Int))) (hfr : w.frozen? ⟨b, 1, none⟩ = false) (hg : w.cell? ⟨0, 0, none⟩ = some (errV aE)) (hg1 : w.cell? ⟨1, 0, none⟩ = some (errV aF)) (hp : p + 1 ≤ s.size) :
    Calls Tryd.prog 15 #[.pointer (some ⟨b, 0, none⟩)] w fun e w' => match scan (s.data.toList.drop p) 0 0 0 with
      | .ends => e = .returned (.tuple #[.int .i64 0, errV aE]) ∧ Below w.heap.size w w'
      | .form => e = .returned (.tuple #[.int .i64 0, errV aF]) ∧ Below w.heap.size w w'
      | .num m sg size => e = .returned (.tuple #[.int .i64 (if sg = 1 then wrap64 (-1 - wrap64 m) else wrap64 m), .nilIface]) ∧ Below w.heap.size (w.setCell ⟨b, 1, none⟩ (.int .i64 ((p + size : Nat) : Int))) w' := by
  have hhas : hasB s p 1 = true := by simp [hasB]; omega
  have hb1 : b < w.heap.size + 1 := by omega
  have hb2 : b < w.heap.size + 2 := by omega
  refine (callsIn_wide (n := 3)).1 ?_
  refine callsIn_of_wp_marks Tryd.func15 rfl trivial ?_ rfl
  simp only [Tryd.ntmps15, List.size_toArray, List.length_cons, List.length_nil, Nat.reduceAdd, Nat.reduceSub, Array.replicate_succ, Array.replicate_zero, List.push_toArray, List.append_toArray, List.nil_append, List.cons_append]
  refine wpIn_wide.2 ?_
  go_wp2
  go_step3
  go_wp2
  refine wp_still (by kernel_rfl) (by kernel_rfl) ?_
  repeat first | still_step | still_call (has_still _ _ _ _ hs)
  refine wpStill_nil ?_
  go_wp2
  go_step3
  go_wp2
  have x0 := Boxed.new w 3 (.int .i64 0)
  have x1 := Boxed.new (w.alloc (.cells #[.int .i64 0] 3)) 46 .nilIface
  have x2 := Boxed.new ((w.alloc (.cells #[.int .i64 0] 3)).alloc (.cells #[.nilIface] 46)) 55 (.int .u64 0)
  have x3 := Boxed.new (((w.alloc (.cells #[.int .i64 0] 3)).alloc (.cells #[.nilIface] 46)).alloc (.cells #[.int .u64 0] 55)) 55 (.int .u64 0)
  have x4 := Boxed.new ((((w.alloc (.cells #[.int .i64 0] 3)).alloc (.cells #[.nilIface] 46)).alloc (.cells #[.int .u64 0] 55)).alloc (.cells #[.int .u64 0] 55)) 3 (.int .i64 0)
  have y0 := (((x0.alloc (.cells #[.nilIface] 46)).alloc (.cells #[.int .u64 0] 55)).alloc (.cells #[.int .u64 0] 55)).alloc (.cells #[.int .i64 0] 3)
  have y1 := ((x1.alloc (.cells #[.int .u64 0] 55)).alloc (.cells #[.int .u64 0] 55)).alloc (.cells #[.int .i64 0] 3)
  have y2 := (x2.alloc (.cells #[.int .u64 0] 55)).alloc (.cells #[.int .i64 0] 3)
  have y3 := x3.alloc (.cells #[.int .i64 0] 3)
  have y4 := x4
  simp only [World.size_alloc] at y1 y2 y3 y4
  clear x0 x1 x2 x3 x4
  have hB1 : Below w.heap.size w (((((w.alloc (.cells #[.int .i64 0] 3)).alloc (.cells #[.nilIface] 46)).alloc (.cells #[.int .u64 0] 55)).alloc (.cells #[.int .u64 0] 55)).alloc (.cells #[.int .i64 0] 3)) :=
    (((((Below.refl _ w).alloc (Nat.le_refl _) _).alloc (by simp) _).alloc (by simp; omega) _).alloc (by simp; omega) _).alloc (by simp; omega) _
  have hsz : (((((w.alloc (.cells #[.int .i64 0] 3)).alloc (.cells #[.nilIface] 46)).alloc (.cells #[.int .u64 0] 55)).alloc (.cells #[.int .u64 0] 55)).alloc (.cells #[.int .i64 0] 3)).heap.size = w.heap.size + 5 := by simp
  obtain ⟨W1, hW1⟩ : ∃ W1, (((((w.alloc (.cells #[.int .i64 0] 3)).alloc (.cells #[.nilIface] 46)).alloc (.cells #[.int .u64 0] 55)).alloc (.cells #[.int .u64 0] 55)).alloc (.cells #[.int .i64 0] 3)) = W1 := ⟨_, rfl⟩
  rw [hW1] at y0 y1 y2 y3 y4 hB1 hsz ⊢
  clear hW1
  have c0 := (hB1.cell (p := ⟨b, 0, none⟩) hb).trans h0
  have c1 := (hB1.cell (p := ⟨b, 1, none⟩) hb).trans h1
  have HSZ := Lib.hid hsz
  clear hsz
  refine wp_still_tail 8 (by kernel_rfl) (by kernel_rfl) ?_
  simp only [List.take_succ_cons, List.take_zero, List.drop_succ_cons, List.drop_zero]
  repeat still_step
  refine wpStill_nil ?_
  go_wp2_with (go_at_call 21; refine (from_any _ _ _).mono ?_; rintro e w' ⟨rfl, rfl⟩)
  have z0 := Boxed.new W1 42 (.string s)
  have z1 := Boxed.new (W1.alloc (.cells #[.string s] 42)) 3 (.int .i64 (p : Int))
  rw [World.size_alloc] at z1
  have z0' := z0.alloc (.cells #[.int .i64 (p : Int)] 3)
  have y0' := (y0.alloc (.cells #[.string s] 42)).alloc (.cells #[.int .i64 (p : Int)] 3)
  have y1' := (y1.alloc (.cells #[.string s] 42)).alloc (.cells #[.int .i64 (p : Int)] 3)
  have y2' := (y2.alloc (.cells #[.string s] 42)).alloc (.cells #[.int .i64 (p : Int)] 3)
  have y3' := (y3.alloc (.cells #[.string s] 42)).alloc (.cells #[.int .i64 (p : Int)] 3)
  have y4' := (y4.alloc (.cells #[.string s] 42)).alloc (.cells #[.int .i64 (p : Int)] 3)
  have hB2 : Below w.heap.size w ((W1.alloc (.cells #[.string s] 42)).alloc (.cells #[.int .i64 (p : Int)] 3)).drew.drew := (((hB1.alloc hB1.size _).alloc (by have := hB1.size; simp; omega) _).drew).drew
  have hsz2 : ((W1.alloc (.cells #[.string s] 42)).alloc (.cells #[.int .i64 (p : Int)] 3)).drew.drew.heap.size = W1.heap.size + 2 := by simp
  obtain ⟨W2, hW2⟩ : ∃ W2, ((W1.alloc (.cells #[.string s] 42)).alloc (.cells #[.int .i64 (p : Int)] 3)).drew.drew = W2 := ⟨_, rfl⟩
  have v0 : Boxed W2 w.heap.size 3 (.int .i64 0) := by rw [← hW2]; exact y0'
  have v1 : Boxed W2 (w.heap.size + 1) 46 .nilIface := by rw [← hW2]; exact y1'
  have v2 : Boxed W2 (w.heap.size + 1 + 1) 55 (.int .u64 0) := by rw [← hW2]; exact y2'
  have v3 : Boxed W2 (w.heap.size + 1 + 1 + 1) 55 (.int .u64 0) := by rw [← hW2]; exact y3'
  have v4 : Boxed W2 (w.heap.size + 1 + 1 + 1 + 1) 3 (.int .i64 0) := by rw [← hW2]; exact y4'
  have u0 : Boxed W2 W1.heap.size 42 (.string s) := by rw [← hW2]; exact z0'
  have u1 : Boxed W2 (W1.heap.size + 1) 3 (.int .i64 (p : Int)) := by rw [← hW2]; exact z1
  rw [hW2] at hB2 hsz2 ⊢
  clear hW2 z0 z1 z0' y0' y1' y2' y3' y4' y0 y1 y2 y3 y4
  have HSZ2 := Lib.hid hsz2
  clear hsz2
  refine wpIn_wide.1 (wpIn_rangeFunc_ownG rfl (n := 3) (by decide) (gf := 23) (lb := #[.pointer (some ⟨W1.heap.size + 1, 0, none⟩), .pointer (some ⟨W1.heap.size, 0, none⟩)]) rfl trivial (enters_of Tryd.func23 (by kernel_rfl) rfl)
    (from1_stops 2 W1.heap.size s p (by omega) (by omega) W2 (by rw [HSZ2.out]; omega) u0.cell u1.cell) Keeps2.trans (fun W l o o' hl _ _ _ => Keeps2.putObj (by rw [HSZ2.out] at hl; omega) o') (Below.refl _ _) (fun _ => rfl)
    (fun pre W => NumI w s p pre W)
    (fun c pre W => NumX w s p aF c pre W)
    (NumI_own w s p _ (by rw [HSZ2.out, HSZ.out]; omega)) (fun c => NumX_own w s p aF c _ (by rw [HSZ2.out, HSZ.out]; omega))
    ⟨⟨0, 0, by decide, by decide, v2, v3, fun _ => by simp⟩, v4, v0, v1, hB2⟩
    (fun i => { tmps := #[.pointer (some ⟨b, 0, none⟩), undef, .pointer (some ⟨w.heap.size, 0, none⟩), .pointer (some ⟨w.heap.size + 1, 0, none⟩), .pointer (some ⟨w.heap.size + 1 + 1, 0, none⟩), .pointer (some ⟨w.heap.size + 1 + 1 + 1, 0, none⟩), .pointer (some ⟨w.heap.size + 1 + 1 + 1 + 1, 0, none⟩), .int .i64 (i.val : Int), .int .u8 ((byteAt s (p + i.val)).toNat : Int), undef, .pointer (some ⟨b, 0, none⟩), .pointer (some ⟨b, 0, none⟩), .pointer (some ⟨b, 0, none⟩), .string s, .pointer (some ⟨b, 0, none⟩), .pointer (some ⟨b, 0, none⟩), .pointer (some ⟨b, 1, none⟩), .int .i64 (p : Int), .bool true, .bool false, undef, .pointer (some ⟨b, 0, none⟩), .pointer (some ⟨b, 0, none⟩), .pointer (some ⟨b, 0, none⟩), .string s, .pointer (some ⟨b, 0, none⟩), .pointer (some ⟨b, 0, none⟩), .pointer (some ⟨b, 1, none⟩), .int .i64 (p : Int), .func (.func 23) #[] #[.pointer (some ⟨W1.heap.size + 1, 0, none⟩), .pointer (some ⟨W1.heap.size, 0, none⟩)], .int .i64 (i.val : Int), .int .u8 ((byteAt s (p + i.val)).toNat : Int), undef, undef, undef, undef, undef, undef, undef, undef, undef, undef, undef, undef, undef, undef, undef, undef, undef, undef, undef, undef, undef, undef, undef, undef, undef, undef, undef, undef, undef, undef, undef, undef, undef, undef, undef, undef, undef, undef, undef, undef, undef, undef, undef, undef, undef, undef, undef, undef, undef], defers := [] }) ?assign ?body ?done ?stop)
  case assign =>
    intro l i W K hK
    unfold fromEnc
    gi_wp2
    exact hK
  case body =>
    rintro l pre i W ⟨⟨m, sg, hm, hsg, b2, b3, hscan⟩, b4, b0, b1, hB⟩ hlt
    obtain ⟨i, hi⟩ := i
    dsimp only
    have HL := Lib.hid hlt
    have HSC := Lib.hid hscan
    clear hlt hscan
    have HG := Lib.hid (drop_byteAt s (p + i) (by omega))
    have hbt : (byteAt s (p + i)).toNat < 256 := UInt8.toNat_lt _
    generalize byteAt s (p + i) = bt at *
    obtain ⟨n, hn⟩ : ∃ n, n = bt.toNat := ⟨_, rfl⟩
    rw [← hn] at hbt ⊢
    have HN := Lib.hid hn
    clear hn
    have hand : bits .and .u8 (n : Int) 127 = ((n % 128 : Nat) : Int) := by
      rw [show (127 : Int) = ((127 : Nat) : Int) by rfl, u8_and_nat n 127 hbt (by decide), show n &&& 127 = n % 128 from Nat.and_two_pow_sub_one_eq_mod n 7]
    have c2 := b2.cell
    have c3 := b3.cell
    have c4 := b4.cell
    have f2 := b2.frozen
    have f3 := b3.frozen
    have f4 := b4.frozen
    have hne24 : w.heap.size + 1 + 1 ≠ w.heap.size + 1 + 1 + 1 + 1 := by omega
    have hne34 : w.heap.size + 1 + 1 + 1 ≠ w.heap.size + 1 + 1 + 1 + 1 := by omega
    have hne23 : w.heap.size + 1 + 1 ≠ w.heap.size + 1 + 1 + 1 := by omega
    have hK0 : Keeps2 W1.heap.size W W := Keeps2.refl _ _
    have HSP : Hid (∀ (q : List (Fin (s.size - p))) (j : Fin (s.size - p)), (q ++ [j]).map Fin.val = List.range (q ++ [j]).length → q.map Fin.val = List.range q.length ∧ j.val = q.length) := range_snoc
    by_cases hi0 : i = 0
    · subst hi0
      have e1 : ((n % 128 / 2 : Nat) : Int) = (n : Int) % 128 / 2 := by omega
      have e2 : ((n % 128 % 2 : Nat) : Int) = (n : Int) % 2 := by omega
      have E1 := Lib.hid e1
      have E2 := Lib.hid e2
      clear e1 e2
      by_cases h128 : n < 128
      · gi_wp2
        rw [← E1.out, ← E2.out]
        refine ⟨(((KeepsOthers.setCell _ _ _).trans (KeepsOthers.setCell _ _ _)).trans (KeepsOthers.setCell _ _ _)).from _, .inl ⟨rfl, n % 128 / 2, n % 128 % 2, 0, by omega, by omega, by omega,
          ((b2.set _).other hne23 _).other hne24 _, ((b3.other (by omega) _).set _).other hne34 _, ((b4.other (by omega) _).other (by omega) _).set _, ((b0.other (by omega) _).other (by omega) _).other (by omega) _, ((b1.other (by omega) _).other (by omega) _).other (by omega) _, ?_⟩, ?_⟩
        · intro hr
          obtain ⟨hr1, hr2⟩ := HSP.out _ _ hr
          have h2 := HSC.out hr1
          rw [h2, ← hr2]
          have := HG.out
          simp only [Nat.add_zero] at this ⊢
          rw [this, scan_zero, ← HN.out, if_pos h128]
        · exact ((hB.setCell (p := ⟨_, 0, none⟩) (by simp; omega) _).setCell (p := ⟨_, 0, none⟩) (by simp; omega) _).setCell (p := ⟨_, 0, none⟩) (by simp; omega) _
      · gi_wp2
        rw [← E1.out, ← E2.out]
        refine ⟨((KeepsOthers.setCell _ _ _).trans (KeepsOthers.setCell _ _ _)).from _, (hK0.setCell (p := ⟨_, 0, none⟩) (by have := HSZ.out; simp; omega) _).setCell (p := ⟨_, 0, none⟩) (by have := HSZ.out; simp; omega) _, ⟨n % 128 / 2, n % 128 % 2, by omega, by omega,
          (b2.set _).other hne23 _, (b3.other (by omega) _).set _, ?_⟩, (b4.other (by omega) _).other (by omega) _, (b0.other (by omega) _).other (by omega) _, (b1.other (by omega) _).other (by omega) _, ?_⟩
        · intro hr
          obtain ⟨hr1, hr2⟩ := HSP.out _ _ hr
          have h2 := HSC.out hr1
          rw [h2, ← hr2]
          have := HG.out
          simp only [Nat.add_zero, List.length_append, List.length_cons, List.length_nil, ← hr2, Nat.zero_add] at this ⊢
          rw [this, scan_zero, ← HN.out, if_neg h128]
        · exact (hB.setCell (p := ⟨_, 0, none⟩) (by simp; omega) _).setCell (p := ⟨_, 0, none⟩) (by simp; omega) _
    · have hi0b : ((i : Int) == 0) = false := by rw [beq_eq_false_iff_ne]; omega
      have g1 := (hB.cell (p := ⟨1, 0, none⟩) hz).trans hg1
      have d0 := b0.cell
      have d1 := b1.cell
      have e0 := b0.frozen
      have e1 := b1.frozen
      by_cases hform : n = 0 ∨ (i = 9 ∧ 1 < n)
      · have hfin := Lib.hid (show (pre ++ [(⟨i, hi⟩ : Fin (s.size - p))]).map Fin.val = List.range (pre ++ [(⟨i, hi⟩ : Fin (s.size - p))]).length → scan (s.data.toList.drop p) 0 0 0 = .form from by
          intro hr
          obtain ⟨hr1, hr2⟩ := HSP.out _ _ hr
          rw [HSC.out hr1, ← hr2, HG.out]
          exact scan_form _ _ _ _ _ hi0 (by rw [← HN.out]; exact hform))
        have hmo : Tryd.prog.follows .mixedOrders = true := by kernel_rfl
        by_cases hn0 : n = 0
        · have hnb : ((n : Int) == 0) = true := by rw [beq_iff_eq]; omega
          clear hn0 hform
          gi_wp2
          gi_region_with_o (fail)
          all_goals gi_wp2
          all_goals refine ⟨(((KeepsOthers.setCell _ _ _).trans (KeepsOthers.setCell _ _ _)).trans (KeepsOthers.drew _)).from _, .inr ⟨rfl, ?_, ?_, hfin.out⟩, ?_⟩
          all_goals first
            | exact boxed_drew ((b0.set _).other (by omega) _)
            | exact boxed_drew ((b1.other (by omega) _).set _)
            | exact ((hB.setCell (p := ⟨_, 0, none⟩) (by simp) _).setCell (p := ⟨_, 0, none⟩) (by simp) _).drew
        · have hnb : ((n : Int) == 0) = false := by rw [beq_eq_false_iff_ne]; omega
          have hi9 : ((i : Int) == 9) = true := by rw [beq_iff_eq]; omega
          have hn1 : (1 : Int) < (n : Int) := by omega
          clear hn0 hform
          gi_wp2
          gi_region_with_o (fail)
          all_goals gi_wp2
          all_goals refine ⟨(((KeepsOthers.setCell _ _ _).trans (KeepsOthers.setCell _ _ _)).trans (KeepsOthers.drew _)).from _, .inr ⟨rfl, ?_, ?_, hfin.out⟩, ?_⟩
          all_goals first
            | exact boxed_drew ((b0.set _).other (by omega) _)
            | exact boxed_drew ((b1.other (by omega) _).set _)
            | exact ((hB.setCell (p := ⟨_, 0, none⟩) (by simp) _).setCell (p := ⟨_, 0, none⟩) (by simp) _).drew
      · have hfin := Lib.hid (show (pre ++ [(⟨i, hi⟩ : Fin (s.size - p))]).map Fin.val = List.range (pre ++ [(⟨i, hi⟩ : Fin (s.size - p))]).length → i = pre.length ∧ scan (s.data.toList.drop p) 0 0 0 =
            (if n < 128 then .num (m ||| (n % 128 * 2 ^ (7 * i - 1) % 18446744073709551616)) sg (i + 1) else scan (s.data.toList.drop (p + (i + 1))) (i + 1) (m ||| (n % 128 * 2 ^ (7 * i - 1) % 18446744073709551616)) sg) from by
          intro hr
          obtain ⟨hr1, hr2⟩ := HSP.out _ _ hr
          refine ⟨hr2, ?_⟩
          rw [HSC.out hr1, ← hr2, HG.out, HN.out]
          exact scan_more _ _ _ _ _ hi0 (by rw [← HN.out]; exact hform))
        have hnb : ((n : Int) == 0) = false := by rw [beq_eq_false_iff_ne]; omega
        have hw1 : IntKind.i64.wrap (7 * (i : Int)) = 7 * (i : Int) := IntWalk.i64_in _ (by omega)
        have hw2 : IntKind.i64.wrap (7 * (i : Int) - 1) = ((7 * i - 1 : Nat) : Int) := by rw [IntWalk.i64_in _ (by omega)]; omega
        have hsh := shl_u64 (n % 128) .i64 (7 * i - 1)
        have hx2 : IntKind.u64.wrap ((n : Int) % 128 * 2 ^ (7 * i - 1)) = ((n % 128 * 2 ^ (7 * i - 1) % 18446744073709551616 : Nat) : Int) := by rw [IntKind.wrap_u64]; simp
        have hxl : n % 128 * 2 ^ (7 * i - 1) % 18446744073709551616 < 18446744073709551616 := Nat.mod_lt _ (by decide)
        generalize n % 128 * 2 ^ (7 * i - 1) % 18446744073709551616 = x at *
        have hor := u64_or_nat m x hm hxl
        have hor2 : m ||| x < 18446744073709551616 := Nat.or_lt_two_pow (n := 64) hm hxl
        rw [show ((n % 128 : Nat) : Int) = (n : Int) % 128 by omega] at hsh
        by_cases h128 : n < 128
        · have h128b : (n : Int) < 128 := by omega
          have H128 := Lib.hid h128
          clear h128
          by_cases hi9 : i = 9
          · have hi9b : ((i : Int) == 9) = true := by rw [beq_iff_eq]; omega
            have hn1 : ¬ (1 : Int) < (n : Int) := by omega
            clear hi9 hform
            gi_wp2
            refine wpIn_region_still_tail (free_round l) 7 (by kernel_rfl) (by kernel_rfl) (by kernel_rfl) ?_
            simp only [List.take_succ_cons, List.take_zero, List.drop_succ_cons, List.drop_zero]
            repeat still_step
            refine wpStill_nil ?_
            gi_wp2
            refine ⟨(((KeepsOthers.setCell _ _ _).trans (KeepsOthers.setCell _ _ _)).trans (KeepsOthers.drew _)).from _, .inl ⟨rfl, m ||| x, sg, i, hor2, hsg, hi, boxed_drew ((b2.set _).other hne24 _), boxed_drew ((b3.other (by omega) _).other hne34 _), ?_, boxed_drew ((b0.other (by omega) _).other (by omega) _), boxed_drew ((b1.other (by omega) _).other (by omega) _), ?_⟩, ?_⟩
            · exact boxed_drew ((b4.other (by omega) _).set _)
            · intro hr
              have := (hfin.out hr).2
              rw [if_pos H128.out] at this
              exact this
            · exact ((hB.setCell (p := ⟨_, 0, none⟩) (by simp; omega) _).setCell (p := ⟨_, 0, none⟩) (by simp; omega) _).drew
          · have hi9b : ((i : Int) == 9) = false := by rw [beq_eq_false_iff_ne]; omega
            clear hi9 hform
            gi_wp2
            refine wpIn_region_still_tail (free_round l) 7 (by kernel_rfl) (by kernel_rfl) (by kernel_rfl) ?_
            simp only [List.take_succ_cons, List.take_zero, List.drop_succ_cons, List.drop_zero]
            repeat still_step
            refine wpStill_nil ?_
            gi_wp2
            refine ⟨(((KeepsOthers.setCell _ _ _).trans (KeepsOthers.setCell _ _ _)).trans (KeepsOthers.drew _)).from _, .inl ⟨rfl, m ||| x, sg, i, hor2, hsg, hi, boxed_drew ((b2.set _).other hne24 _), boxed_drew ((b3.other (by omega) _).other hne34 _), ?_, boxed_drew ((b0.other (by omega) _).other (by omega) _), boxed_drew ((b1.other (by omega) _).other (by omega) _), ?_⟩, ?_⟩
            · exact boxed_drew ((b4.other (by omega) _).set _)
            · intro hr
              have := (hfin.out hr).2
              rw [if_pos H128.out] at this
              exact this
            · exact ((hB.setCell (p := ⟨_, 0, none⟩) (by simp; omega) _).setCell (p := ⟨_, 0, none⟩) (by simp; omega) _).drew
        · have h128b : ¬ (n : Int) < 128 := by omega
          have H128 := Lib.hid h128
          clear h128
          by_cases hi9 : i = 9
          · exact absurd H128.out (by omega)
          · have hi9b : ((i : Int) == 9) = false := by rw [beq_eq_false_iff_ne]; omega
            clear hi9 hform
            gi_wp2
            refine wpIn_region_still_tail (free_round l) 7 (by kernel_rfl) (by kernel_rfl) (by kernel_rfl) ?_
            simp only [List.take_succ_cons, List.take_zero, List.drop_succ_cons, List.drop_zero]
            repeat still_step
            refine wpStill_nil ?_
            gi_wp2
            refine ⟨((KeepsOthers.setCell _ _ _).trans (KeepsOthers.drew _)).from _, (hK0.setCell (p := ⟨w.heap.size + 1 + 1, 0, none⟩) (by have := HSZ.out; simp; omega) _).drew, ⟨m ||| x, sg, hor2, hsg, boxed_drew (b2.set _), boxed_drew (b3.other (by omega) _), ?_⟩, boxed_drew (b4.other (by omega) _), boxed_drew (b0.other (by omega) _), boxed_drew (b1.other (by omega) _), ?_⟩
            · intro hr
              obtain ⟨h1, h2⟩ := hfin.out hr
              rw [if_neg H128.out] at h2
              rw [List.length_append, List.length_cons, List.length_nil, Nat.zero_add, ← h1]
              exact h2
            · exact (hB.setCell (p := ⟨_, 0, none⟩) (by simp; omega) _).drew
  case done =>
    rintro D ys W hD hS ⟨⟨m, sg, hm, hsg, b2, b3, hscan⟩, b4, b0, b1, hB⟩ hK
    have hlen : ys.length = s.size - p := by simpa using congrArg List.length hS
    have hE := hscan (by rw [hlen]; exact hS)
    have hdr : s.data.toList.drop (p + ys.length) = [] := List.drop_eq_nil_of_le (by rw [hlen]; simp; omega)
    rw [hdr] at hE
    clear hdr
    have HE := Lib.hid (show scan (s.data.toList.drop p) 0 0 0 = .ends from hE)
    clear hE hscan hS
    have c4 := b4.cell
    have d0 := b0.cell
    have d1 := b1.cell
    have e0 := b0.frozen
    have e1 := b1.frozen
    have g0 := (hB.cell (p := ⟨0, 0, none⟩) (by simp; omega)).trans hg
    go_wp2
    go_region
    go_wp2
    rw [Exit.noGoto_ret]
    have hK1 := ((KeepsOthers.setCell W ⟨w.heap.size, 0, none⟩ (.int .i64 0)).trans (KeepsOthers.setCell _ ⟨w.heap.size + 1, 0, none⟩ (errV aE))).same D _ hK rfl
    refine number_end rfl rfl (boxed_drew ((b0.set _).other (by omega) _)) (boxed_drew ((b1.other (by omega) _).set _)) (heap_drew hK1) ?_
    rw [HE.out]
    exact ⟨rfl, (((hB.setCell (p := ⟨_, 0, none⟩) (by simp) _).setCell (p := ⟨_, 0, none⟩) (by simp) _).drew).trans (belowK_b (w := w) (Nat.le_refl _) _ D _ _ (by have := hB2.size; omega) (heap_drew hK1) rfl rfl)⟩
  case stop =>
    rintro D c pre W hD ⟨k, hk, hpre⟩ ⟨hX, hB⟩ hK
    have hlen : pre.length = k := by simpa using congrArg List.length hpre
    rw [← hlen] at hpre
    rcases hX with ⟨rfl, m, sg, k', hm, hsg, hk', b2, b3, b4, b0, b1, hscan⟩ | ⟨rfl, b0, b1, hscan⟩
    · have HE := Lib.hid (hscan hpre)
      clear hscan hpre
      have c2 := b2.cell
      have c3 := b3.cell
      have c4 := b4.cell
      have d0 := b0.cell
      have d1 := b1.cell
      have e0 := b0.frozen
      have e1 := b1.frozen
      have r1 := (hB.cell (p := ⟨b, 1, none⟩) hb).trans h1
      have rf := (hB.frozen (p := ⟨b, 1, none⟩) hb).trans hfr
      have hkz : (((k' + 1 : Nat) : Int) == 0) = false := by rw [beq_eq_false_iff_ne]; omega
      have hw : IntKind.i64.wrap ((p : Int) + ((k' : Int) + 1)) = ((p + (k' + 1) : Nat) : Int) := by rw [IntWalk.i64_in _ (by omega)]; omega
      have hgb := grownBy_setCellA W ⟨b, 1, none⟩ (.int .i64 ((p + (k' + 1) : Nat) : Int))
      have k2 := (b2.kept hgb (by simp; omega)).cell
      have k3 := (b3.kept hgb (by simp; omega)).cell
      have q0 := (b0.kept hgb (by simp; omega)).cell
      have q1 := (b1.kept hgb (by simp; omega)).cell
      have j0 := (b0.kept hgb (by simp; omega)).frozen
      have j1 := (b1.kept hgb (by simp; omega)).frozen
      have hBs : Below w.heap.size (w.setCell ⟨b, 1, none⟩ (.int .i64 ((p + (k' + 1) : Nat) : Int))) (W.setCell ⟨b, 1, none⟩ (.int .i64 ((p + (k' + 1) : Nat) : Int))) := below_setCell hB _ _
      gi_wp2
      go_wp2
      refine wp_still_tail 8 (by kernel_rfl) (by kernel_rfl) ?_
      simp only [List.take_succ_cons, List.take_zero, List.drop_succ_cons, List.drop_zero]
      repeat still_step
      refine wpStill_nil ?_
      by_cases hsg1 : sg = 1
      · have hsgb : ((sg : Int) == 1) = true := by rw [beq_iff_eq]; omega
        have HS1 := Lib.hid hsg1
        clear hsg1
        go_wp2
        rw [Exit.noGoto_ret, show (p : Int) + ((k' : Int) + 1) = ((p + (k' + 1) : Nat) : Int) by omega]
        have hK1 := (((KeepsOthers.setCell W ⟨b, 1, none⟩ (.int .i64 ((p + (k' + 1) : Nat) : Int))).trans (KeepsOthers.setCell _ ⟨w.heap.size, 0, none⟩ (.int .i64 (wrap64 (-1 - wrap64 m))))).trans (KeepsOthers.setCell _ ⟨w.heap.size + 1, 0, none⟩ .nilIface)).same D _ hK rfl
        refine number_end rfl rfl (boxed_drew (((b0.kept hgb (by simp; omega)).set _).other (by omega) _)) (boxed_drew (((b1.kept hgb (by simp; omega)).other (by omega) _).set _)) (heap_drew hK1) ?_
        rw [HE.out]
        refine ⟨?_, ?_⟩
        · rw [if_pos HS1.out]
        · exact ((((hBs.setCell (p := ⟨_, 0, none⟩) (by simp) _).setCell (p := ⟨_, 0, none⟩) (by simp) _).drew).trans (belowK_b (w := w) (Nat.le_refl _) _ D _ _ (by have := hB2.size; omega) (heap_drew hK1) rfl rfl))
      · have hsgb : ((sg : Int) == 1) = false := by rw [beq_eq_false_iff_ne]; omega
        have HS1 := Lib.hid hsg1
        clear hsg1
        go_wp2
        rw [Exit.noGoto_ret, show (p : Int) + ((k' : Int) + 1) = ((p + (k' + 1) : Nat) : Int) by omega]
        have hK1 := (((KeepsOthers.setCell W ⟨b, 1, none⟩ (.int .i64 ((p + (k' + 1) : Nat) : Int))).trans (KeepsOthers.setCell _ ⟨w.heap.size, 0, none⟩ (.int .i64 (wrap64 m)))).trans (KeepsOthers.setCell _ ⟨w.heap.size + 1, 0, none⟩ .nilIface)).same D _ hK rfl
        refine number_end rfl rfl (boxed_drew (((b0.kept hgb (by simp; omega)).set _).other (by omega) _)) (boxed_drew (((b1.kept hgb (by simp; omega)).other (by omega) _).set _)) (heap_drew hK1) ?_
        rw [HE.out]
        refine ⟨?_, ?_⟩
        · rw [if_neg HS1.out]
        · exact ((((hBs.setCell (p := ⟨_, 0, none⟩) (by simp) _).setCell (p := ⟨_, 0, none⟩) (by simp) _).drew).trans (belowK_b (w := w) (Nat.le_refl _) _ D _ _ (by have := hB2.size; omega) (heap_drew hK1) rfl rfl))
    · have HE := Lib.hid (hscan hpre)
      clear hscan hpre
      gi_wp2
      rw [Exit.noGoto_ret]
      refine number_end rfl rfl b0 b1 hK ?_
      rw [HE.out]
      exact ⟨rfl, hB.trans (belowK_b (w := w) (Nat.le_refl _) _ D _ _ (by have := hB2.size; omega) hK rfl rfl)⟩

end Go.Proofs.YtlmimmdaniggiaaDoor
