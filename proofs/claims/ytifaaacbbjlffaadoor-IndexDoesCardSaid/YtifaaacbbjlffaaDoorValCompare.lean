/- The contract of val.Compare. -/
import Derived.Test.YtifaaacbbjlffaaDoorCmp
import Derived.Test.YtifaaacbbjlffaaDoorOrders
namespace Go.Proofs.YtifaaacbbjlffaaDoor
open Go.RowKit Mor

/-- a value without a list, as the program holds it -/
def encP (p : Pv) : Value := .agg #[.int .i64 p.k, .int .i64 p.n, .string p.s, .slice none 0 0]

set_option maxHeartbeats 400000 in
theorem byItems_nil (w : World) : Calls Tryd.prog 37 #[.slice none 0 0, .slice none 0 0, .func (.func 20) #[] #[]] w fun e w' => e = .returned (.int .i64 0) ∧ w = w' := by
  have h0 := ordI_self 0
  go_enter Tryd.func37, Tryd.ntmps37
  go_wp2
  refine wp_loop_rounds 1 ?_
  rw [rounds_succ]
  go_wp2_with (go_at_call 35; refine (cmpInt _ _ _).mono ?_; rintro e w' ⟨rfl, rfl⟩)
  go_ret
  exact ⟨rfl, rfl⟩

set_option maxHeartbeats 400000 in
/-- val.Compare, its last step by a contract -/
theorem compare_of (k n k' n' : Int) (s s' : ByteArray) (sl sr : Value) (isl : ∃ a l c, sl = .slice a l c) (isr : ∃ a l c, sr = .slice a l c) (c : Int) (w : World)
    (hby : ∀ W, Below w.heap.size w W → Calls Tryd.prog 37 #[sl, sr, .func (.func 20) #[] #[]] W fun e w' => e = .returned (.int .i64 c) ∧ Below W.heap.size W w') :
    Calls Tryd.prog 20 #[.agg #[.int .i64 k, .int .i64 n, .string s, sl], .agg #[.int .i64 k', .int .i64 n', .string s', sr]] w fun e w' =>
      e = .returned (.int .i64 (if fst3 (ordI k k') (ordI n n') (ordS s.data.toList s'.data.toList) ≠ 0 then fst3 (ordI k k') (ordI n n') (ordS s.data.toList s'.data.toList) else c)) ∧ Below w.heap.size w w' := by
  obtain ⟨la, ll, lc, rfl⟩ := isl
  obtain ⟨ra, rl, rc, rfl⟩ := isr
  have hb : ∀ a b : Obj, Below w.heap.size w ((w.alloc a).alloc b) := fun a b => ((Below.refl _ w).alloc (Nat.le_refl _) _).alloc (by simp) _
  have HB := Lib.hid hb
  have HBY := Lib.hid hby
  clear hb hby
  generalize hx : ordI k k' = x
  generalize hy : ordI n n' = y
  generalize hz : ordS s.data.toList s'.data.toList = z
  by_cases h1 : x = 0
  · by_cases h2 : y = 0
    · by_cases h3 : z = 0
      · have H := Lib.hid (show (if fst3 x y z ≠ 0 then fst3 x y z else c) = c by simp [fst3, h1, h2, h3])
        subst h1 h2 h3
        rw [H.out]
        clear H
        go_enter Tryd.func20, Tryd.ntmps20
        go_wp2_with (first | (go_at_call 35; refine (cmpInt _ _ _).mono ?_; rintro e w' ⟨rfl, rfl⟩) | (go_at_call 36; refine (cmpStr _ _ _).mono ?_; rintro e w' ⟨rfl, rfl⟩) | (go_at_call 37; refine (HBY.out _ (HB.out _ _)).mono ?_; rintro e w' ⟨rfl, hC⟩))
        go_ret
        exact ⟨rfl, (HB.out _ _).trans (hC.mono (by simp; omega))⟩
      · have H := Lib.hid (show (if fst3 x y z ≠ 0 then fst3 x y z else c) = z by simp [fst3, h1, h2, h3])
        have hne : (z != 0) = true := by rw [bne_iff_ne]; exact h3
        subst h1 h2
        rw [H.out]
        clear H h3
        go_enter Tryd.func20, Tryd.ntmps20
        go_wp2_with (first | (go_at_call 35; refine (cmpInt _ _ _).mono ?_; rintro e w' ⟨rfl, rfl⟩) | (go_at_call 36; refine (cmpStr _ _ _).mono ?_; rintro e w' ⟨rfl, rfl⟩))
        go_ret
        exact ⟨rfl, HB.out _ _⟩
    · have H := Lib.hid (show (if fst3 x y z ≠ 0 then fst3 x y z else c) = y by simp [fst3, h1, h2])
      have hne : (y != 0) = true := by rw [bne_iff_ne]; exact h2
      subst h1
      rw [H.out]
      clear H h2
      go_enter Tryd.func20, Tryd.ntmps20
      go_wp2_with (first | (go_at_call 35; refine (cmpInt _ _ _).mono ?_; rintro e w' ⟨rfl, rfl⟩) | (go_at_call 36; refine (cmpStr _ _ _).mono ?_; rintro e w' ⟨rfl, rfl⟩))
      go_ret
      exact ⟨rfl, HB.out _ _⟩
  · have H := Lib.hid (show (if fst3 x y z ≠ 0 then fst3 x y z else c) = x by simp [fst3, h1])
    have hne : (x != 0) = true := by rw [bne_iff_ne]; exact h1
    rw [H.out]
    clear H h1
    go_enter Tryd.func20, Tryd.ntmps20
    go_wp2_with (first | (go_at_call 35; refine (cmpInt _ _ _).mono ?_; rintro e w' ⟨rfl, rfl⟩) | (go_at_call 36; refine (cmpStr _ _ _).mono ?_; rintro e w' ⟨rfl, rfl⟩))
    go_ret
    exact ⟨rfl, HB.out _ _⟩

end Go.Proofs.YtifaaacbbjlffaaDoor
