/- The contract of wire.groups, the iterator over the groups of a number. -/
import Derived.Test.YtlmimmdaniggiaaDoorProg
import Derived.Test.YtlmimmdaniggiaaDoorWirePlain
import Derived.Test.YtlmimmdaniggiaaDoorBase
import Derived.RangeFuncNested
import Derived.RangeFuncBound
import Derived.RangeFuncCalls
import Derived.RangeFuncLeaves
import Derived.Shelf.Abstract
import Derived.Shelf.RegionOpen
import Derived.OwnWalkIn
import Derived.TacticsInMore
import Derived.LoopNIn
import Derived.LoopIn
import Derived.Maps.AppendAt
namespace Go.Proofs.YtlmimmdaniggiaaDoor
open Go.RowKit Go.Shelf Mor
theorem wide_depth : Fence.wide.depth = none := rfl
theorem wide_fn (f : FuncId) : Fence.wide.fn f = True := rfl
attribute [local go_sem] Oper.semAt_some wide_depth wide_fn

set_option maxHeartbeats 400000 in
theorem groups_in (n : Nat) (x : Int) (w : World) :
    CallsIn Fence.wide n Tryd.prog 14 #[.int .i64 x] w fun e w' => e = .returned (.func (.func 19) #[] #[.pointer (some ⟨w.heap.size, 0, none⟩)]) ∧ w' = w.alloc (.cells #[.int .i64 x] 3) := by
  refine callsIn_of_wp Tryd.func14 rfl trivial ?_ rfl
  simp only [Tryd.ntmps14, List.size_toArray, List.length_cons, List.length_nil, Nat.reduceAdd, Nat.reduceSub, Array.replicate_succ, Array.replicate_zero, List.push_toArray, List.append_toArray, List.nil_append, List.cons_append]
  gi_wp2
  go_ret
  exact ⟨rfl, rfl⟩

set_option maxRecDepth 100000 in
set_option maxHeartbeats 1000000 in
theorem groups1_in (n l B : Nat) (x : Int) (hx1 : -9223372036854775808 ≤ x) (hx2 : x < 9223372036854775808) (J Jx : List (Fin 128) → World → Prop)
    (hY : ∀ pre (y : Fin 128) W, J pre W → pre.length < (numG x).length → YieldAt Fence.wide (n - 1) Tryd.prog l #[.int .u8 (y.val : Int)] W fun e W' =>
      (e = .returned (.bool true) ∧ J (pre ++ [y]) W' ∧ True) ∨ (e = .returned (.bool false) ∧ Jx (pre ++ [y]) W'))
    (W : World) (hB : W.cell? ⟨B, 0, none⟩ = some (.int .i64 x)) (h0 : J [] W) :
    CallsIn Fence.wide n Tryd.prog 19 #[.func (.yield l) #[] #[], .pointer (some ⟨B, 0, none⟩)] W fun e W' => (∃ v, e = .returned v) ∧
      ((∃ ys, ys = numG x ∧ J ys W') ∨ (∃ pre, True ∧ Jx pre W')) := by
  have hmag := mag_lt hx1 hx2
  obtain ⟨fn0, tmps0, assign0, body0, hy0, hR0⟩ := hY [] (headG x) W h0 (by simp [numG])
  have HR0 := Lib.hid hR0
  clear hR0
  have HY := Lib.hid hY
  clear hY
  have HG : Hid (numG x = [headG x] ++ tailG 9 (mag x / 64)) := rfl
  have HM : Hid (mag x = if x < 0 then (-1 - x).toNat else x.toNat) := rfl
  have HH : Hid (((headG x).val : Int) = if x < 0 then (-1 - x) % 64 * 2 + 1 else x % 64 * 2) := by
    show ((mag x % 64 * 2 + sgn x : Nat) : Int) = _
    unfold mag sgn
    split <;> omega
  by_cases hneg : x < 0
  · rw [HH.out, if_pos hneg] at hy0
    have HM2 := Lib.hid (show ((mag x / 64 : Nat) : Int) = (-1 - x) / 64 from by rw [HM.out, if_pos hneg]; omega)
    clear HH HM
    refine callsIn_of_wp Tryd.func19 rfl trivial ?_ rfl
    simp only [Tryd.ntmps19, List.size_toArray, List.length_cons, List.length_nil, Nat.reduceAdd, Nat.reduceSub, Array.replicate_succ, Array.replicate_zero, List.push_toArray, List.append_toArray, List.nil_append, List.cons_append]
    gi_wp2
    clear hy0
    refine HR0.out.mono ?_
    rintro e W1 (⟨rfl, hJ1, _⟩ | ⟨rfl, hJx1⟩)
    · gi_wp2
      gi_loopw [3] (fun p wr => ∃ (f : Nat) (pre : List (Fin 128)) (m : Nat), p = .int .u64 (m : Int) ∧ m < 128 ^ f ∧ m < 9223372036854775808 ∧ Hid (numG x = pre ++ tailG f m) ∧ J pre wr) (fun p _ => (intOf p).toNat)
      case atStart =>
        exact ⟨9, [headG x], mag x / 64, by rw [HM2.out], by have := hmag; omega, by omega, HG.out, hJ1⟩
      case round =>
        obtain ⟨f, pre, m, rfl, hm, hm63, Hx, hJs⟩ := hrel
        by_cases hz : m = 0
        · subst hz
          gi_wp2
          go_end0
          have e := Hx.out
          rw [tailG_zero, List.append_nil] at e
          exact ⟨⟨_, rfl⟩, .inl ⟨pre, e.symm, hJs⟩⟩
        · cases f with
          | zero => exact absurd hm (by omega)
          | succ f =>
            have e := Hx.out
            rw [tailG_pos f m hz] at e
            obtain ⟨fn1, tmps1, assign1, body1, hy1, hR1⟩ := HY.out pre ⟨m % 128, Nat.mod_lt _ (by decide)⟩ wr hJs (by rw [e]; simp)
            have He := Lib.hid e
            have HR1 := Lib.hid hR1
            have Hm := Lib.hid hm
            have HZ := Lib.hid hz
            clear hR1 e hm hz
            have hzb : ((m : Int) != 0) = true := by have := HZ.out; rw [bne_iff_ne]; omega
            have e1 : (((⟨m % 128, Nat.mod_lt _ (by decide)⟩ : Fin 128).val : Nat) : Int) = (m : Int) % 128 := by simp
            rw [e1] at hy1
            clear e1
            gi_wp2
            clear hy1
            refine HR1.out.mono ?_
            rintro e W2 (⟨rfl, hJ2, _⟩ | ⟨rfl, hJx2⟩)
            · gi_wp2
              go_roundw
              case rel =>
                have hp : 128 ^ (f + 1) = 128 ^ f * 128 := Nat.pow_succ ..
                have h1 := Hm.out
                exact ⟨f, _, m / 128, by rw [Int.natCast_ediv]; rfl, by rw [hp] at h1; exact Nat.div_lt_of_lt_mul (by rw [Nat.mul_comm]; exact h1), by omega, Lib.hid (by rw [He.out]; simp), hJ2⟩
              case measure => have := HZ.out; simp [intOf]; omega
            · gi_wp2
              refine bodyPost_ret (results_none rfl _ _ _) rfl ?_
              exact ⟨⟨_, rfl⟩, .inr ⟨_, trivial, hJx2⟩⟩
    · gi_wp2
      refine bodyPost_ret (results_none rfl _ _ _) rfl ?_
      exact ⟨⟨_, rfl⟩, .inr ⟨_, trivial, hJx1⟩⟩
  · rw [HH.out, if_neg hneg] at hy0
    have HM2 := Lib.hid (show ((mag x / 64 : Nat) : Int) = x / 64 from by rw [HM.out, if_neg hneg]; omega)
    clear HH HM
    refine callsIn_of_wp Tryd.func19 rfl trivial ?_ rfl
    simp only [Tryd.ntmps19, List.size_toArray, List.length_cons, List.length_nil, Nat.reduceAdd, Nat.reduceSub, Array.replicate_succ, Array.replicate_zero, List.push_toArray, List.append_toArray, List.nil_append, List.cons_append]
    gi_wp2
    clear hy0
    refine HR0.out.mono ?_
    rintro e W1 (⟨rfl, hJ1, _⟩ | ⟨rfl, hJx1⟩)
    · gi_wp2
      gi_loopw [3] (fun p wr => ∃ (f : Nat) (pre : List (Fin 128)) (m : Nat), p = .int .u64 (m : Int) ∧ m < 128 ^ f ∧ m < 9223372036854775808 ∧ Hid (numG x = pre ++ tailG f m) ∧ J pre wr) (fun p _ => (intOf p).toNat)
      case atStart =>
        exact ⟨9, [headG x], mag x / 64, by rw [HM2.out], by have := hmag; omega, by omega, HG.out, hJ1⟩
      case round =>
        obtain ⟨f, pre, m, rfl, hm, hm63, Hx, hJs⟩ := hrel
        by_cases hz : m = 0
        · subst hz
          gi_wp2
          go_end0
          have e := Hx.out
          rw [tailG_zero, List.append_nil] at e
          exact ⟨⟨_, rfl⟩, .inl ⟨pre, e.symm, hJs⟩⟩
        · cases f with
          | zero => exact absurd hm (by omega)
          | succ f =>
            have e := Hx.out
            rw [tailG_pos f m hz] at e
            obtain ⟨fn1, tmps1, assign1, body1, hy1, hR1⟩ := HY.out pre ⟨m % 128, Nat.mod_lt _ (by decide)⟩ wr hJs (by rw [e]; simp)
            have He := Lib.hid e
            have HR1 := Lib.hid hR1
            have Hm := Lib.hid hm
            have HZ := Lib.hid hz
            clear hR1 e hm hz
            have hzb : ((m : Int) != 0) = true := by have := HZ.out; rw [bne_iff_ne]; omega
            have e1 : (((⟨m % 128, Nat.mod_lt _ (by decide)⟩ : Fin 128).val : Nat) : Int) = (m : Int) % 128 := by simp
            rw [e1] at hy1
            clear e1
            gi_wp2
            clear hy1
            refine HR1.out.mono ?_
            rintro e W2 (⟨rfl, hJ2, _⟩ | ⟨rfl, hJx2⟩)
            · gi_wp2
              go_roundw
              case rel =>
                have hp : 128 ^ (f + 1) = 128 ^ f * 128 := Nat.pow_succ ..
                have h1 := Hm.out
                exact ⟨f, _, m / 128, by rw [Int.natCast_ediv]; rfl, by rw [hp] at h1; exact Nat.div_lt_of_lt_mul (by rw [Nat.mul_comm]; exact h1), by omega, Lib.hid (by rw [He.out]; simp), hJ2⟩
              case measure => have := HZ.out; simp [intOf]; omega
            · gi_wp2
              refine bodyPost_ret (results_none rfl _ _ _) rfl ?_
              exact ⟨⟨_, rfl⟩, .inr ⟨_, trivial, hJx2⟩⟩
    · gi_wp2
      refine bodyPost_ret (results_none rfl _ _ _) rfl ?_
      exact ⟨⟨_, rfl⟩, .inr ⟨_, trivial, hJx1⟩⟩

end Go.Proofs.YtlmimmdaniggiaaDoor
