/- The contracts of (wire.text).has and (wire.text).from, and of the iterator that from returns. -/
import Derived.Test.YtlmimmdaniggiaaDoorWireGroups
import Derived.Test.YtlmimmdaniggiaaDoorWireScan
import Derived.Test.YtlmimmdaniggiaaDoorOrders
import Derived.IntWalk
namespace Go.Proofs.YtlmimmdaniggiaaDoor
open Go.RowKit Go.Shelf Mor
attribute [local go_sem] Oper.semAt_some wide_depth wide_fn

def hasB (s : ByteArray) (p n : Int) : Bool := decide (0 ≤ p ∧ p ≤ s.size ∧ n ≤ s.size - p)

set_option maxHeartbeats 400000 in
theorem has_any (s : ByteArray) (p n : Int) (w : World) (hs : s.size ≤ 9223372036854775807) :
    Calls Tryd.prog 20 #[.string s, .int .i64 p, .int .i64 n] w fun e w' => e = .returned (.bool (hasB s p n)) ∧ w = w' := by
  by_cases h1 : 0 ≤ p
  · by_cases h2 : p ≤ s.size
    · by_cases h3 : n ≤ s.size - p
      · have hb := Lib.hid (show hasB s p n = true by simp [hasB, h1, h2, h3])
        go_enter Tryd.func20, Tryd.ntmps20
        go_wp2
        go_ret
        rw [hb.out]
        exact ⟨rfl, rfl⟩
      · have hb := Lib.hid (show hasB s p n = false by simp [hasB, h1, h2, h3])
        go_enter Tryd.func20, Tryd.ntmps20
        go_wp2
        go_ret
        rw [hb.out]
        exact ⟨rfl, rfl⟩
    · have hb := Lib.hid (show hasB s p n = false by simp [hasB, h2])
      go_enter Tryd.func20, Tryd.ntmps20
      go_wp2
      go_ret
      rw [hb.out]
      exact ⟨rfl, rfl⟩
  · have hb := Lib.hid (show hasB s p n = false by simp [hasB, h1])
    go_enter Tryd.func20, Tryd.ntmps20
    go_wp2
    go_ret
    rw [hb.out]
    exact ⟨rfl, rfl⟩

set_option maxHeartbeats 400000 in
theorem from_any (s : ByteArray) (p : Int) (w : World) :
    Calls Tryd.prog 21 #[.string s, .int .i64 p] w fun e w' => e = .returned (.func (.func 23) #[] #[.pointer (some ⟨w.heap.size + 1, 0, none⟩), .pointer (some ⟨w.heap.size, 0, none⟩)]) ∧ (w.alloc (.cells #[.string s] 42)).alloc (.cells #[.int .i64 p] 3) = w' := by
  go_enter Tryd.func21, Tryd.ntmps21
  go_wp2
  go_ret
  exact ⟨rfl, rfl⟩

/-- two blocks are as they were -/
structure Keeps2 (B : Nat) (W W' : World) : Prop where
  b0 : W'.heap[B]? = W.heap[B]?
  b1 : W'.heap[B + 1]? = W.heap[B + 1]?
theorem Keeps2.refl (B : Nat) (W : World) : Keeps2 B W W := ⟨rfl, rfl⟩
theorem Keeps2.trans {B : Nat} {X Y Z : World} (h : Keeps2 B X Y) (k : Keeps2 B Y Z) : Keeps2 B X Z := ⟨k.b0.trans h.b0, k.b1.trans h.b1⟩
theorem Keeps2.cell0 {B : Nat} {W W' : World} (h : Keeps2 B W W') : W'.cell? ⟨B, 0, none⟩ = W.cell? ⟨B, 0, none⟩ := World.cell?_of_block (w := W) h.b0
theorem Keeps2.cell1 {B : Nat} {W W' : World} (h : Keeps2 B W W') : W'.cell? ⟨B + 1, 0, none⟩ = W.cell? ⟨B + 1, 0, none⟩ := World.cell?_of_block (w := W) h.b1
theorem Keeps2.setCell {B : Nat} {W W' : World} (h : Keeps2 B W W') {p : Addr} (hp : p.block < B) (u : Value) : Keeps2 B W (W'.setCell p u) :=
  ⟨(Below.heap_setCell _ _ _ _ (by omega)).trans h.b0, (Below.heap_setCell _ _ _ _ (by omega)).trans h.b1⟩
theorem Keeps2.drew {B : Nat} {W W' : World} (h : Keeps2 B W W') : Keeps2 B W W'.drew := ⟨h.b0, h.b1⟩
theorem Keeps2.putObj {B : Nat} {W : World} {l : Nat} (h : B + 1 < l) (o : Obj) : Keeps2 B W (W.putObj l o) :=
  ⟨World.putObj_heap_other (by omega), World.putObj_heap_other (by omega)⟩

/-- what from hands over: how far a place is from p, and the byte there -/
def fromEnc (s : ByteArray) (p : Nat) (i : Nat) : Array Value := #[.int .i64 (i : Int), .int .u8 ((byteAt s (p + i)).toNat : Int)]

set_option maxRecDepth 100000 in
set_option maxHeartbeats 1000000 in
theorem from1_in (n l B : Nat) (s : ByteArray) (p : Nat) (hp : p ≤ s.size) (hs : s.size ≤ 9223372036854775807) (J Jx : List Nat → World → Prop) (hJd : ∀ pre W, J pre W → J pre W.drew)
    (hY : ∀ pre (i : Nat) W, i < s.size - p → J pre W → pre.length < s.size - p → YieldAt Fence.wide (n - 1) Tryd.prog l (fromEnc s p i) W fun e W' =>
      (e = .returned (.bool true) ∧ J (pre ++ [i]) W' ∧ Keeps2 B W W') ∨ (e = .returned (.bool false) ∧ Jx (pre ++ [i]) W'))
    (W : World) (hB : W.cell? ⟨B, 0, none⟩ = some (.string s)) (hB1 : W.cell? ⟨B + 1, 0, none⟩ = some (.int .i64 (p : Int))) (h0 : J [] W) :
    CallsIn Fence.wide n Tryd.prog 23 #[.func (.yield l) #[] #[], .pointer (some ⟨B + 1, 0, none⟩), .pointer (some ⟨B, 0, none⟩)] W fun e W' => (∃ v, e = .returned v) ∧
      ((∃ ys, ys = List.range (s.size - p) ∧ J ys W') ∨ (∃ pre, (∃ k, k ≤ s.size - p ∧ pre = List.range k) ∧ Jx pre W')) := by
  have HY := Lib.hid hY
  have HJd := Lib.hid hJd
  clear hY hJd
  refine callsIn_of_wp Tryd.func23 rfl trivial ?_ rfl
  simp only [Tryd.ntmps23, List.size_toArray, List.length_cons, List.length_nil, Nat.reduceAdd, Nat.reduceSub, Array.replicate_succ, Array.replicate_zero, List.push_toArray, List.append_toArray, List.nil_append, List.cons_append]
  gi_wp2
  gi_loopw [4] (fun v wr => ∃ (j : Nat), p ≤ j ∧ j ≤ s.size ∧ v = .int .i64 (j : Int) ∧ J (List.range (j - p)) wr ∧ Keeps2 B W wr) (fun v _ => s.size - (intOf v).toNat)
  case atStart =>
    exact ⟨p, by omega, by omega, rfl, by rw [Nat.sub_self]; exact h0, Keeps2.refl _ _⟩
  case round =>
    obtain ⟨j, hpj, hj, rfl, hJs, hb⟩ := hrel
    have hc0 := hb.cell0.trans hB
    have hc1 := hb.cell1.trans hB1
    by_cases hlt : j < s.size
    · obtain ⟨fn1, tmps1, assign1, body1, hy1, hR1⟩ := HY.out (List.range (j - p)) (j - p) wr.drew (by omega) (HJd.out _ _ hJs) (by simp; omega)
      have HR1 := Lib.hid hR1
      clear hR1
      unfold fromEnc at hy1
      have e1 : ((j - p : Nat) : Int) = IntKind.i64.wrap ((j : Int) - (p : Int)) := by rw [IntWalk.i64_in _ (by omega)]; omega
      have e2 : byteAt s (p + (j - p)) = s[j] := by
        rw [show p + (j - p) = j by omega, byteAt_eq s j hlt]
      rw [e1, e2] at hy1
      clear e1 e2
      have hlt0 : (0 : Int) ≤ (j : Int) := by omega
      have hlt1 : (j : Int) < (s.size : Int) := by omega
      gi_wp2
      refine wpIn_region_still_tail free_wide 7 (by kernel_rfl) (by kernel_rfl) (by kernel_rfl) ?_
      simp only [List.take_succ_cons, List.take_zero, List.drop_succ_cons, List.drop_zero]
      repeat still_step
      refine wpStill_nil ?_
      gi_wp2
      clear hy1
      refine HR1.out.mono ?_
      rintro e W2 (⟨rfl, hJ2, hb2⟩ | ⟨rfl, hJx2⟩)
      · gi_wp2
        go_roundw
        case rel =>
          exact ⟨j + 1, by omega, by omega, by go_num, by rw [show j + 1 - p = j - p + 1 by omega, List.range_succ]; exact hJ2, hb.trans (Keeps2.trans (Y := wr.drew) ⟨rfl, rfl⟩ hb2)⟩
        case measure => simp [intOf]; omega
      · gi_wp2
        refine bodyPost_ret (results_none rfl _ _ _) rfl ?_
        exact ⟨⟨_, rfl⟩, .inr ⟨_, ⟨j - p + 1, by omega, by rw [List.range_succ]⟩, hJx2⟩⟩
    · gi_wp2
      go_end0
      obtain rfl : j = s.size := by omega
      exact ⟨⟨_, rfl⟩, .inl ⟨_, rfl, hJs⟩⟩

theorem grownBy_drew (W : World) : W.grownBy W.drew none := ⟨rfl, rfl, rfl, Nat.le_refl _, fun _ _ _ => rfl⟩

theorem from1_stops (n B : Nat) (s : ByteArray) (p : Nat) (hp : p ≤ s.size) (hs : s.size ≤ 9223372036854775807) (w : World) (hB : B + 1 < w.heap.size) (hc : w.cell? ⟨B, 0, none⟩ = some (.string s)) (hc1 : w.cell? ⟨B + 1, 0, none⟩ = some (.int .i64 (p : Int))) :
    SeqStopsK Fence.wide n Tryd.prog 23 #[.pointer (some ⟨B + 1, 0, none⟩), .pointer (some ⟨B, 0, none⟩)] (fun i : Fin (s.size - p) => fromEnc s p i.val) (Keeps2 B)
      (fun ys => ys.map Fin.val = List.range (s.size - p)) (fun pre => ∃ k, k ≤ s.size - p ∧ pre.map Fin.val = List.range k) (s.size - p) w := by
  intro l J Jx W hW hJ hJx hY h0
  refine (from1_in n l B s p hp hs (fun pre W => ∃ q : List (Fin (s.size - p)), q.map Fin.val = pre ∧ J q W) (fun pre W => ∃ q : List (Fin (s.size - p)), q.map Fin.val = pre ∧ Jx q W)
    (fun pre W ⟨q, hq, hj⟩ => ⟨q, hq, hJ q W _ none hj (grownBy_drew W) (fun r e => by cases e)⟩) ?_ W ((hW.cell (p := ⟨B, 0, none⟩) (by simp; omega)).trans hc) ((hW.cell (p := ⟨B + 1, 0, none⟩) hB).trans hc1) ⟨[], rfl, h0⟩).mono ?_
  · rintro pre i W1 hi ⟨q, rfl, hj⟩ hlen
    refine (hY q ⟨i, hi⟩ W1 hj (by simpa using hlen)).mono ?_
    rintro e W' (⟨he, hj', hk⟩ | ⟨he, hj'⟩)
    · exact .inl ⟨he, ⟨q ++ [⟨i, hi⟩], by simp, hj'⟩, hk⟩
    · exact .inr ⟨he, ⟨q ++ [⟨i, hi⟩], by simp, hj'⟩⟩
  · rintro e W' ⟨hv, ⟨ys, rfl, q, hq, hj⟩ | ⟨pre, ⟨k, hk, rfl⟩, q, hq, hj⟩⟩
    · exact ⟨hv, .inl ⟨q, hq, hj⟩⟩
    · exact ⟨hv, .inr ⟨q, ⟨k, hk, hq⟩, hj⟩⟩

end Go.Proofs.YtlmimmdaniggiaaDoor
