/- The contract of wire.Num: it returns the plain bytes of its number; nothing that was there has changed. -/
import Derived.Test.YtlmimmdaniggiaaDoorWireGroups
namespace Go.Proofs.YtlmimmdaniggiaaDoor
open Go.RowKit Go.Shelf Mor
attribute [local go_sem] Oper.semAt_some wide_depth wide_fn

theorem info_u8 : (Tryd.prog.info? 5).map (fun i => (i.zero, i.size, i.bytes)) = some (some (.int .u8 0), 1, 1) := by kernel_rfl
def encB (l : List UInt8) : List Value := l.map fun b => .int .u8 (b.toNat : Int)
theorem encB_set (l : List UInt8) (b : UInt8) (v : Value) : (encB (l ++ [b])).set l.length v = encB l ++ [v] := by
  have : (encB l).length = l.length := by simp [encB]
  rw [encB, List.map_append, ← encB, List.set_append_right _ _ (by omega), this]
  simp
theorem groups1_stops (n B : Nat) (x : Int) (hx1 : -9223372036854775808 ≤ x) (hx2 : x < 9223372036854775808) (w : World) (hB : B < w.heap.size) (hc : w.cell? ⟨B, 0, none⟩ = some (.int .i64 x)) :
    SeqStopsK Fence.wide n Tryd.prog 19 #[.pointer (some ⟨B, 0, none⟩)] (fun y : Fin 128 => #[Value.int .u8 (y.val : Int)]) (fun _ _ => True) (fun ys => ys = numG x) (fun _ => True) (numG x).length w :=
  fun l J Jx W hW _ _ hY h0 => groups1_in n l B x hx1 hx2 J Jx hY W ((hW.cell (p := ⟨B, 0, none⟩) hB).trans hc) h0

set_option maxRecDepth 100000 in
set_option maxHeartbeats 1000000 in
theorem num_any (x : Int) (hx1 : -9223372036854775808 ≤ x) (hx2 : x < 9223372036854775808) (w : World) :
    Calls Tryd.prog 8 #[.int .i64 x] w fun e w' => e = .returned (.string ⟨(numBytes x).toArray⟩) ∧ Below w.heap.size w w' := by
  obtain ⟨i0, hi, hz0, hz1, hz2⟩ := info_parts info_u8
  have hmk : ∀ u : World, (Instr.makeSlice 29 (.int .i64 0) (.int .i64 10)).run Tryd.prog u = .ok (.slice (some ⟨u.heap.size, 0, none⟩) 0 10) (u.alloc (.cells (Array.replicate 10 (.int .u8 0)) 5)) := fun _ => by kernel_rfl
  refine (callsIn_wide (n := 3)).1 ?_
  refine callsIn_of_wp_marks Tryd.func8 rfl trivial ?_ rfl
  simp only [Tryd.ntmps8, List.size_toArray, List.length_cons, List.length_nil, Nat.reduceAdd, Nat.reduceSub, Array.replicate_succ, Array.replicate_zero, List.push_toArray, List.append_toArray, List.nil_append, List.cons_append]
  gi_wp2_with (gi_at_call 14; refine (groups_in _ _ _).mono ?_; rintro e w' ⟨rfl, rfl⟩)
  have b0 := Boxed.new (w.alloc (.cells (Array.replicate 10 (.int .u8 0)) 5)) 29 (.slice (some ⟨w.heap.size, 0, none⟩) 0 10)
  rw [World.size_alloc] at b0
  have bN := Boxed.new ((w.alloc (.cells (Array.replicate 10 (.int .u8 0)) 5)).alloc (.cells #[.slice (some ⟨w.heap.size, 0, none⟩) 0 10] 29)) 3 (.int .i64 x)
  rw [World.size_alloc, World.size_alloc] at bN
  have r0 : (w.alloc (.cells (Array.replicate 10 (.int .u8 0)) 5)).ownsRow w.heap.size 5 1 (.slice (some ⟨w.heap.size, 0, none⟩) 0 10) 0 [] := World.ownsRow_made w _ 10 (Nat.le_refl _) (by decide) (by simp)
  have hB0 : Below w.heap.size w (((w.alloc (.cells (Array.replicate 10 (.int .u8 0)) 5)).alloc (.cells #[.slice (some ⟨w.heap.size, 0, none⟩) 0 10] 29)).alloc (.cells #[.int .i64 x] 3)) :=
    (((Below.refl _ w).alloc (Nat.le_refl _) _).alloc (by simp) _).alloc (by simp; omega) _
  have hten := length_numG x
  refine wpIn_rangeFunc_ownG rfl (by decide) (gf := 19) (lb := #[.pointer (some ⟨w.heap.size + 1 + 1, 0, none⟩)]) rfl trivial (enters_of Tryd.func19 (by kernel_rfl) rfl)
    (groups1_stops 2 (w.heap.size + 1 + 1) x hx1 hx2 _ (by simp) bN.cell) (fun _ _ => trivial) (fun _ _ _ _ _ _ _ _ => trivial) (Below.refl _ _) (fun _ => rfl)
    (fun pre W => (∃ v, Boxed W (w.heap.size + 1) 29 v ∧ W.ownsRow w.heap.size 5 1 v pre.length (encB (marks pre)) ∧ (∃ g cap, v = .slice (some ⟨g, 0, none⟩) pre.length cap)) ∧ Below w.heap.size w W)
    (fun _ _ _ => False)
    (OwnFrom.and (Own.from (holdsRow_own w.heap.size (w.heap.size + 1) 29 5 1 (fun pre => pre.length) (fun pre => encB (marks pre)) (fun pre v => ∃ g cap, v = .slice (some ⟨g, 0, none⟩) pre.length cap)) _) (ownFrom_below (Nat.le_refl _) (by simp; omega)))
    (fun _ _ _ _ _ hs _ _ => hs)
    ⟨⟨_, b0.alloc _, (r0.alloc _).alloc _, ⟨_, _, rfl⟩⟩, hB0⟩
    (fun y => { tmps := #[.int .i64 x, undef, .string ⟨#[]⟩, .pointer (some ⟨w.heap.size + 1, 0, none⟩), .int .u8 (y.val : Int), undef, .slice (some ⟨w.heap.size, 0, none⟩) 0 10, .int .i64 x, .func (.func 19) #[] #[.pointer (some ⟨w.heap.size + 1 + 1, 0, none⟩)], .int .u8 (y.val : Int), undef, undef, undef, undef, undef, undef, undef, undef, undef, undef, undef, undef, undef, undef, undef, undef, undef], defers := [] }) ?assign ?body ?done ?stop
  case assign =>
    intro l y W K hK
    gi_wp2
    exact hK
  case body =>
    rintro l pre y W ⟨⟨v, hv, hrow, g, cap, rfl⟩, hB⟩ hlt
    have hy := y.isLt
    rcases List.eq_nil_or_concat pre with rfl | ⟨q, z, rfl⟩
    · have hc := hv.cell
      gi_wp2_with (gi_at_builtin; refine wpListIn_append_own _ rfl _ _ 29 rfl w.heap.size 5 i0 (.int .u8 0) 1 1 Tryd.underlying29 hi hz0 hz1 hz2 rfl (by decide) _ _ _ rfl (hrow.alloc _) ⟨W.heap.size, 0, none⟩ 1 1 [.int .u8 (y.val : Int)] rfl rfl (cell_one_new _ _ _) (by simp [Value.oneCell']) (by decide) (by decide) (by have := hB.size; simp; omega) ?_; intro v' w1 hown' hgrow _; obtain ⟨g', cap', rfl⟩ := ownsRow_succ hown'; obtain ⟨hv1, hv2, hr2, hk2, hb2⟩ := hv.appended (by decide) hrow hB.size (by omega) hown' hgrow; have hc1 := hv1.cell; have hf1 := hv1.frozen)
      exact ⟨hk2.from _, trivial, ⟨_, hv2, by rw [List.nil_append, ← List.nil_append [y], marks_snoc]; simpa [encB, marks_nil, cont, toNat_ofNat_lt (show y.val < 256 by omega)] using hr2, ⟨_, _, rfl⟩⟩, hB.trans hb2⟩
    · rw [List.concat_eq_append] at hv hrow hlt ⊢
      rw [marks_snoc] at hrow
      simp only [List.length_append, List.length_cons, List.length_nil, Nat.zero_add] at hv hrow hlt
      have hz := z.isLt
      have hc := hv.cell
      have hl := hrow.cellAt q.length (by omega)
      have hcz : (encB (cont q ++ [UInt8.ofNat z.val]))[q.length]? = some (.int .u8 (z.val : Int)) := by
        simp [encB, length_cont, toNat_ofNat_lt (show z.val < 256 by omega)]
      rw [hcz] at hl
      clear hcz
      have hfz := hrow.frozenAt q.length
      have hst := hrow.stored q.length (.int .u8 ((z.val : Int) + 128))
      rw [← length_cont q, encB_set, length_cont q] at hst
      obtain ⟨hrow1, hg1⟩ := hst
      have hne : some (w.heap.size + 1) ≠ some g := hv.not_row (by decide) hrow
      have hvs := hv.kept hg1 hne
      have hBs : Below w.heap.size W (W.setCell ⟨g, q.length, none⟩ (.int .u8 ((z.val : Int) + 128))) := (Below.refl _ W).setCell (p := ⟨g, q.length, none⟩) (hrow.lt g rfl).1 _
      have hks := KeepsOthers.setCell W ⟨g, q.length, none⟩ (.int .u8 ((z.val : Int) + 128))
      obtain ⟨W2, hW2⟩ : ∃ W2, W.setCell ⟨g, q.length, none⟩ (.int .u8 ((z.val : Int) + 128)) = W2 := ⟨_, rfl⟩
      rw [hW2] at hrow1 hg1 hvs hBs hks
      have hcs := hvs.cell
      have HS := Lib.hid (show encB (cont q) ++ [Value.int .u8 ((z.val : Int) + 128)] ++ [Value.int .u8 (y.val : Int)] = encB (marks (q ++ [z] ++ [y])) from by
        rw [marks_snoc, cont_snoc]
        simp [encB, toNat_ofNat_lt (show y.val < 256 by omega)]
        omega)
      gi_wp2_with (gi_at_builtin; refine wpListIn_append_own _ rfl _ _ 29 rfl w.heap.size 5 i0 (.int .u8 0) 1 1 Tryd.underlying29 hi hz0 hz1 hz2 rfl (by decide) _ _ _ rfl (hrow1.alloc _) ⟨W2.heap.size, 0, none⟩ 1 1 [.int .u8 (y.val : Int)] rfl rfl (cell_one_new _ _ _) (by simp [Value.oneCell']) (by unfold maxLen; omega) (by omega) (by have := hB.size; have := hBs.size; simp; omega) ?_; intro v' w1 hown' hgrow _; obtain ⟨g', cap', rfl⟩ := ownsRow_succ hown'; obtain ⟨hv1, hv2, hr2, hk2, hb2⟩ := hvs.appended (by decide) hrow1 (Nat.le_trans hB.size hBs.size) (by omega) hown' hgrow; have hc1 := hv1.cell; have hf1 := hv1.frozen)
      rw [HS.out] at hr2
      exact ⟨(hks.trans hk2).from _, trivial, ⟨_, hv2, by simpa using hr2, ⟨g', cap', by simp⟩⟩, (hB.trans hBs).trans hb2⟩
  case done =>
    rintro D ys W hD rfl ⟨⟨v, hv, hrow, g, cap, rfl⟩, hB⟩ hK
    have hc := hv.cell
    have hconv : (convert 29 9 (.slice (some ⟨g, 0, none⟩) (numG x).length cap)).run Tryd.prog W = .ok (.string ⟨(numBytes x).toArray⟩) W := by
      have := run_convert_bytes_back (P := Tryd.prog) W 29 9 5 ⟨g, 0, none⟩ cap (numBytes x) Tryd.underlying29 Tryd.underlying5 Tryd.underlying9 (fun j hj => by
        have hj' : j < (numG x).length := by simpa [numBytes, length_marks] using hj
        have := hrow.cellAt j (by omega)
        rw [addr_add, Nat.zero_add, this]
        simp only [encB, numBytes] at hj ⊢
        simp [hj])
      rw [show (numBytes x).length = (numG x).length from length_marks _] at this
      exact this
    gi_wp2
    refine ⟨by simp, .inl ⟨_, _, rfl, run_takeDeferred hK, ?_⟩⟩
    exact ⟨_, results_tmp rfl _ _ _, rfl, hB.trans (belowK_b (w := w) (Nat.le_refl _) W D _ _ (by simp at hD; omega) hK rfl rfl)⟩
  case stop =>
    rintro D c pre W _ _ h _
    exact h.elim

end Go.Proofs.YtlmimmdaniggiaaDoor
