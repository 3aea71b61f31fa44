/- The contracts of the reference's Range and Find. -/
import Derived.Test.YtifaaacbbjlffaaDoorRefPut
import Derived.Test.YtifaaacbbjlffaaDoorIdxRange
namespace Mor
def rngTo (lo hi : Vl) (L : List Pr) (k : Nat) : List Int := rng lo hi (L.take k)
theorem rngTo_in {lo hi : Vl} {L : List Pr} {k : Nat} {q : Pr} (hq : L[k]? = some q) (h1 : 0 ≤ cmpV q.1 lo) (h2 : cmpV q.1 hi ≤ 0) : rngTo lo hi L (k + 1) = rngTo lo hi L k ++ [q.2] := by
  obtain ⟨hl, rfl⟩ := List.getElem?_eq_some_iff.1 hq
  unfold rngTo
  rw [List.take_succ_eq_append_getElem hl, rng_app, show [L[k]] = [(L[k].1, L[k].2)] from rfl, rng_one, if_pos]
  unfold side
  rw [if_neg (by omega), if_neg (by omega)]
theorem rngTo_out {lo hi : Vl} {L : List Pr} {k : Nat} {q : Pr} (hq : L[k]? = some q) (h : cmpV q.1 lo < 0 ∨ 0 < cmpV q.1 hi) : rngTo lo hi L (k + 1) = rngTo lo hi L k := by
  obtain ⟨hl, rfl⟩ := List.getElem?_eq_some_iff.1 hq
  unfold rngTo
  rw [List.take_succ_eq_append_getElem hl, rng_app, show [L[k]] = [(L[k].1, L[k].2)] from rfl, rng_one, if_neg, List.append_nil]
  unfold side
  split
  · omega
  · rw [if_pos (by omega)]; omega
theorem rngTo_len (lo hi : Vl) (L : List Pr) (k : Nat) : (rngTo lo hi L k).length ≤ k := by
  unfold rngTo rng
  rw [List.length_map]
  exact Nat.le_trans (List.length_filter_le _ _) (List.length_take_le _ _)
theorem rngTo_end (lo hi : Vl) (L : List Pr) (k : Nat) (h : L.length ≤ k) : rngTo lo hi L k = rng lo hi L := by unfold rngTo; rw [List.take_of_length_le h]
theorem rngTo_zero (lo hi : Vl) (L : List Pr) : rngTo lo hi L 0 = [] := rfl
end Mor
namespace Go.Proofs.YtifaaacbbjlffaaDoor
open Go.RowKit Mor

theorem elemI : Elem Tryd.prog 23 3 1 8 := elem_of (z := .int .i64 0) Tryd.underlying23 (by kernel_rfl) (by kernel_rfl) (by decide) (by decide)
theorem rowI_new (W : World) (x : Int) : Row (W.alloc (.cells #[.int .i64 x] 3)) 3 1 (.slice (some ⟨W.heap.size, 0, none⟩) 1 1) 1 [.int .i64 x] :=
  row_new W 3 1 1 #[.int .i64 x] rfl (by unfold maxLen; omega) (by intro y hy; simp only [List.mem_cons, List.not_mem_nil, or_false] at hy; rw [hy]; rfl)
/-- numbers in a row of one's own -/
def OwnI (w : World) (base : Nat) (v : Value) (l : List Int) : Prop := w.ownsRow base 3 1 v l.length (l.map (Value.int .i64))
theorem ownsRow_bel {w w' : World} {base E size n : Nat} {v : Value} {xs : List Value} (h : w.ownsRow base E size v n xs) (hb : Below w.heap.size w w') : w'.ownsRow base E size v n xs := by
  rcases h.2 with ⟨rfl, h0⟩ | ⟨g, cap, cur, rfl, hg, hh, hr⟩
  · exact ⟨h.1, .inl ⟨rfl, h0⟩⟩
  · exact ⟨h.1, .inr ⟨g, cap, cur, rfl, hg, (hb.block _ (lt_of_some hh)).trans hh, hr⟩⟩
theorem OwnI.below {w w' : World} {base : Nat} {v : Value} {l : List Int} (h : OwnI w base v l) (hb : Below w.heap.size w w') : OwnI w' base v l := ownsRow_bel h hb

theorem refRange_bad {rb : Nat} {lo hi : Vl} (v u : Value) (w : World) (hzl : SzW lo) (hzh : SzW hi) (hv : IsVx w v lo) (hu : IsVx w u hi) (hbad : rightV lo = false ∨ (rightV lo = true ∧ rightV hi = false)) :
    Calls Tryd.prog 18 #[.pointer (some ⟨rb, 0, none⟩), v, u] w (GivesI [] w) := by
  have HB := Lib.hid (fun (o o' : Obj) => ((Below.refl w.heap.size w).alloc (Nat.le_refl _) o).alloc (by simp) o')
  have HR := Lib.hid (fun W (hW : Below w.heap.size w W) => refRight_any lo v W hzl (hv.v.below hW))
  have HR2 := Lib.hid (fun W (hW : Below w.heap.size w W) => refRight_any hi u W hzh (hu.v.below hW))
  obtain ⟨sl, rfl, hl⟩ := hv
  obtain ⟨la, ll, lc, rfl⟩ := hl.1.slice
  obtain ⟨sr, rfl, hr⟩ := hu
  obtain ⟨ra, rl, rc, rfl⟩ := hr.1.slice
  clear hl hr hzl hzh
  rcases hbad with r1 | ⟨r1, r2⟩
  · rw [r1] at HR
    clear r1
    go_enter Tryd.func18, Tryd.ntmps18
    go_wp2_with fail
    refine (HR.out _ (HB.out _ _)).mono ?_
    rintro e w1 ⟨rfl, b1⟩
    have B1 := Lib.hid ((HB.out _ _).trans (b1.mono (by simp; omega)))
    clear b1
    go_wp2_with fail
    go_ret
    exact ⟨_, rfl, isI_nil _, B1.out⟩
  · rw [r1] at HR
    rw [r2] at HR2
    clear r1 r2
    go_enter Tryd.func18, Tryd.ntmps18
    go_wp2_with fail
    refine (HR.out _ (HB.out _ _)).mono ?_
    rintro e w1 ⟨rfl, b1⟩
    obtain ⟨hc1, hf1⟩ := bcell b1
    have B1 := Lib.hid ((HB.out _ _).trans (b1.mono (by simp; omega)))
    clear b1
    go_wp2_with fail
    refine (HR2.out _ B1.out).mono ?_
    rintro e w2 ⟨rfl, b2⟩
    have B2 := Lib.hid (B1.out.trans (b2.mono B1.out.size))
    clear b2
    go_wp2_with fail
    go_ret
    exact ⟨_, rfl, isI_nil _, B2.out⟩

set_option maxHeartbeats 8000000 in
theorem refRange_ok {rb : Nat} {rv : Value} {M : List (Pr × Value)} {lo hi : Vl} (v u : Value) (w : World) (hr : w.heap[rb]? = some (refObj rv)) (hP : IsP w rv M) (hzl : SzW lo) (hzh : SzW hi) (hv : IsVx w v lo) (hu : IsVx w u hi) (r1 : rightV lo = true) (r2 : rightV hi = true) :
    Calls Tryd.prog 18 #[.pointer (some ⟨rb, 0, none⟩), v, u] w (GivesI (rng lo hi (M.map Prod.fst)) w) := by
  have HB := Lib.hid (fun (o o' : Obj) => ((Below.refl w.heap.size w).alloc (Nat.le_refl _) o).alloc (by simp) o')
  have HR := Lib.hid (fun W (hW : Below w.heap.size w W) => refRight_any lo v W hzl (hv.v.below hW))
  have HR2 := Lib.hid (fun W (hW : Below w.heap.size w W) => refRight_any hi u W hzh (hu.v.below hW))
  have HC1 := Lib.hid (fun (m : Pr × Value) (hm : m ∈ M) W (hW : Below w.heap.size w W) => refCompare_any m.1.1 lo (.agg #[.int .i64 m.1.1.k, .int .i64 m.1.1.n, .string m.1.1.s, m.2]) v W ⟨_, rfl, (hP.m m hm).1.below hW⟩ (hv.v.below hW))
  have HC2 := Lib.hid (fun (m : Pr × Value) (hm : m ∈ M) W (hW : Below w.heap.size w W) => refCompare_any m.1.1 hi (.agg #[.int .i64 m.1.1.k, .int .i64 m.1.1.n, .string m.1.1.s, m.2]) u W ⟨_, rfl, (hP.m m hm).1.below hW⟩ (hu.v.below hW))
  rw [r1] at HR
  rw [r2] at HR2
  have hsm := hP.small
  obtain ⟨pa, pc, rfl⟩ := hP.row.slice
  have HP := Lib.hid hP
  have HRB := Lib.hid hr
  have rlt := lt_of_some hr
  obtain ⟨sl, rfl, hl⟩ := hv
  obtain ⟨la, ll, lc, rfl⟩ := hl.1.slice
  obtain ⟨sr, rfl, hr'⟩ := hu
  obtain ⟨ra, rl, rc, rfl⟩ := hr'.1.slice
  clear hl hr hr' hzl hzh hP r1 r2
  have E0 : Hid ((M.map Prod.fst).length = M.length) := List.length_map ..
  generalize hL : M.map Prod.fst = L at *
  have HL := Lib.hid hL
  clear hL
  go_enter Tryd.func18, Tryd.ntmps18
  go_wp2_with fail
  refine (HR.out _ (HB.out _ _)).mono ?_
  rintro e w1 ⟨rfl, b1⟩
  have vc1 : w1.heap[w.heap.size + 1]? = some (valObj hi (.slice ra rl rc)) := (b1.block _ (by simp)).trans (new_block _ _ _ (by simp))
  have B1 := Lib.hid ((HB.out (valObj lo (.slice la ll lc)) (valObj hi (.slice ra rl rc))).trans (b1.mono (by simp; omega)))
  have C1 : Hid (Below (w.heap.size + 2) ((w.alloc (valObj lo (.slice la ll lc))).alloc (valObj hi (.slice ra rl rc))) w1) := b1.mono (by simp)
  obtain ⟨d0, d1, d2, d3⟩ := val_cells vc1
  clear b1 vc1
  go_wp2_with fail
  refine (HR2.out _ B1.out).mono ?_
  rintro e w2 ⟨rfl, b2⟩
  have C2 : Hid (Below (w.heap.size + 2) ((w.alloc (valObj lo (.slice la ll lc))).alloc (valObj hi (.slice ra rl rc))) w2) := C1.out.trans (b2.mono (by have := C1.out.size; simpa using this))
  clear d0 d1 d2 d3 b2 C1 B1
  go_wp2_with fail
  go_loopw [7, 8] (fun out x wr => ∃ k : Nat, k ≤ M.length ∧ x = .int .i64 k ∧ OwnI wr (w.heap.size + 2) out (rngTo lo hi L k) ∧ Below (w.heap.size + 2) ((w.alloc (valObj lo (.slice la ll lc))).alloc (valObj hi (.slice ra rl rc))) wr) (fun _ x _ => M.length - (intOf x).toNat)
  case atStart => exact ⟨0, by omega, rfl, World.ownsRow_nil _ _ _ _, C2.out⟩
  case round =>
    obtain ⟨k, hk, rfl, hO, hB⟩ := hrel
    have hz0 := hB.size
    have hsz : w.heap.size + 2 ≤ wr.heap.size := by simpa using hz0
    clear hz0
    obtain ⟨oa, on, oc, rfl⟩ := ownsRow_slice hO
    have HO := Lib.hid hO
    have va : wr.heap[w.heap.size]? = some (valObj lo (.slice la ll lc)) := (hB.block _ (by omega)).trans ((Below.heap_alloc _ _ _ (by simp)).trans (new_block w _ _ rfl))
    have vb : wr.heap[w.heap.size + 1]? = some (valObj hi (.slice ra rl rc)) := (hB.block _ (by omega)).trans (new_block _ _ _ (by simp))
    obtain ⟨a0, a1, a2, a3⟩ := val_cells va
    obtain ⟨b0, b1, b2, b3⟩ := val_cells vb
    have HBw : Hid (Below w.heap.size w wr) := (HB.out _ _).trans (hB.mono (by omega))
    have r0 := ref_cell ((HBw.out.block _ rlt).trans HRB.out)
    have HBr := Lib.hid hB
    have z1 : w.heap.size < wr.heap.size := by omega
    have z2 : w.heap.size + 1 < wr.heap.size := by omega
    have z3 : rb < wr.heap.size := by omega
    clear hB va vb hO
    by_cases h1 : k < M.length
    · obtain ⟨m, hm⟩ : ∃ m, M[k]? = some m := ⟨_, List.getElem?_eq_getElem h1⟩
      obtain ⟨b, o, rfl, hb, hc⟩ := HP.out.at hm
      have hq : L[k]? = some m.1 := by rw [← HL.out, List.getElem?_map, hm]; rfl
      have HM := Lib.hid (List.mem_of_getElem? hm)
      have HQ := Lib.hid hq
      have z4 : b < wr.heap.size := by omega
      replace hc := hc.below HBw.out hb
      have f1 := hc.k
      have f2 := hc.n
      have f3 := hc.s
      have f4 := hc.l
      have f5 := hc.i
      have i1 : (0 : Int) ≤ (k : Int) := by omega
      have i2 : (k : Int) < (M.length : Int) := by omega
      have hln := rngTo_len lo hi L k
      clear hm hq hc
      by_cases c1 : 0 ≤ cmpV m.1.1 lo
      · have e1 : decide (0 ≤ cmpV m.1.1 lo) = true := decide_eq_true c1
        by_cases c2 : cmpV m.1.1 hi ≤ 0
        · have e2 : decide (cmpV m.1.1 hi ≤ 0) = true := decide_eq_true c2
          have HIN := Lib.hid (rngTo_in HQ.out c1 c2)
          clear c1 c2
          go_wp2_with fail
          have BB : Hid (Below wr.heap.size wr wr.drew) := (Below.refl _ _).drew
          refine wp_sch (fun W => Below wr.heap.size wr W) (.read 0 (.read 1 (.read 2 (.read 3 (.read 4 (.read 5 (.read 6 (.read 7 (.read 8 (.call 9 (.read 10 (.read 11 (.read 12 (.read 13 (.read 14 (.read 15 (.read 16 (.read 17 (.read 18 (.read 19 (.read 20 (.call 21 (.read 22 (.read 23 .done)))))))))))))))))))))))) (by kernel_rfl) (by kernel_rfl) (fun _ _ _ _ _ h => h) BB.out ?_
          refine wpSch_read rfl (Or.inl ⟨by rfl, fun W hS => by obtain ⟨hcS, _⟩ := bcell hS; clear hS; go_simp; try with_reducible rfl⟩) ?_
          go_simp
          refine wpSch_read rfl (Or.inl ⟨by rfl, fun W hS => by obtain ⟨hcS, _⟩ := bcell hS; clear hS; go_simp; try with_reducible rfl⟩) ?_
          go_simp
          refine wpSch_read rfl (Or.inl ⟨by rfl, fun W hS => by obtain ⟨hcS, _⟩ := bcell hS; clear hS; go_simp; try with_reducible rfl⟩) ?_
          go_simp
          refine wpSch_read rfl (Or.inl ⟨by rfl, fun W hS => by obtain ⟨hcS, _⟩ := bcell hS; clear hS; go_simp; try with_reducible rfl⟩) ?_
          go_simp
          refine wpSch_read rfl (Or.inl ⟨by rfl, fun W hS => by obtain ⟨hcS, _⟩ := bcell hS; clear hS; go_simp; try with_reducible rfl⟩) ?_
          go_simp
          refine wpSch_read rfl (Or.inl ⟨by rfl, fun W hS => by obtain ⟨hcS, _⟩ := bcell hS; clear hS; go_simp; try with_reducible rfl⟩) ?_
          go_simp
          refine wpSch_read rfl (Or.inl ⟨by rfl, fun W hS => by obtain ⟨hcS, _⟩ := bcell hS; clear hS; go_simp; try with_reducible rfl⟩) ?_
          go_simp
          refine wpSch_read rfl (Or.inl ⟨by rfl, fun W hS => by obtain ⟨hcS, _⟩ := bcell hS; clear hS; go_simp; try with_reducible rfl⟩) ?_
          go_simp
          refine wpSch_read rfl (Or.inl ⟨by rfl, fun W hS => by obtain ⟨hcS, _⟩ := bcell hS; clear hS; go_simp; try with_reducible rfl⟩) ?_
          go_simp
          refine wpSch_do rfl (fun K hK => ?_)
          go_simp
          refine (HC1.out m HM.out _ (HBw.out.trans (BB.out.mono HBw.out.size))).mono ?_
          rintro e q1 ⟨rfl, bx⟩
          have B1 := Lib.hid (BB.out.trans (bx.mono BB.out.size))
          refine hK _ _ B1.out ?_
          clear hK K bx
          go_simp
          refine wpSch_read rfl (Or.inl ⟨by rfl, fun W hS => by obtain ⟨hcS, _⟩ := bcell hS; clear hS; go_simp; try with_reducible rfl⟩) ?_
          go_simp
          refine wpSch_read rfl (Or.inl ⟨by rfl, fun W hS => by obtain ⟨hcS, _⟩ := bcell hS; clear hS; go_simp; try with_reducible rfl⟩) ?_
          go_simp
          refine wpSch_read rfl (Or.inl ⟨by rfl, fun W hS => by obtain ⟨hcS, _⟩ := bcell hS; clear hS; go_simp; try with_reducible rfl⟩) ?_
          go_simp
          refine wpSch_read rfl (Or.inl ⟨by rfl, fun W hS => by obtain ⟨hcS, _⟩ := bcell hS; clear hS; go_simp; try with_reducible rfl⟩) ?_
          go_simp
          refine wpSch_read rfl (Or.inl ⟨by rfl, fun W hS => by obtain ⟨hcS, _⟩ := bcell hS; clear hS; go_simp; try with_reducible rfl⟩) ?_
          go_simp
          refine wpSch_read rfl (Or.inl ⟨by rfl, fun W hS => by obtain ⟨hcS, _⟩ := bcell hS; clear hS; go_simp; try with_reducible rfl⟩) ?_
          go_simp
          refine wpSch_read rfl (Or.inl ⟨by rfl, fun W hS => by obtain ⟨hcS, _⟩ := bcell hS; clear hS; go_simp; try with_reducible rfl⟩) ?_
          go_simp
          refine wpSch_read rfl (Or.inl ⟨by rfl, fun W hS => by obtain ⟨hcS, _⟩ := bcell hS; clear hS; go_simp; try with_reducible rfl⟩) ?_
          go_simp
          refine wpSch_read rfl (Or.inl ⟨by rfl, fun W hS => by obtain ⟨hcS, _⟩ := bcell hS; clear hS; go_simp; try with_reducible rfl⟩) ?_
          go_simp
          refine wpSch_read rfl (Or.inl ⟨by rfl, fun W hS => by obtain ⟨hcS, _⟩ := bcell hS; clear hS; go_simp; try with_reducible rfl⟩) ?_
          go_simp
          refine wpSch_read rfl (Or.inl ⟨by rfl, fun W hS => by obtain ⟨hcS, _⟩ := bcell hS; clear hS; go_simp; try with_reducible rfl⟩) ?_
          go_simp
          refine wpSch_do rfl (fun K hK => ?_)
          go_simp
          refine (HC2.out m HM.out _ (HBw.out.trans (B1.out.mono HBw.out.size))).mono ?_
          rintro e q2 ⟨rfl, bx⟩
          have B2 := Lib.hid (B1.out.trans (bx.mono B1.out.size))
          refine hK _ _ B2.out ?_
          clear hK K bx
          go_simp
          refine wpSch_read rfl (Or.inl ⟨by rfl, fun W hS => by obtain ⟨hcS, _⟩ := bcell hS; clear hS; go_simp; try with_reducible rfl⟩) ?_
          go_simp
          refine wpSch_read rfl (Or.inl ⟨by rfl, fun W hS => by obtain ⟨hcS, _⟩ := bcell hS; clear hS; go_simp; try with_reducible rfl⟩) ?_
          go_simp
          refine wpSch_done ?_
          have q0 := ref_cell ((B2.out.block _ z3).trans ((HBw.out.block _ rlt).trans HRB.out))
          have g5 : q2.cell? ⟨b, o + k * 5 + 4, none⟩ = some (.int .i64 m.1.2) := (B2.out.cell (p := ⟨b, o + k * 5 + 4, none⟩) z4).trans f5
          clear r0 f1 f2 f3 f4 f5 a0 a1 a2 a3 b0 b1 b2 b3
          have HO2 := Lib.hid (HO.out.below B2.out)
          have HBr2 := Lib.hid (HBr.out.trans (B2.out.mono hsz))
          have hs2 : w.heap.size + 2 ≤ q2.heap.size := Nat.le_trans hsz B2.out.size
          clear B2
          go_wp2_with (at_builtin; refine wpList_appR rfl (.tmp 50) (.tmp 59) rfl elemI (w.heap.size + 2) _ _ (rngTo lo hi L k).length 1 _ _ rfl rfl (World.ownsRow.alloc HO2.out _) (rowI_new _ _) ?c1 ?c2 ?_)
          case c1 => omega
          case c2 => simp; omega
          intro v' w4 o4 b4
          obtain ⟨oa', on', oc', rfl⟩ := ownsRow_slice o4
          have O4 : Hid (OwnI w4 (w.heap.size + 2) (.slice oa' on' oc') (rngTo lo hi L (k + 1))) := by
            show OwnI _ _ _ _
            unfold OwnI
            rw [HIN.out, List.length_append, List.map_append]
            exact o4
          have HB4 : Hid (Below (w.heap.size + 2) ((w.alloc (valObj lo (.slice la ll lc))).alloc (valObj hi (.slice ra rl rc))) w4) := (HBr2.out.alloc (by simpa using hs2) _).trans b4
          clear o4 b4
          go_wp2_with fail
          go_roundw
          case rel => exact ⟨k + 1, by omega, by go_num, O4.out, HB4.out⟩
          case measure => simp [intOf]; omega
        · have e2 : decide (cmpV m.1.1 hi ≤ 0) = false := decide_eq_false c2
          have HIN := Lib.hid (rngTo_out HQ.out (lo := lo) (hi := hi) (.inr (by omega)))
          clear c1 c2
          go_wp2_with fail
          have BB : Hid (Below wr.heap.size wr wr.drew) := (Below.refl _ _).drew
          refine wp_sch (fun W => Below wr.heap.size wr W) (.read 0 (.read 1 (.read 2 (.read 3 (.read 4 (.read 5 (.read 6 (.read 7 (.read 8 (.call 9 (.read 10 (.read 11 (.read 12 (.read 13 (.read 14 (.read 15 (.read 16 (.read 17 (.read 18 (.read 19 (.read 20 (.call 21 (.read 22 (.read 23 .done)))))))))))))))))))))))) (by kernel_rfl) (by kernel_rfl) (fun _ _ _ _ _ h => h) BB.out ?_
          refine wpSch_read rfl (Or.inl ⟨by rfl, fun W hS => by obtain ⟨hcS, _⟩ := bcell hS; clear hS; go_simp; try with_reducible rfl⟩) ?_
          go_simp
          refine wpSch_read rfl (Or.inl ⟨by rfl, fun W hS => by obtain ⟨hcS, _⟩ := bcell hS; clear hS; go_simp; try with_reducible rfl⟩) ?_
          go_simp
          refine wpSch_read rfl (Or.inl ⟨by rfl, fun W hS => by obtain ⟨hcS, _⟩ := bcell hS; clear hS; go_simp; try with_reducible rfl⟩) ?_
          go_simp
          refine wpSch_read rfl (Or.inl ⟨by rfl, fun W hS => by obtain ⟨hcS, _⟩ := bcell hS; clear hS; go_simp; try with_reducible rfl⟩) ?_
          go_simp
          refine wpSch_read rfl (Or.inl ⟨by rfl, fun W hS => by obtain ⟨hcS, _⟩ := bcell hS; clear hS; go_simp; try with_reducible rfl⟩) ?_
          go_simp
          refine wpSch_read rfl (Or.inl ⟨by rfl, fun W hS => by obtain ⟨hcS, _⟩ := bcell hS; clear hS; go_simp; try with_reducible rfl⟩) ?_
          go_simp
          refine wpSch_read rfl (Or.inl ⟨by rfl, fun W hS => by obtain ⟨hcS, _⟩ := bcell hS; clear hS; go_simp; try with_reducible rfl⟩) ?_
          go_simp
          refine wpSch_read rfl (Or.inl ⟨by rfl, fun W hS => by obtain ⟨hcS, _⟩ := bcell hS; clear hS; go_simp; try with_reducible rfl⟩) ?_
          go_simp
          refine wpSch_read rfl (Or.inl ⟨by rfl, fun W hS => by obtain ⟨hcS, _⟩ := bcell hS; clear hS; go_simp; try with_reducible rfl⟩) ?_
          go_simp
          refine wpSch_do rfl (fun K hK => ?_)
          go_simp
          refine (HC1.out m HM.out _ (HBw.out.trans (BB.out.mono HBw.out.size))).mono ?_
          rintro e q1 ⟨rfl, bx⟩
          have B1 := Lib.hid (BB.out.trans (bx.mono BB.out.size))
          refine hK _ _ B1.out ?_
          clear hK K bx
          go_simp
          refine wpSch_read rfl (Or.inl ⟨by rfl, fun W hS => by obtain ⟨hcS, _⟩ := bcell hS; clear hS; go_simp; try with_reducible rfl⟩) ?_
          go_simp
          refine wpSch_read rfl (Or.inl ⟨by rfl, fun W hS => by obtain ⟨hcS, _⟩ := bcell hS; clear hS; go_simp; try with_reducible rfl⟩) ?_
          go_simp
          refine wpSch_read rfl (Or.inl ⟨by rfl, fun W hS => by obtain ⟨hcS, _⟩ := bcell hS; clear hS; go_simp; try with_reducible rfl⟩) ?_
          go_simp
          refine wpSch_read rfl (Or.inl ⟨by rfl, fun W hS => by obtain ⟨hcS, _⟩ := bcell hS; clear hS; go_simp; try with_reducible rfl⟩) ?_
          go_simp
          refine wpSch_read rfl (Or.inl ⟨by rfl, fun W hS => by obtain ⟨hcS, _⟩ := bcell hS; clear hS; go_simp; try with_reducible rfl⟩) ?_
          go_simp
          refine wpSch_read rfl (Or.inl ⟨by rfl, fun W hS => by obtain ⟨hcS, _⟩ := bcell hS; clear hS; go_simp; try with_reducible rfl⟩) ?_
          go_simp
          refine wpSch_read rfl (Or.inl ⟨by rfl, fun W hS => by obtain ⟨hcS, _⟩ := bcell hS; clear hS; go_simp; try with_reducible rfl⟩) ?_
          go_simp
          refine wpSch_read rfl (Or.inl ⟨by rfl, fun W hS => by obtain ⟨hcS, _⟩ := bcell hS; clear hS; go_simp; try with_reducible rfl⟩) ?_
          go_simp
          refine wpSch_read rfl (Or.inl ⟨by rfl, fun W hS => by obtain ⟨hcS, _⟩ := bcell hS; clear hS; go_simp; try with_reducible rfl⟩) ?_
          go_simp
          refine wpSch_read rfl (Or.inl ⟨by rfl, fun W hS => by obtain ⟨hcS, _⟩ := bcell hS; clear hS; go_simp; try with_reducible rfl⟩) ?_
          go_simp
          refine wpSch_read rfl (Or.inl ⟨by rfl, fun W hS => by obtain ⟨hcS, _⟩ := bcell hS; clear hS; go_simp; try with_reducible rfl⟩) ?_
          go_simp
          refine wpSch_do rfl (fun K hK => ?_)
          go_simp
          refine (HC2.out m HM.out _ (HBw.out.trans (B1.out.mono HBw.out.size))).mono ?_
          rintro e q2 ⟨rfl, bx⟩
          have B2 := Lib.hid (B1.out.trans (bx.mono B1.out.size))
          refine hK _ _ B2.out ?_
          clear hK K bx
          go_simp
          refine wpSch_read rfl (Or.inl ⟨by rfl, fun W hS => by obtain ⟨hcS, _⟩ := bcell hS; clear hS; go_simp; try with_reducible rfl⟩) ?_
          go_simp
          refine wpSch_read rfl (Or.inl ⟨by rfl, fun W hS => by obtain ⟨hcS, _⟩ := bcell hS; clear hS; go_simp; try with_reducible rfl⟩) ?_
          go_simp
          refine wpSch_done ?_
          have O4 : Hid (OwnI q2 (w.heap.size + 2) (.slice oa on oc) (rngTo lo hi L (k + 1))) := by
            show OwnI _ _ _ _
            rw [HIN.out]
            exact HO.out.below B2.out
          have HB4 := Lib.hid (HBr.out.trans (B2.out.mono hsz))
          go_wp2_with fail
          go_roundw
          case rel => exact ⟨k + 1, by omega, by go_num, O4.out, HB4.out⟩
          case measure => simp [intOf]; omega
      · have e1 : decide (0 ≤ cmpV m.1.1 lo) = false := decide_eq_false c1
        have HIN := Lib.hid (rngTo_out HQ.out (lo := lo) (hi := hi) (.inl (by omega)))
        clear c1
        go_wp2_with fail
        have BB : Hid (Below wr.heap.size wr wr.drew) := (Below.refl _ _).drew
        refine wp_sch (fun W => Below wr.heap.size wr W) (.read 0 (.read 1 (.read 2 (.read 3 (.read 4 (.read 5 (.read 6 (.read 7 (.read 8 (.call 9 (.read 10 (.read 11 (.read 12 (.read 13 (.read 14 (.read 15 (.read 16 (.read 17 (.read 18 (.read 19 (.read 20 (.call 21 (.read 22 (.read 23 .done)))))))))))))))))))))))) (by kernel_rfl) (by kernel_rfl) (fun _ _ _ _ _ h => h) BB.out ?_
        refine wpSch_read rfl (Or.inl ⟨by rfl, fun W hS => by obtain ⟨hcS, _⟩ := bcell hS; clear hS; go_simp; try with_reducible rfl⟩) ?_
        go_simp
        refine wpSch_read rfl (Or.inl ⟨by rfl, fun W hS => by obtain ⟨hcS, _⟩ := bcell hS; clear hS; go_simp; try with_reducible rfl⟩) ?_
        go_simp
        refine wpSch_read rfl (Or.inl ⟨by rfl, fun W hS => by obtain ⟨hcS, _⟩ := bcell hS; clear hS; go_simp; try with_reducible rfl⟩) ?_
        go_simp
        refine wpSch_read rfl (Or.inl ⟨by rfl, fun W hS => by obtain ⟨hcS, _⟩ := bcell hS; clear hS; go_simp; try with_reducible rfl⟩) ?_
        go_simp
        refine wpSch_read rfl (Or.inl ⟨by rfl, fun W hS => by obtain ⟨hcS, _⟩ := bcell hS; clear hS; go_simp; try with_reducible rfl⟩) ?_
        go_simp
        refine wpSch_read rfl (Or.inl ⟨by rfl, fun W hS => by obtain ⟨hcS, _⟩ := bcell hS; clear hS; go_simp; try with_reducible rfl⟩) ?_
        go_simp
        refine wpSch_read rfl (Or.inl ⟨by rfl, fun W hS => by obtain ⟨hcS, _⟩ := bcell hS; clear hS; go_simp; try with_reducible rfl⟩) ?_
        go_simp
        refine wpSch_read rfl (Or.inl ⟨by rfl, fun W hS => by obtain ⟨hcS, _⟩ := bcell hS; clear hS; go_simp; try with_reducible rfl⟩) ?_
        go_simp
        refine wpSch_read rfl (Or.inl ⟨by rfl, fun W hS => by obtain ⟨hcS, _⟩ := bcell hS; clear hS; go_simp; try with_reducible rfl⟩) ?_
        go_simp
        refine wpSch_do rfl (fun K hK => ?_)
        go_simp
        refine (HC1.out m HM.out _ (HBw.out.trans (BB.out.mono HBw.out.size))).mono ?_
        rintro e q1 ⟨rfl, bx⟩
        have B1 := Lib.hid (BB.out.trans (bx.mono BB.out.size))
        refine hK _ _ B1.out ?_
        clear hK K bx
        go_simp
        refine wpSch_read rfl (Or.inl ⟨by rfl, fun W hS => by obtain ⟨hcS, _⟩ := bcell hS; clear hS; go_simp; try with_reducible rfl⟩) ?_
        go_simp
        refine wpSch_read rfl (Or.inl ⟨by rfl, fun W hS => by obtain ⟨hcS, _⟩ := bcell hS; clear hS; go_simp; try with_reducible rfl⟩) ?_
        go_simp
        refine wpSch_read rfl (Or.inr ⟨by rfl, rfl⟩) ?_
        go_simp
        refine wpSch_read rfl (Or.inr ⟨by rfl, rfl⟩) ?_
        go_simp
        refine wpSch_read rfl (Or.inr ⟨by rfl, rfl⟩) ?_
        go_simp
        refine wpSch_read rfl (Or.inr ⟨by rfl, rfl⟩) ?_
        go_simp
        refine wpSch_read rfl (Or.inr ⟨by rfl, rfl⟩) ?_
        go_simp
        refine wpSch_read rfl (Or.inr ⟨by rfl, rfl⟩) ?_
        go_simp
        refine wpSch_read rfl (Or.inr ⟨by rfl, rfl⟩) ?_
        go_simp
        refine wpSch_read rfl (Or.inr ⟨by rfl, rfl⟩) ?_
        go_simp
        refine wpSch_read rfl (Or.inr ⟨by rfl, rfl⟩) ?_
        go_simp
        refine wpSch_do rfl (fun K hK => ?_)
        go_simp
        refine hK _ _ B1.out ?_
        clear hK K 
        go_simp
        refine wpSch_read rfl (Or.inr ⟨by rfl, rfl⟩) ?_
        go_simp
        refine wpSch_read rfl (Or.inl ⟨by rfl, fun W hS => by obtain ⟨hcS, _⟩ := bcell hS; clear hS; go_simp; try with_reducible rfl⟩) ?_
        go_simp
        refine wpSch_done ?_
        have O4 : Hid (OwnI q1 (w.heap.size + 2) (.slice oa on oc) (rngTo lo hi L (k + 1))) := by
          show OwnI _ _ _ _
          rw [HIN.out]
          exact HO.out.below B1.out
        have HB4 := Lib.hid (HBr.out.trans (B1.out.mono hsz))
        go_wp2_with fail
        go_roundw
        case rel => exact ⟨k + 1, by omega, by go_num, O4.out, HB4.out⟩
        case measure => simp [intOf]; omega
    · have i2 : ¬ (k : Int) < (M.length : Int) := by omega
      have HE := Lib.hid (rngTo_end lo hi L k (by rw [E0.out]; omega))
      have hln := rngTo_len lo hi L k
      clear h1
      go_wp2_with fail
      go_ret
      refine ⟨_, rfl, ?_, HBw.out⟩
      rw [← HE.out]
      exact isI_own (by omega) HO.out
theorem refRange_any {rb : Nat} {L : List Pr} (lo hi : Vl) (v u : Value) (w : World) (hR : IsR w rb L) (hzl : SzW lo) (hzh : SzW hi) (hv : IsVx w v lo) (hu : IsVx w u hi) :
    Calls Tryd.prog 18 #[.pointer (some ⟨rb, 0, none⟩), v, u] w (GivesI (rangeL lo hi L) w) := by
  unfold rangeL
  obtain ⟨rv, M, hr, hP, rfl⟩ := hR
  cases r1 : rightV lo
  · exact refRange_bad v u w hzl hzh hv hu (.inl r1)
  · cases r2 : rightV hi
    · exact refRange_bad v u w hzl hzh hv hu (.inr ⟨r1, r2⟩)
    · exact refRange_ok v u w hr hP hzl hzh hv hu r1 r2
set_option maxHeartbeats 1000000 in
theorem refFind_any {rb : Nat} {L : List Pr} (V : Vl) (v : Value) (w : World) (hR : IsR w rb L) (hz : SzW V) (hv : IsVx w v V) :
    Calls Tryd.prog 16 #[.pointer (some ⟨rb, 0, none⟩), v] w (GivesI (rangeL V V L) w) := by
  have HB := Lib.hid (fun (o : Obj) => (Below.refl w.heap.size w).alloc (Nat.le_refl _) o)
  have HR := Lib.hid (fun W (hW : Below w.heap.size w W) => refRange_any V V v v W (hR.below hW) hz hz (hv.below hW) (hv.below hW))
  obtain ⟨sl, rfl, hl⟩ := hv
  obtain ⟨la, ll, lc, rfl⟩ := hl.1.slice
  clear hl hz hR
  generalize rangeL V V L = l at *
  go_enter Tryd.func16, Tryd.ntmps16
  go_wp2_with fail
  refine (HR.out _ (HB.out _)).mono ?_
  intro e w1 hG
  obtain ⟨vv, rfl, ii, b1⟩ := hG
  have II := Lib.hid ii
  have B1 := Lib.hid ((HB.out _).trans (b1.mono (by simp)))
  clear b1 ii
  go_wp2_with fail
  go_ret
  exact ⟨_, rfl, II.out, B1.out⟩
end Go.Proofs.YtifaaacbbjlffaaDoor
