/- The contract of the law's made: an index of pairs. -/
import Derived.Test.YtifaaacbbjlffaaDoorLawAwake
namespace Mor
structure CallD where
  k : Int
  v : RawD
  w : RawD
  id : Int
def callKey (c : CallD) : Pr := (rawVal c.v, 1 + pickZ c.id 9)
def addP (L : List Pr) (p : Pr) : List Pr := if has p L = true then L else ins p L
def madeL (ps : List Pr) : List Pr := ps.foldl addP []
/-- the pairs, in the order in which they are put -/
def pairsOf (cs : List CallD) (back : Bool) : List Pr := if back then ((cs.take 40).map callKey).reverse else (cs.take 40).map callKey
theorem addP_len (L : List Pr) (p : Pr) : (addP L p).length ≤ L.length + 1 := by unfold addP; split; omega; rw [ins_length]; exact Nat.le_refl _
theorem foldl_len : ∀ (ps : List Pr) (L : List Pr), (ps.foldl addP L).length ≤ L.length + ps.length
  | [], L => by simp
  | p :: ps, L => by
    have := foldl_len ps (addP L p)
    have := addP_len L p
    simp only [List.foldl_cons, List.length_cons]; omega
theorem madeL_len (ps : List Pr) : (madeL ps).length ≤ ps.length := by have := foldl_len ps []; simpa [madeL] using this
theorem madeL_snoc (ps : List Pr) (p : Pr) : madeL (ps ++ [p]) = addP (madeL ps) p := by simp [madeL]
theorem okB_raw (r : RawD) (c : Int) : okB (rawVal r) (1 + pickZ c 9) = true := by
  have hb := pickZ_bd c 9 (by decide)
  unfold okB
  rw [right_rawVal, Bool.true_and]
  simp [idOk]; omega
theorem putL_raw (r : RawD) (c : Int) (L : List Pr) : putL (rawVal r) (1 + pickZ c 9) L = addP L (rawVal r, 1 + pickZ c 9) := by
  unfold putL addP
  rw [okB_raw]
  simp
end Mor
namespace Go.Proofs.YtifaaacbbjlffaaDoor
open Go.RowKit Mor

theorem szV_raw {w : World} {r : RawD} {sl : Value} (_ : RawOk w r sl) : SzV (rawVal r) := by
  have hl : ∀ p ∈ listOf r.l, p.s.size ≤ 9223372036854775807 := fun p hp => by
    unfold listOf at hp
    obtain ⟨z, _, rfl⟩ := List.mem_map.1 hp
    show (ByteArray.mk #[]).size ≤ _
    decide
  have h0 : (ByteArray.mk #[]).size ≤ 9223372036854775807 := by decide
  have ht := txtZ_size (pickZ r.n 5)
  unfold rawVal
  repeat' split
  all_goals first
    | exact ⟨h0, hl⟩
    | exact ⟨h0, fun p hp => by simp at hp⟩
    | exact ⟨Nat.le_trans ht (by decide), fun p hp => by simp at hp⟩

/-- the cells of one call that came in -/
structure CallAt (w : World) (b o : Nat) (c : CallD) (sv sw : Value) : Prop where
  k : w.cell? ⟨b, o, none⟩ = some (.int .u8 c.k)
  v0 : w.cell? ⟨b, o + 1, none⟩ = some (.int .i64 c.v.k)
  v1 : w.cell? ⟨b, o + 1 + 1, none⟩ = some (.int .i64 c.v.n)
  v2 : w.cell? ⟨b, o + 1 + 1 + 1, none⟩ = some (.string c.v.s)
  v3 : w.cell? ⟨b, o + 1 + 1 + 1 + 1, none⟩ = some sv
  w0 : w.cell? ⟨b, o + 5, none⟩ = some (.int .i64 c.w.k)
  w1 : w.cell? ⟨b, o + 5 + 1, none⟩ = some (.int .i64 c.w.n)
  w2 : w.cell? ⟨b, o + 5 + 1 + 1, none⟩ = some (.string c.w.s)
  w3 : w.cell? ⟨b, o + 5 + 1 + 1 + 1, none⟩ = some sw
  id : w.cell? ⟨b, o + 9, none⟩ = some (.int .i64 c.id)
  rv : RawOk w c.v sv
  rw : RawOk w c.w sw
  ri : I64 c.id
  rk : 0 ≤ c.k ∧ c.k < 256
/-- calls that came in -/
def IsC (w : World) (v : Value) (cs : List CallD) : Prop := ∃ (a : Option Addr) (cp : Nat), v = .slice a cs.length cp ∧ cs.length ≤ 9223372036854775807 ∧ ∀ i c, cs[i]? = some c → ∃ b o sv sw, a = some ⟨b, o, none⟩ ∧ CallAt w b (o + i * 10) c sv sw

def MadeX (w : World) (L : List Pr) (e : Ending) (w' : World) : Prop := ∃ xb, e = .returned (.pointer (some ⟨xb, 0, none⟩)) ∧ Own w xb L w'

/-- the place of the pair that is put k-th -/
def placeOf (back : Bool) (n k : Nat) : Nat := if back then n - 1 - k else k
theorem pairsOf_at (cs : List CallD) (back : Bool) (n k : Nat) (hn : n = min cs.length 40) (hk : k < n) : ∃ c, cs[placeOf back n k]? = some c ∧ (pairsOf cs back).take (k + 1) = (pairsOf cs back).take k ++ [callKey c] := by
  have hlt : placeOf back n k < cs.length := by unfold placeOf; split <;> omega
  refine ⟨cs[placeOf back n k], List.getElem?_eq_getElem hlt, ?_⟩
  have hlen : (pairsOf cs back).length = n := by unfold pairsOf; split <;> simp <;> omega
  rw [List.take_succ_eq_append_getElem (by omega)]
  congr 2
  cases back with
  | false => simp [pairsOf, placeOf]
  | true =>
    have e : n - 1 - k = min 40 cs.length - 1 - k := by omega
    simp only [pairsOf, placeOf, if_true, List.getElem_reverse, List.getElem_map, List.getElem_take, List.length_map, List.length_take, e]

set_option maxHeartbeats 4000000 in
theorem made_any (cs : List CallD) (back : Bool) (v : Value) (w : World) (hT : Tabs w) (hc : IsC w v cs) : Calls Tryd.prog 19 #[v, .bool back] w (MadeX w (madeL (pairsOf cs back))) := by
  obtain ⟨a, cp, rfl, hlen, hat⟩ := hc
  have HAT := Lib.hid hat
  have HT := Lib.hid hT
  obtain ⟨n, e1⟩ : ∃ n : Nat, min (cs.length : Int) 40 = (n : Int) := ⟨min cs.length 40, by omega⟩
  have hn : n = min cs.length 40 := by omega
  have hn1 : n ≤ 40 := by omega
  have hn2 : n ≤ cs.length := by omega
  have hps : (pairsOf cs back).length = n := by unfold pairsOf; split <;> simp <;> omega
  have HPS := Lib.hid hps
  have HNN := Lib.hid hn
  clear hat hT hn hps
  cases back
  all_goals
    go_enter Tryd.func19, Tryd.ntmps19
    go_wp2_with fail
    refine (new_any _).mono ?_
    rintro e w1 ⟨rfl, x1, b1⟩
    have O1 := Lib.hid (Own.mk x1 b1)
    clear x1 b1
    go_wp2_with fail
  · go_loopw [7] (fun i wr => ∃ k : Nat, k ≤ n ∧ i = .int .i64 k ∧ Own w w.heap.size (madeL ((pairsOf cs false).take k)) wr) (fun i _ => n - (intOf i).toNat)
    case atStart => exact ⟨0, by omega, rfl, O1.out⟩
    case round =>
      obtain ⟨k, hk, rfl, hO⟩ := hrel
      have O := Lib.hid hO
      clear hO
      by_cases hlt : k < n
      · obtain ⟨c, hcs, htk⟩ := pairsOf_at cs false n k HNN.out hlt
        have hj : placeOf false n k = k := rfl
        rw [hj] at hcs
        obtain ⟨b, o, sv, sw, rfl, hC⟩ := HAT.out _ c hcs
        have TK := Lib.hid htk
        have HC := Lib.hid hC
        have v0 := hC.v0
        have v1 := hC.v1
        have v2 := hC.v2
        have v3 := hC.v3
        have vi := hC.id
        have hbl : b < w.heap.size := by obtain ⟨q, hq, _⟩ := cells_of_cell v0; exact lt_of_block hq
        have i1 : (k : Int) < (n : Int) := by omega
        have i2 : (k : Int) < (cs.length : Int) := by omega
        have i3 : (0 : Int) ≤ k := by omega
        have i4 : (0 : Int) ≤ (k : Int) := by omega
        obtain ⟨sa, sn, sc, rfl⟩ : ∃ a n c, sv = .slice a n c := by obtain ⟨_, a, c, h, _⟩ := hC.rv.l; exact ⟨_, _, _, h⟩
        have hwl := O.out.b.size
        clear hcs htk hC hj
        go_wp2_with fail
        refine wp_sched (fun W => Below w.heap.size w W) [(0, true), (1, true), (2, true), (3, true), (4, true), (5, true), (7, true), (8, true), (9, true), (10, true), (11, true), (6, false), (12, false), (13, false)] (by kernel_rfl) (by kernel_rfl) (fun _ _ _ _ _ h => h) O.out.b.drew ?_
        refine wpSched_read rfl (Or.inl ⟨by rfl, fun W hS => by obtain ⟨hcS, _⟩ := bcell hS; clear hS; go_simp; try with_reducible rfl⟩) ?_
        go_simp
        refine wpSched_read rfl (Or.inl ⟨by rfl, fun W hS => by obtain ⟨hcS, _⟩ := bcell hS; clear hS; go_simp; try with_reducible rfl⟩) ?_
        go_simp
        refine wpSched_read rfl (Or.inl ⟨by rfl, fun W hS => by obtain ⟨hcS, _⟩ := bcell hS; clear hS; go_simp; try with_reducible rfl⟩) ?_
        go_simp
        refine wpSched_read rfl (Or.inl ⟨by rfl, fun W hS => by obtain ⟨hcS, _⟩ := bcell hS; clear hS; go_simp; try with_reducible rfl⟩) ?_
        go_simp
        refine wpSched_read rfl (Or.inl ⟨by rfl, fun W hS => by obtain ⟨hcS, _⟩ := bcell hS; clear hS; go_simp; try with_reducible rfl⟩) ?_
        go_simp
        refine wpSched_read rfl (Or.inl ⟨by rfl, fun W hS => by obtain ⟨hcS, _⟩ := bcell hS; clear hS; go_simp; try with_reducible rfl⟩) ?_
        go_simp
        refine wpSched_read rfl (Or.inl ⟨by rfl, fun W hS => by obtain ⟨hcS, _⟩ := bcell hS; clear hS; go_simp; try with_reducible rfl⟩) ?_
        go_simp
        refine wpSched_read rfl (Or.inl ⟨by rfl, fun W hS => by obtain ⟨hcS, _⟩ := bcell hS; clear hS; go_simp; try with_reducible rfl⟩) ?_
        go_simp
        refine wpSched_read rfl (Or.inl ⟨by rfl, fun W hS => by obtain ⟨hcS, _⟩ := bcell hS; clear hS; go_simp; try with_reducible rfl⟩) ?_
        go_simp
        refine wpSched_read rfl (Or.inl ⟨by rfl, fun W hS => by obtain ⟨hcS, _⟩ := bcell hS; clear hS; go_simp; try with_reducible rfl⟩) ?_
        go_simp
        refine wpSched_read rfl (Or.inl ⟨by rfl, fun W hS => by obtain ⟨hcS, _⟩ := bcell hS; clear hS; go_simp; try with_reducible rfl⟩) ?_
        go_simp
        refine wpSched_do rfl (fun K hK => ?_)
        go_simp
        refine (val_any c.v _ _ (HC.out.rv.below O.out.b.drew)).mono ?_
        intro e w2 hG
        obtain ⟨vv, rfl, iv, bv⟩ := hG
        obtain ⟨sl2, rfl, il⟩ := iv
        obtain ⟨la2, ln2, lc2, rfl⟩ := il.1.slice
        have O2 := Lib.hid ((O.out.below (Below.refl _ wr).drew).below bv)
        have IV : Hid (IsVx w2 (.agg #[.int .i64 (rawVal c.v).k, .int .i64 (rawVal c.v).n, .string (rawVal c.v).s, .slice la2 ln2 lc2]) (rawVal c.v)) := ⟨_, rfl, il⟩
        refine hK _ _ O2.out.b ?_
        clear hK K bv il
        refine wpSched_do rfl (fun K hK => ?_)
        go_simp
        refine (id_any c.id HC.out.ri _).mono ?_
        rintro e w3 ⟨rfl, rfl⟩
        refine hK _ _ O2.out.b ?_
        clear hK K
        refine wpSched_do rfl (fun K hK => ?_)
        go_simp
        refine (putX_any (rawVal c.v) _ _ _ (HT.out.below O2.out.b) (szV_raw HC.out.rv) IV.out O2.out.x (by have := madeL_len ((pairsOf cs false).take k); simp at this; omega)).mono ?_
        intro e w3 hG
        obtain ⟨rfl, x3, f3⟩ := hG
        rw [putL_raw] at x3
        have O3 : Hid (Own w w.heap.size (madeL ((pairsOf cs false).take (k + 1))) w3) := by
          rw [TK.out, madeL_snoc]
          exact O2.out.did x3 f3
        refine hK _ _ O3.out.b ?_
        clear hK K x3 f3
        refine wpSched_done ?_
        go_wp2_with fail
        go_roundw
        case rel => exact ⟨k + 1, by omega, by go_num, O3.out⟩
        case measure => simp [intOf]; omega
      · have i1 : ¬ (k : Int) < (n : Int) := by omega
        have E := Lib.hid (show (pairsOf cs false).take k = pairsOf cs false from List.take_of_length_le (by have := HPS.out; omega))
        go_wp2_with fail
        go_ret
        refine ⟨_, rfl, ?_⟩
        have := O.out
        rw [E.out] at this
        exact this
  · go_loopw [7] (fun i wr => ∃ k : Nat, k ≤ n ∧ i = .int .i64 k ∧ Own w w.heap.size (madeL ((pairsOf cs true).take k)) wr) (fun i _ => n - (intOf i).toNat)
    case atStart => exact ⟨0, by omega, rfl, O1.out⟩
    case round =>
      obtain ⟨k, hk, rfl, hO⟩ := hrel
      have O := Lib.hid hO
      clear hO
      by_cases hlt : k < n
      · obtain ⟨c, hcs, htk⟩ := pairsOf_at cs true n k HNN.out hlt
        have hj : placeOf true n k = (n - 1 - k) := rfl
        rw [hj] at hcs
        obtain ⟨b, o, sv, sw, rfl, hC⟩ := HAT.out _ c hcs
        have TK := Lib.hid htk
        have HC := Lib.hid hC
        have v0 := hC.v0
        have v1 := hC.v1
        have v2 := hC.v2
        have v3 := hC.v3
        have vi := hC.id
        have hbl : b < w.heap.size := by obtain ⟨q, hq, _⟩ := cells_of_cell v0; exact lt_of_block hq
        have i1 : (k : Int) < (n : Int) := by omega
        have i2 : (((n : Int) - 1 - k) : Int) < (cs.length : Int) := by omega
        have i3 : (0 : Int) ≤ ((n : Int) - 1 - k) := by omega
        have i4 : ((n : Int) - 1 - (k : Int)).toNat = n - 1 - k := by omega
        have i5 : (k : Int) ≤ (n : Int) - 1 := by omega
        obtain ⟨sa, sn, sc, rfl⟩ : ∃ a n c, sv = .slice a n c := by obtain ⟨_, a, c, h, _⟩ := hC.rv.l; exact ⟨_, _, _, h⟩
        have hwl := O.out.b.size
        clear hcs htk hC hj
        go_wp2_with fail
        refine wp_sched (fun W => Below w.heap.size w W) [(0, true), (1, true), (2, true), (3, true), (4, true), (5, true), (7, true), (8, true), (9, true), (10, true), (11, true), (6, false), (12, false), (13, false)] (by kernel_rfl) (by kernel_rfl) (fun _ _ _ _ _ h => h) O.out.b.drew ?_
        refine wpSched_read rfl (Or.inl ⟨by rfl, fun W hS => by obtain ⟨hcS, _⟩ := bcell hS; clear hS; go_simp; try with_reducible rfl⟩) ?_
        go_simp
        refine wpSched_read rfl (Or.inl ⟨by rfl, fun W hS => by obtain ⟨hcS, _⟩ := bcell hS; clear hS; go_simp; try with_reducible rfl⟩) ?_
        go_simp
        refine wpSched_read rfl (Or.inl ⟨by rfl, fun W hS => by obtain ⟨hcS, _⟩ := bcell hS; clear hS; go_simp; try with_reducible rfl⟩) ?_
        go_simp
        refine wpSched_read rfl (Or.inl ⟨by rfl, fun W hS => by obtain ⟨hcS, _⟩ := bcell hS; clear hS; go_simp; try with_reducible rfl⟩) ?_
        go_simp
        refine wpSched_read rfl (Or.inl ⟨by rfl, fun W hS => by obtain ⟨hcS, _⟩ := bcell hS; clear hS; go_simp; try with_reducible rfl⟩) ?_
        go_simp
        refine wpSched_read rfl (Or.inl ⟨by rfl, fun W hS => by obtain ⟨hcS, _⟩ := bcell hS; clear hS; go_simp; try with_reducible rfl⟩) ?_
        go_simp
        refine wpSched_read rfl (Or.inl ⟨by rfl, fun W hS => by obtain ⟨hcS, _⟩ := bcell hS; clear hS; go_simp; try with_reducible rfl⟩) ?_
        go_simp
        refine wpSched_read rfl (Or.inl ⟨by rfl, fun W hS => by obtain ⟨hcS, _⟩ := bcell hS; clear hS; go_simp; try with_reducible rfl⟩) ?_
        go_simp
        refine wpSched_read rfl (Or.inl ⟨by rfl, fun W hS => by obtain ⟨hcS, _⟩ := bcell hS; clear hS; go_simp; try with_reducible rfl⟩) ?_
        go_simp
        refine wpSched_read rfl (Or.inl ⟨by rfl, fun W hS => by obtain ⟨hcS, _⟩ := bcell hS; clear hS; go_simp; try with_reducible rfl⟩) ?_
        go_simp
        refine wpSched_read rfl (Or.inl ⟨by rfl, fun W hS => by obtain ⟨hcS, _⟩ := bcell hS; clear hS; go_simp; try with_reducible rfl⟩) ?_
        go_simp
        refine wpSched_do rfl (fun K hK => ?_)
        go_simp
        refine (val_any c.v _ _ (HC.out.rv.below O.out.b.drew)).mono ?_
        intro e w2 hG
        obtain ⟨vv, rfl, iv, bv⟩ := hG
        obtain ⟨sl2, rfl, il⟩ := iv
        obtain ⟨la2, ln2, lc2, rfl⟩ := il.1.slice
        have O2 := Lib.hid ((O.out.below (Below.refl _ wr).drew).below bv)
        have IV : Hid (IsVx w2 (.agg #[.int .i64 (rawVal c.v).k, .int .i64 (rawVal c.v).n, .string (rawVal c.v).s, .slice la2 ln2 lc2]) (rawVal c.v)) := ⟨_, rfl, il⟩
        refine hK _ _ O2.out.b ?_
        clear hK K bv il
        refine wpSched_do rfl (fun K hK => ?_)
        go_simp
        refine (id_any c.id HC.out.ri _).mono ?_
        rintro e w3 ⟨rfl, rfl⟩
        refine hK _ _ O2.out.b ?_
        clear hK K
        refine wpSched_do rfl (fun K hK => ?_)
        go_simp
        refine (putX_any (rawVal c.v) _ _ _ (HT.out.below O2.out.b) (szV_raw HC.out.rv) IV.out O2.out.x (by have := madeL_len ((pairsOf cs true).take k); simp at this; omega)).mono ?_
        intro e w3 hG
        obtain ⟨rfl, x3, f3⟩ := hG
        rw [putL_raw] at x3
        have O3 : Hid (Own w w.heap.size (madeL ((pairsOf cs true).take (k + 1))) w3) := by
          rw [TK.out, madeL_snoc]
          exact O2.out.did x3 f3
        refine hK _ _ O3.out.b ?_
        clear hK K x3 f3
        refine wpSched_done ?_
        go_wp2_with fail
        go_roundw
        case rel => exact ⟨k + 1, by omega, by go_num, O3.out⟩
        case measure => simp [intOf]; omega
      · have i1 : ¬ (k : Int) < (n : Int) := by omega
        have E := Lib.hid (show (pairsOf cs true).take k = pairsOf cs true from List.take_of_length_le (by have := HPS.out; omega))
        go_wp2_with fail
        go_ret
        refine ⟨_, rfl, ?_⟩
        have := O.out
        rw [E.out] at this
        exact this
end Go.Proofs.YtifaaacbbjlffaaDoor
