/- The contract of val.Right at every value whose list's values have no lists. -/
import Derived.Test.YtifaaacbbjlffaaDoorValText
namespace Mor
/-- a value in a list -/
def rightP (p : Pv) : Bool := decide (p.k ≠ 5) && rightK (rightT p.s) p.k p.n p.s 0
def rightV (v : Vl) : Bool := if v.k = 5 then decide (v.n = 0) && (v.s.toList.isEmpty && (decide (v.l.length ≤ 12) && v.l.all rightP)) else rightK (rightT v.s) v.k v.n v.s v.l.length
theorem rightV_five (v : Vl) (h : v.k = 5) : rightV v = (decide (v.n = 0) && (v.s.toList.isEmpty && (decide (v.l.length ≤ 12) && v.l.all rightP))) := by unfold rightV; rw [if_pos h]
theorem rightV_else (v : Vl) (h : v.k ≠ 5) : rightV v = rightK (rightT v.s) v.k v.n v.s v.l.length := by unfold rightV; rw [if_neg h]
end Mor
namespace Go.Proofs.YtifaaacbbjlffaaDoor
open Go.RowKit Mor

set_option maxHeartbeats 400000 in
theorem noItem_any (p : Pv) (w : World) (hs : p.s.size ≤ 9223372036854775807) (hT : Tabs w) : Calls Tryd.prog 49 #[encP p] w fun e w' => e = .returned (.bool (!rightP p)) ∧ Below w.heap.size w w' := by
  have HB := Lib.hid (fun (o : Obj) => (Below.refl w.heap.size w).alloc (Nat.le_refl _) o)
  unfold encP
  by_cases hk : p.k = 5
  · have E := Lib.hid (show (!rightP p) = true by simp [rightP, hk])
    have hz : (p.k == 5) = true := by rw [hk]; rfl
    rw [E.out]
    clear E hk
    go_enter Tryd.func49, Tryd.ntmps49
    go_wp2_with fail
    go_ret
    exact ⟨by simp, HB.out _⟩
  · have E := Lib.hid (show (!rightP p) = !rightK (rightT p.s) p.k p.n p.s 0 by simp [rightP, hk])
    have hz : (p.k == 5) = false := beq_eq_false_iff_ne.2 hk
    have HR := Lib.hid (fun W (hW : Below w.heap.size w W) => right_plain (rightT p.s) p.k p.n p.s none 0 0 W hk (fun _ W' hW' => rightText_any p.s W' hs ((hT.below hW).below hW')))
    rw [E.out]
    clear E hk
    go_enter Tryd.func49, Tryd.ntmps49
    go_wp2_with fail
    refine (HR.out _ (HB.out _)).mono ?_
    rintro e w1 ⟨rfl, b1⟩
    have B1 := Lib.hid ((HB.out _).trans (b1.mono (by simp)))
    clear b1
    go_wp2_with fail
    go_ret
    exact ⟨by simp, B1.out⟩

/-- where the first value is that may not stand in a list; -1: nowhere -/
def firstBad : Nat → List Pv → Int
  | _, [] => -1
  | k, p :: l => if rightP p = true then firstBad (k + 1) l else k
theorem firstBad_all : ∀ (k : Nat) (l : List Pv), decide (0 ≤ firstBad k l) = !l.all rightP
  | k, [] => by simp [firstBad]
  | k, p :: l => by
    unfold firstBad
    cases h : rightP p
    · simp [h]
    · simp [h, firstBad_all (k + 1) l]
theorem firstBad_drop (l : List Pv) (k : Nat) (p : Pv) (hp : l[k]? = some p) : firstBad k (l.drop k) = if rightP p = true then firstBad (k + 1) (l.drop (k + 1)) else k := by
  obtain ⟨h1, rfl⟩ := List.getElem?_eq_some_iff.1 hp
  rw [List.drop_eq_getElem_cons h1, firstBad]

set_option maxHeartbeats 1000000 in
theorem indexFunc_some (l : List Pv) (b o c : Nat) (w : World) (hT : Tabs w) (hs : ∀ p ∈ l, p.s.size ≤ 9223372036854775807) (hl : ∀ i p, l[i]? = some p → PvAt w b (o + i * 4) p) (hl63 : l.length < 1000000) :
    Calls Tryd.prog 59 #[.slice (some ⟨b, o, none⟩) l.length c, .func (.func 49) #[] #[]] w fun e w' => e = .returned (.int .i64 (firstBad 0 l)) ∧ Below w.heap.size w w' := by
  have HL := Lib.hid hl
  have HS := Lib.hid hs
  have HT := Lib.hid hT
  clear hl hs hT
  go_enter Tryd.func59, Tryd.ntmps59
  go_wp2_with fail
  go_loopw [8] (fun i wr => ∃ k : Nat, k ≤ l.length ∧ i = .int .i64 k ∧ Hid (firstBad 0 l = firstBad k (l.drop k)) ∧ Below w.heap.size w wr) (fun i _ => l.length - (intOf i).toNat)
  case atStart => exact ⟨0, by omega, rfl, rfl, Below.refl _ _⟩
  case round =>
    obtain ⟨k, hk, rfl, HC, hB⟩ := hrel
    by_cases hlt : k < l.length
    · obtain ⟨p, hp⟩ : ∃ p, l[k]? = some p := ⟨_, List.getElem?_eq_getElem hlt⟩
      have HD := Lib.hid (firstBad_drop l k p hp)
      have f0 := (HL.out k p hp).below hB
      have f1 := f0.k
      have f2 := f0.n
      have f3 := f0.s
      have f4 := f0.l
      have i1 : (0 : Int) ≤ (k : Int) := by omega
      have i2 : (k : Int) < (l.length : Int) := by omega
      have HN := Lib.hid (noItem_any p wr (HS.out p (List.mem_of_getElem? hp)) (HT.out.below hB))
      have HBw := Lib.hid hB
      have zB := hB.size
      unfold encP at HN
      clear hp f0 hB
      cases hr : rightP p
      · rw [hr] at HN HD
        clear hr
        go_wp2_with fail
        refine HN.out.mono ?_
        rintro e w1 ⟨rfl, b1⟩
        have B1 := Lib.hid (HBw.out.trans (b1.mono zB))
        clear b1
        go_wp2_with fail
        go_ret
        rw [HC.out, HD.out]
        exact ⟨by simp, B1.out⟩
      · rw [hr] at HN HD
        clear hr
        go_wp2_with fail
        refine HN.out.mono ?_
        rintro e w1 ⟨rfl, b1⟩
        have B1 := Lib.hid (HBw.out.trans (b1.mono zB))
        clear b1
        go_wp2_with fail
        go_roundw
        case rel => exact ⟨k + 1, by omega, by go_num, HC.out.trans (by rw [HD.out]; rfl), B1.out⟩
        case measure => simp [intOf]; omega
    · have HE := Lib.hid (show firstBad k (l.drop k) = -1 by rw [List.drop_eq_nil_of_le (by omega)]; rfl)
      have HBw := Lib.hid hB
      clear hB
      go_wp2_with fail
      go_ret
      rw [HC.out, HE.out]
      exact ⟨rfl, HBw.out⟩

set_option maxHeartbeats 400000 in
theorem indexFunc_nil (w : World) : Calls Tryd.prog 59 #[.slice none 0 0, .func (.func 49) #[] #[]] w fun e w' => e = .returned (.int .i64 (-1)) ∧ Below w.heap.size w w' := by
  go_enter Tryd.func59, Tryd.ntmps59
  go_wp2_with fail
  refine wp_loop_rounds 1 ?_
  rw [rounds_succ]
  go_wp2_with fail
  go_ret
  exact ⟨rfl, Below.refl _ _⟩

theorem contains_any (l : List Pv) (sl : Value) (w : World) (hT : Tabs w) (hs : ∀ p ∈ l, p.s.size ≤ 9223372036854775807) (hl : IsL w sl l) :
    Calls Tryd.prog 48 #[sl, .func (.func 49) #[] #[]] w fun e w' => e = .returned (.bool (!l.all rightP)) ∧ Below w.heap.size w w' := by
  have key : Calls Tryd.prog 59 #[sl, .func (.func 49) #[] #[]] w fun e w' => e = .returned (.int .i64 (firstBad 0 l)) ∧ Below w.heap.size w w' := by
    rcases hl with ⟨rfl, rfl⟩ | ⟨_, h2, b, o, c, rfl, h4⟩
    · exact indexFunc_nil w
    · exact indexFunc_some l b o c w hT hs h4 h2
  have K := Lib.hid key
  have E := Lib.hid (firstBad_all 0 l)
  obtain ⟨la, ll, lc, rfl⟩ := hl.slice
  clear key hl hs hT
  by_cases h : 0 ≤ firstBad 0 l
  · have hE := E.out
    rw [decide_eq_true h] at hE
    rw [← hE]
    clear hE E
    go_enter Tryd.func48, Tryd.ntmps48
    go_wp2_with (go_at_call 59; refine K.out.mono ?_; rintro e w' ⟨rfl, hb⟩)
    go_ret
    exact ⟨by simp, hb⟩
  · have hE := E.out
    rw [decide_eq_false h] at hE
    rw [← hE]
    clear hE E
    go_enter Tryd.func48, Tryd.ntmps48
    go_wp2_with (go_at_call 59; refine K.out.mono ?_; rintro e w' ⟨rfl, hb⟩)
    go_ret
    exact ⟨by simp; omega, hb⟩

/-- a value whose texts can be -/
def SzV (v : Vl) : Prop := v.s.size ≤ 9223372036854775807 ∧ ∀ p ∈ v.l, p.s.size ≤ 9223372036854775807

set_option maxHeartbeats 400000 in
theorem right_any (V : Vl) (v : Value) (w : World) (hT : Tabs w) (hz : SzV V) (hv : IsV w v V) : Calls Tryd.prog 30 #[v] w fun e w' => e = .returned (.bool (rightV V)) ∧ Below w.heap.size w w' := by
  obtain ⟨sl, rfl, hl⟩ := hv
  have hlen : ∃ a c, sl = .slice a V.l.length c := by
    rcases hl with ⟨h, rfl⟩ | ⟨_, h2, b, o, c, rfl, h4⟩
    · exact ⟨none, 0, by rw [h]; rfl⟩
    · exact ⟨_, _, rfl⟩
  by_cases hk : V.k = 5
  · rw [rightV_five V hk]
    have HB := Lib.hid (fun (o : Obj) => (Below.refl w.heap.size w).alloc (Nat.le_refl _) o)
    have HC := Lib.hid (fun W (hW : Below w.heap.size w W) => contains_any V.l sl W (hT.below hW) hz.2 (hl.below hW))
    obtain ⟨la, lc, rfl⟩ := hlen
    rw [hk]
    clear hl hz hT hk
    by_cases hn : V.n = 0
    · have hnb : (V.n == 0) = true := by rw [hn]; rfl
      rw [decide_eq_true hn, Bool.true_and]
      clear hn
      cases he : V.s.toList.isEmpty
      · rw [Bool.false_and]
        go_enter Tryd.func30, Tryd.ntmps30
        go_wp2_with fail
        go_ret
        exact ⟨by simp, HB.out _⟩
      · rw [Bool.true_and]
        by_cases h12 : V.l.length ≤ 12
        · have i12 : (V.l.length : Int) ≤ 12 := by omega
          rw [decide_eq_true h12, Bool.true_and]
          generalize V.l.all rightP = g at *
          go_enter Tryd.func30, Tryd.ntmps30
          go_wp2_with fail
          refine (HC.out _ (HB.out _)).mono ?_
          rintro e w1 ⟨rfl, b1⟩
          have B1 := Lib.hid ((HB.out _).trans (b1.mono (by simp)))
          clear b1
          go_wp2_with fail
          go_ret
          exact ⟨by simp, B1.out⟩
        · have i12 : ¬ (V.l.length : Int) ≤ 12 := by omega
          rw [decide_eq_false h12, Bool.false_and]
          go_enter Tryd.func30, Tryd.ntmps30
          go_wp2_with fail
          go_ret
          exact ⟨by simp, HB.out _⟩
    · have hnb : (V.n == 0) = false := beq_eq_false_iff_ne.2 hn
      rw [decide_eq_false hn, Bool.false_and]
      clear hn
      go_enter Tryd.func30, Tryd.ntmps30
      go_wp2_with fail
      go_ret
      exact ⟨by simp, HB.out _⟩
  · rw [rightV_else V hk]
    obtain ⟨la, lc, rfl⟩ := hlen
    exact right_plain (rightT V.s) V.k V.n V.s la V.l.length lc w hk (fun _ W hW => rightText_any V.s W hz.1 (hT.below hW))
end Go.Proofs.YtifaaacbbjlffaaDoor
