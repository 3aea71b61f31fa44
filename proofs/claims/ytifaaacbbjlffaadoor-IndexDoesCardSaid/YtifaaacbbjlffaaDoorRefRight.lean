/- The contract of moraineref03.Right: it tells what val.Right tells. -/
import Derived.Test.YtifaaacbbjlffaaDoorRefText
import Derived.Test.YtifaaacbbjlffaaDoorValRightAny
import Derived.Test.YtifaaacbbjlffaaDoorTreePut
namespace Mor
theorem rightT_ref (s : ByteArray) : rightT s = (decide (s.size ≤ 60) && isTextL s.data.toList) := by unfold rightT; rw [text_same]
end Mor
namespace Go.Proofs.YtifaaacbbjlffaaDoor
open Go.RowKit Mor

set_option maxHeartbeats 4000000 in
theorem refRight_plain (k n : Int) (s : ByteArray) (a : Option Addr) (l c : Nat) (w : World) (hk : k ≠ 5) (hs : s.size ≤ 4611686018427387904) :
    Calls Tryd.prog 25 #[.agg #[.int .i64 k, .int .i64 n, .string s, .slice a l c]] w fun e w' => e = .returned (.bool (rightK (rightT s) k n s l)) ∧ Below w.heap.size w w' := by
  have HB := Lib.hid (fun (o : Obj) => (Below.refl w.heap.size w).alloc (Nat.le_refl _) o)
  by_cases k0 : k = 0
  · subst k0
    clear hk hs
    by_cases n1 : n = 0
    · subst n1
      by_cases s1 : s.toList.isEmpty = true
      · by_cases l1 : l = 0
        · subst l1
          · have E := Lib.hid (show rightK (rightT s) 0 0 s 0 = true by simp [rightK, bareB, s1])
            rw [E.out]
            clear E
            go_enter Tryd.func25, Tryd.ntmps25
            go_wp2_with fail
            go_ret
            exact ⟨by simp, HB.out _⟩
        · have E := Lib.hid (show rightK (rightT s) 0 0 s l = false by simp [rightK, bareB, l1])
          have lz : ((l : Int) == 0) = false := beq_eq_false_iff_ne.2 (by omega)
          rw [E.out]
          clear E l1
          go_enter Tryd.func25, Tryd.ntmps25
          go_wp2_with fail
          go_ret
          exact ⟨by simp, HB.out _⟩
      · have E := Lib.hid (show rightK (rightT s) 0 0 s l = false by simp [rightK, bareB, s1])
        have s1' : s.toList.isEmpty = false := by simpa using s1
        rw [E.out]
        clear E s1
        go_enter Tryd.func25, Tryd.ntmps25
        go_wp2_with fail
        go_ret
        exact ⟨by simp, HB.out _⟩
    · have E := Lib.hid (show rightK (rightT s) 0 n s l = false by simp [rightK, n1])
      have nz : (n == 0) = false := beq_eq_false_iff_ne.2 n1
      rw [E.out]
      clear E n1
      go_enter Tryd.func25, Tryd.ntmps25
      go_wp2_with fail
      go_ret
      exact ⟨by simp, HB.out _⟩
  by_cases k1 : k = 1
  · subst k1
    clear hk hs k0
    by_cases h1 : -1000000000000000 ≤ n
    · have h1d : decide (-1000000000000000 ≤ n) = true := decide_eq_true h1
      by_cases h2 : n ≤ 1000000000000000
      · have h2d : decide (n ≤ 1000000000000000) = true := decide_eq_true h2
        by_cases s1 : s.toList.isEmpty = true
        · by_cases l1 : l = 0
          · subst l1
            · have E := Lib.hid (show rightK (rightT s) 1 n s 0 = true by simp [rightK, bareB, numB, s1, h1, h2])
              rw [E.out]
              clear E
              go_enter Tryd.func25, Tryd.ntmps25
              go_wp2_with fail
              go_ret
              exact ⟨by simp, HB.out _⟩
          · have E := Lib.hid (show rightK (rightT s) 1 n s l = false by simp [rightK, bareB, l1])
            have lz : ((l : Int) == 0) = false := beq_eq_false_iff_ne.2 (by omega)
            rw [E.out]
            clear E l1
            go_enter Tryd.func25, Tryd.ntmps25
            go_wp2_with fail
            go_ret
            exact ⟨by simp, HB.out _⟩
        · have E := Lib.hid (show rightK (rightT s) 1 n s l = false by simp [rightK, bareB, s1])
          have s1' : s.toList.isEmpty = false := by simpa using s1
          rw [E.out]
          clear E s1
          go_enter Tryd.func25, Tryd.ntmps25
          go_wp2_with fail
          go_ret
          exact ⟨by simp, HB.out _⟩
      · have E := Lib.hid (show rightK (rightT s) 1 n s l = false by simp [rightK, numB]; omega)
        have h2d : decide (n ≤ 1000000000000000) = false := decide_eq_false h2
        rw [E.out]
        clear E
        go_enter Tryd.func25, Tryd.ntmps25
        go_wp2_with fail
        go_ret
        exact ⟨by simp <;> omega, HB.out _⟩
    · have E := Lib.hid (show rightK (rightT s) 1 n s l = false by simp [rightK, numB]; omega)
      have h1d : decide (-1000000000000000 ≤ n) = false := decide_eq_false h1
      rw [E.out]
      clear E
      go_enter Tryd.func25, Tryd.ntmps25
      go_wp2_with fail
      go_ret
      exact ⟨by simp <;> omega, HB.out _⟩
  by_cases k2 : k = 2
  · subst k2
    clear hk k0 k1
    have CT := Lib.hid (fun W => isText_any s hs W)
    have RT := Lib.hid (rightT_ref s)
    generalize rightT s = rt at *
    generalize isTextL s.data.toList = it at *
    by_cases n1 : n = 0
    · subst n1
      cases it
      · have E := Lib.hid (show rightK rt 2 0 s l = false by simp [rightK, RT.out])
        rw [E.out]
        clear E
        go_enter Tryd.func25, Tryd.ntmps25
        go_wp2_with fail
        refine (CT.out _).mono ?_
        rintro e w1 ⟨rfl, rfl⟩
        go_wp2_with fail
        go_ret
        exact ⟨by simp, HB.out _⟩
      · by_cases z1 : s.size ≤ 60
        · have z1i : decide ((s.size : Int) ≤ 60) = true := decide_eq_true (by omega)
          have z1j : (s.size : Int) ≤ 60 := by omega
          by_cases l1 : l = 0
          · subst l1
            · have E := Lib.hid (show rightK rt 2 0 s 0 = true by simp [rightK, RT.out, z1])
              rw [E.out]
              clear E
              go_enter Tryd.func25, Tryd.ntmps25
              go_wp2_with fail
              refine (CT.out _).mono ?_
              rintro e w1 ⟨rfl, rfl⟩
              go_wp2_with fail
              go_ret
              exact ⟨by simp, HB.out _⟩
          · have E := Lib.hid (show rightK rt 2 0 s l = false by simp [rightK, l1])
            have lz : ((l : Int) == 0) = false := beq_eq_false_iff_ne.2 (by omega)
            rw [E.out]
            clear E l1
            go_enter Tryd.func25, Tryd.ntmps25
            go_wp2_with fail
            refine (CT.out _).mono ?_
            rintro e w1 ⟨rfl, rfl⟩
            go_wp2_with fail
            go_ret
            exact ⟨by simp, HB.out _⟩
        · have E := Lib.hid (show rightK rt 2 0 s l = false by simp [rightK, RT.out, z1])
          have z1i : decide ((s.size : Int) ≤ 60) = false := decide_eq_false (by omega)
          have z1j : ¬ (s.size : Int) ≤ 60 := by omega
          rw [E.out]
          clear E
          go_enter Tryd.func25, Tryd.ntmps25
          go_wp2_with fail
          refine (CT.out _).mono ?_
          rintro e w1 ⟨rfl, rfl⟩
          go_wp2_with fail
          go_ret
          exact ⟨by simp <;> omega, HB.out _⟩
    · have E := Lib.hid (show rightK rt 2 n s l = false by simp [rightK, n1])
      have nz : (n == 0) = false := beq_eq_false_iff_ne.2 n1
      rw [E.out]
      clear E n1
      go_enter Tryd.func25, Tryd.ntmps25
      go_wp2_with fail
      refine (CT.out _).mono ?_
      rintro e w1 ⟨rfl, rfl⟩
      go_wp2_with fail
      go_ret
      exact ⟨by simp, HB.out _⟩
  by_cases k3 : k = 3
  · subst k3
    clear hk hs k0 k1 k2
    by_cases h1 : 1 ≤ n
    · have d1 : decide (1 ≤ n) = true := decide_eq_true (by omega)
      by_cases h2 : n ≤ 100000
      · have d2 : decide (n ≤ 100000) = true := decide_eq_true (by omega)
        by_cases s1 : s.toList.isEmpty = true
        · by_cases l1 : l = 0
          · subst l1
            · have E := Lib.hid (show rightK (rightT s) 3 n s 0 = true by simp [rightK, bareB, idB, s1]; omega)
              rw [E.out]
              clear E
              go_enter Tryd.func25, Tryd.ntmps25
              go_wp2_with fail
              go_ret
              exact ⟨by simp, HB.out _⟩
          · have E := Lib.hid (show rightK (rightT s) 3 n s l = false by simp [rightK, bareB, idB, l1])
            have lz : ((l : Int) == 0) = false := beq_eq_false_iff_ne.2 (by omega)
            rw [E.out]
            clear E l1
            go_enter Tryd.func25, Tryd.ntmps25
            go_wp2_with fail
            go_ret
            exact ⟨by simp, HB.out _⟩
        · have E := Lib.hid (show rightK (rightT s) 3 n s l = false by simp [rightK, bareB, idB, s1])
          have s1' : s.toList.isEmpty = false := by simpa using s1
          rw [E.out]
          clear E s1
          go_enter Tryd.func25, Tryd.ntmps25
          go_wp2_with fail
          go_ret
          exact ⟨by simp, HB.out _⟩
      · have E := Lib.hid (show rightK (rightT s) 3 n s l = false by simp [rightK, idB]; omega)
        have d2 : decide (n ≤ 100000) = false := decide_eq_false (by omega)
        have d3 : decide (-20 ≤ n) = true := decide_eq_true (by omega)
        have d4 : decide (n ≤ -1) = false := decide_eq_false (by omega)
        rw [E.out]
        clear E
        go_enter Tryd.func25, Tryd.ntmps25
        go_wp2_with fail
        go_ret
        exact ⟨by simp <;> omega, HB.out _⟩
    · have d1 : decide (1 ≤ n) = false := decide_eq_false (by omega)
      by_cases h2 : -20 ≤ n
      · have d3 : decide (-20 ≤ n) = true := decide_eq_true (by omega)
        by_cases h3 : n ≤ -1
        · have d4 : decide (n ≤ -1) = true := decide_eq_true (by omega)
          by_cases s1 : s.toList.isEmpty = true
          · by_cases l1 : l = 0
            · subst l1
              · have E := Lib.hid (show rightK (rightT s) 3 n s 0 = true by simp [rightK, bareB, idB, s1]; omega)
                rw [E.out]
                clear E
                go_enter Tryd.func25, Tryd.ntmps25
                go_wp2_with fail
                go_ret
                exact ⟨by simp, HB.out _⟩
            · have E := Lib.hid (show rightK (rightT s) 3 n s l = false by simp [rightK, bareB, idB, l1])
              have lz : ((l : Int) == 0) = false := beq_eq_false_iff_ne.2 (by omega)
              rw [E.out]
              clear E l1
              go_enter Tryd.func25, Tryd.ntmps25
              go_wp2_with fail
              go_ret
              exact ⟨by simp, HB.out _⟩
          · have E := Lib.hid (show rightK (rightT s) 3 n s l = false by simp [rightK, bareB, idB, s1])
            have s1' : s.toList.isEmpty = false := by simpa using s1
            rw [E.out]
            clear E s1
            go_enter Tryd.func25, Tryd.ntmps25
            go_wp2_with fail
            go_ret
            exact ⟨by simp, HB.out _⟩
        · have E := Lib.hid (show rightK (rightT s) 3 n s l = false by simp [rightK, idB]; omega)
          have d4 : decide (n ≤ -1) = false := decide_eq_false (by omega)
          rw [E.out]
          clear E
          go_enter Tryd.func25, Tryd.ntmps25
          go_wp2_with fail
          go_ret
          exact ⟨by simp <;> omega, HB.out _⟩
      · have E := Lib.hid (show rightK (rightT s) 3 n s l = false by simp [rightK, idB]; omega)
        have d3 : decide (-20 ≤ n) = false := decide_eq_false (by omega)
        rw [E.out]
        clear E
        go_enter Tryd.func25, Tryd.ntmps25
        go_wp2_with fail
        go_ret
        exact ⟨by simp <;> omega, HB.out _⟩
  by_cases k4 : k = 4
  · subst k4
    clear hk hs k0 k1 k2 k3
    by_cases h1 : 1 ≤ n
    · have d1 : decide (1 ≤ n) = true := decide_eq_true (by omega)
      by_cases h2 : n ≤ 100000
      · have d2 : decide (n ≤ 100000) = true := decide_eq_true (by omega)
        by_cases s1 : s.toList.isEmpty = true
        · by_cases l1 : l = 0
          · subst l1
            · have E := Lib.hid (show rightK (rightT s) 4 n s 0 = true by simp [rightK, bareB, idB, s1]; omega)
              rw [E.out]
              clear E
              go_enter Tryd.func25, Tryd.ntmps25
              go_wp2_with fail
              go_ret
              exact ⟨by simp, HB.out _⟩
          · have E := Lib.hid (show rightK (rightT s) 4 n s l = false by simp [rightK, bareB, idB, l1])
            have lz : ((l : Int) == 0) = false := beq_eq_false_iff_ne.2 (by omega)
            rw [E.out]
            clear E l1
            go_enter Tryd.func25, Tryd.ntmps25
            go_wp2_with fail
            go_ret
            exact ⟨by simp, HB.out _⟩
        · have E := Lib.hid (show rightK (rightT s) 4 n s l = false by simp [rightK, bareB, idB, s1])
          have s1' : s.toList.isEmpty = false := by simpa using s1
          rw [E.out]
          clear E s1
          go_enter Tryd.func25, Tryd.ntmps25
          go_wp2_with fail
          go_ret
          exact ⟨by simp, HB.out _⟩
      · have E := Lib.hid (show rightK (rightT s) 4 n s l = false by simp [rightK, idB]; omega)
        have d2 : decide (n ≤ 100000) = false := decide_eq_false (by omega)
        have d3 : decide (-20 ≤ n) = true := decide_eq_true (by omega)
        have d4 : decide (n ≤ -1) = false := decide_eq_false (by omega)
        rw [E.out]
        clear E
        go_enter Tryd.func25, Tryd.ntmps25
        go_wp2_with fail
        go_ret
        exact ⟨by simp <;> omega, HB.out _⟩
    · have d1 : decide (1 ≤ n) = false := decide_eq_false (by omega)
      by_cases h2 : -20 ≤ n
      · have d3 : decide (-20 ≤ n) = true := decide_eq_true (by omega)
        by_cases h3 : n ≤ -1
        · have d4 : decide (n ≤ -1) = true := decide_eq_true (by omega)
          by_cases s1 : s.toList.isEmpty = true
          · by_cases l1 : l = 0
            · subst l1
              · have E := Lib.hid (show rightK (rightT s) 4 n s 0 = true by simp [rightK, bareB, idB, s1]; omega)
                rw [E.out]
                clear E
                go_enter Tryd.func25, Tryd.ntmps25
                go_wp2_with fail
                go_ret
                exact ⟨by simp, HB.out _⟩
            · have E := Lib.hid (show rightK (rightT s) 4 n s l = false by simp [rightK, bareB, idB, l1])
              have lz : ((l : Int) == 0) = false := beq_eq_false_iff_ne.2 (by omega)
              rw [E.out]
              clear E l1
              go_enter Tryd.func25, Tryd.ntmps25
              go_wp2_with fail
              go_ret
              exact ⟨by simp, HB.out _⟩
          · have E := Lib.hid (show rightK (rightT s) 4 n s l = false by simp [rightK, bareB, idB, s1])
            have s1' : s.toList.isEmpty = false := by simpa using s1
            rw [E.out]
            clear E s1
            go_enter Tryd.func25, Tryd.ntmps25
            go_wp2_with fail
            go_ret
            exact ⟨by simp, HB.out _⟩
        · have E := Lib.hid (show rightK (rightT s) 4 n s l = false by simp [rightK, idB]; omega)
          have d4 : decide (n ≤ -1) = false := decide_eq_false (by omega)
          rw [E.out]
          clear E
          go_enter Tryd.func25, Tryd.ntmps25
          go_wp2_with fail
          go_ret
          exact ⟨by simp <;> omega, HB.out _⟩
      · have E := Lib.hid (show rightK (rightT s) 4 n s l = false by simp [rightK, idB]; omega)
        have d3 : decide (-20 ≤ n) = false := decide_eq_false (by omega)
        rw [E.out]
        clear E
        go_enter Tryd.func25, Tryd.ntmps25
        go_wp2_with fail
        go_ret
        exact ⟨by simp <;> omega, HB.out _⟩
  · have e0 : (k == 0) = false := beq_eq_false_iff_ne.2 k0
    have e1 : (k == 1) = false := beq_eq_false_iff_ne.2 k1
    have e2 : (k == 2) = false := beq_eq_false_iff_ne.2 k2
    have e3 : (k == 3) = false := beq_eq_false_iff_ne.2 k3
    have e4 : (k == 4) = false := beq_eq_false_iff_ne.2 k4
    have e5 : (k == 5) = false := beq_eq_false_iff_ne.2 hk
    have HD := Lib.hid (show rightK (rightT s) k n s l = false by simp [rightK, k0, k1, k2, k3, k4])
    rw [HD.out]
    clear k0 k1 k2 k3 k4 hk
    go_enter Tryd.func25, Tryd.ntmps25
    go_wp2_with fail
    go_ret
    exact ⟨by simp, HB.out _⟩

set_option maxHeartbeats 2000000 in
theorem refRight_any (V : Vl) (v : Value) (w : World) (hz : V.s.size ≤ 4611686018427387904 ∧ ∀ p ∈ V.l, p.s.size ≤ 4611686018427387904) (hv : IsV w v V) : Calls Tryd.prog 25 #[v] w fun e w' => e = .returned (.bool (rightV V)) ∧ Below w.heap.size w w' := by
  obtain ⟨sl, rfl, hl⟩ := hv
  have hlen : ∃ a c, sl = .slice a V.l.length c := by
    rcases hl with ⟨h, rfl⟩ | ⟨_, h2, b, o, c, rfl, h4⟩
    · exact ⟨none, 0, by rw [h]; rfl⟩
    · exact ⟨_, _, rfl⟩
  obtain ⟨la, lc, rfl⟩ := hlen
  by_cases hk : V.k = 5
  · rw [rightV_five V hk]
    have HB := Lib.hid (fun (o : Obj) => (Below.refl w.heap.size w).alloc (Nat.le_refl _) o)
    rw [hk]
    have HL := Lib.hid hl
    have HZ := Lib.hid hz.2
    clear hl hz hk
    by_cases hn : V.n = 0
    · have hnb : (V.n != 0) = false := by rw [hn]; rfl
      rw [decide_eq_true hn, Bool.true_and]
      clear hn
      cases he : V.s.toList.isEmpty
      · rw [Bool.false_and]
        go_enter Tryd.func25, Tryd.ntmps25
        go_wp2_with fail
        go_ret
        exact ⟨by simp, HB.out _⟩
      · rw [Bool.true_and]
        by_cases h12 : V.l.length ≤ 12
        · have i12 : decide ((12 : Int) < (V.l.length : Int)) = false := decide_eq_false (by omega)
          have j12 : ¬ (12 : Int) < (V.l.length : Int) := by omega
          rw [decide_eq_true h12, Bool.true_and]
          go_enter Tryd.func25, Tryd.ntmps25
          go_wp2_with fail
          go_loopw [4] (fun i wr => ∃ k : Nat, k ≤ V.l.length ∧ i = .int .i64 k ∧ Hid (V.l.all rightP = (V.l.drop k).all rightP) ∧ Below (w.heap.size + 1) (w.alloc (.cells #[.int .i64 5, .int .i64 V.n, .string V.s, .slice la V.l.length lc] 41)) wr) (fun i _ => V.l.length - (intOf i).toNat)
          case atStart => exact ⟨0, by omega, rfl, rfl, Below.refl _ _⟩
          case round =>
            obtain ⟨k, hk, rfl, HE, hB⟩ := hrel
            have hBw : Below w.heap.size w wr := ((Below.refl _ w).alloc (Nat.le_refl _) _).trans (hB.mono (by omega))
            have bx : wr.heap[w.heap.size]? = some (.cells #[.int .i64 5, .int .i64 V.n, .string V.s, .slice la V.l.length lc] 41 (0, 0)) := (hB.block _ (by omega)).trans (new_block w _ _ rfl)
            have bl := lt_of_block bx
            have x3 : wr.cell? ⟨w.heap.size, 3, none⟩ = some (.slice la V.l.length lc) := by simp [World.cell?, bx]
            have HBB := Lib.hid hB
            have HBw := Lib.hid hBw
            clear hB hBw bx
            by_cases hlt : k < V.l.length
            · obtain ⟨p, hp⟩ : ∃ p, V.l[k]? = some p := ⟨_, List.getElem?_eq_getElem hlt⟩
              have hat := HL.out
              rcases hat with ⟨h, _⟩ | ⟨_, _, b, o, c, hs, h4⟩
              · rw [h] at hlt; simp at hlt
              · obtain ⟨rfl, rfl⟩ : la = some ⟨b, o, none⟩ ∧ lc = c := by cases hs; exact ⟨rfl, rfl⟩
                have f0 := (h4 k p hp).below HBw.out
                have f1 := f0.k
                have f2 := f0.n
                have f3 := f0.s
                have f4 := f0.l
                have i1 : (0 : Int) ≤ (k : Int) := by omega
                have i2 : (k : Int) < (V.l.length : Int) := by omega
                have HD := Lib.hid (show (V.l.drop k).all rightP = (rightP p && (V.l.drop (k + 1)).all rightP) by
                  obtain ⟨h1, h2⟩ := List.getElem?_eq_some_iff.1 hp
                  rw [List.drop_eq_getElem_cons h1, List.all_cons, h2])
                have HZp := Lib.hid (HZ.out p (List.mem_of_getElem? hp))
                clear hp hs h4 f0
                by_cases hk5 : p.k = 5
                · have e5 : (p.k == 5) = true := by rw [hk5]; rfl
                  have E := Lib.hid (show V.l.all rightP = false by rw [HE.out, HD.out]; simp [rightP, hk5])
                  clear hk5
                  go_wp2_with fail
                  go_ret
                  rw [E.out]
                  exact ⟨by simp, HBw.out⟩
                · have e5 : (p.k == 5) = false := beq_eq_false_iff_ne.2 hk5
                  have HR := Lib.hid (refRight_plain p.k p.n p.s none 0 0 wr hk5 HZp.out)
                  have EP := Lib.hid (show rightP p = rightK (rightT p.s) p.k p.n p.s 0 by simp [rightP, hk5])
                  rw [← EP.out] at HR
                  clear hk5 EP
                  cases hr : rightP p
                  · rw [hr] at HR
                    have E := Lib.hid (show V.l.all rightP = false by rw [HE.out, HD.out, hr]; rfl)
                    clear hr
                    go_wp2_with fail
                    refine HR.out.mono ?_
                    rintro e w1 ⟨rfl, b1⟩
                    have B1 := Lib.hid (HBw.out.trans (b1.mono (by omega)))
                    clear b1
                    go_wp2_with fail
                    go_ret
                    rw [E.out]
                    exact ⟨by simp, B1.out⟩
                  · rw [hr] at HR
                    have E := Lib.hid (show V.l.all rightP = (V.l.drop (k + 1)).all rightP by rw [HE.out, HD.out, hr]; rfl)
                    clear hr
                    go_wp2_with fail
                    refine HR.out.mono ?_
                    rintro e w1 ⟨rfl, b1⟩
                    have B1 := Lib.hid (HBB.out.trans (b1.mono (by omega)))
                    clear b1
                    go_wp2_with fail
                    go_roundw
                    case rel => exact ⟨k + 1, by omega, by go_num, E.out, B1.out⟩
                    case measure => simp [intOf]; omega
            · have i2 : ¬ (k : Int) < (V.l.length : Int) := by omega
              have E := Lib.hid (show V.l.all rightP = true by rw [HE.out, List.drop_eq_nil_of_le (by omega)]; rfl)
              go_wp2_with fail
              go_ret
              rw [E.out]
              exact ⟨by simp, HBw.out⟩
        · have i12 : decide ((12 : Int) < (V.l.length : Int)) = true := decide_eq_true (by omega)
          have j12 : (12 : Int) < (V.l.length : Int) := by omega
          rw [decide_eq_false h12, Bool.false_and]
          go_enter Tryd.func25, Tryd.ntmps25
          go_wp2_with fail
          go_ret
          exact ⟨by simp, HB.out _⟩
    · have hnb : (V.n != 0) = true := by rw [bne_iff_ne]; exact hn
      rw [decide_eq_false hn, Bool.false_and]
      clear hn
      go_enter Tryd.func25, Tryd.ntmps25
      go_wp2_with fail
      go_ret
      exact ⟨by simp, HB.out _⟩
  · rw [rightV_else V hk]
    exact refRight_plain V.k V.n V.s la V.l.length lc w hk hz.1
end Go.Proofs.YtifaaacbbjlffaaDoor
