/- morainelaw01.WireJoins returns true. -/
import Derived.Test.YtlmimmdaniggiaaDoorWireShown
import Derived.Test.YtlmimmdaniggiaaDoorWireBack
namespace Mor
def joinB (zs : List Int) : List UInt8 := (zs.map numBytes).flatten
theorem joinB_nil : joinB [] = [] := rfl
theorem joinB_append (a b : List Int) : joinB (a ++ b) = joinB a ++ joinB b := by simp [joinB]
theorem joinB_one (z : Int) : joinB [z] = numBytes z := by simp [joinB]
theorem length_joinB (zs : List Int) : (joinB zs).length ≤ 10 * zs.length := by
  induction zs with
  | nil => simp [joinB]
  | cons z zs ih =>
    have h1 : (numBytes z).length ≤ 10 := by rw [numBytes, length_marks]; exact length_numG z
    have : joinB (z :: zs) = numBytes z ++ joinB zs := by simp [joinB]
    rw [this, List.length_append, List.length_cons]
    omega
theorem take_getD (zs : List Int) (k : Nat) (h : k < zs.length) : zs.take (k + 1) = zs.take k ++ [zs.getD k 0] := by
  rw [List.take_succ_eq_append_getElem h, List.getD_eq_getElem?_getD, List.getElem?_eq_getElem h]
  rfl
/-- what a join holds behind its first k numbers -/
theorem joinB_drop (zs : List Int) (N k : Nat) (hk : k < N) (hN : N ≤ zs.length) : (joinB (zs.take N)).drop (joinB (zs.take k)).length = numBytes (zs.getD k 0) ++ joinB ((zs.take N).drop (k + 1)) := by
  have e : zs.take N = zs.take k ++ ([zs.getD k 0] ++ (zs.take N).drop (k + 1)) := by
    rw [← List.append_assoc, ← take_getD zs k (by omega)]
    conv => lhs; rw [← List.take_append_drop (k + 1) (zs.take N)]
    rw [List.take_take, Nat.min_eq_left (by omega)]
  conv => lhs; rw [e, joinB_append]
  rw [List.drop_left, joinB_append, joinB_one]
end Mor
namespace Go.Proofs.YtlmimmdaniggiaaDoor
open Go.RowKit Go.Shelf Mor

theorem valOf_back (z : Int) (h1 : -9223372036854775808 ≤ z) (h2 : z < 9223372036854775808) : valOf (mag z) (sgn z) = z := by
  have hm := mag_lt h1 h2
  unfold valOf
  by_cases h : z < 0
  · have e1 : sgn z = 1 := by simp [sgn, h]
    have e2 : mag z = (-1 - z).toNat := by simp [mag, h]
    rw [if_pos e1, e2]
    unfold wrap64
    omega
  · have e1 : sgn z = 0 := by simp [sgn, h]
    have e2 : mag z = z.toNat := by simp [mag, h]
    rw [if_neg (by omega), e2]
    unfold wrap64
    omega

/-- reading at the place of the k-th number -/
theorem numRes_join (zs : List Int) (N k : Nat) (hk : k < N) (hN : N ≤ zs.length) (hz : ∀ z ∈ zs, -9223372036854775808 ≤ z ∧ z < 9223372036854775808) :
    numRes ⟨(joinB (zs.take N)).toArray⟩ ((joinB (zs.take k)).length : Int) = .num (mag (zs.getD k 0)) (sgn (zs.getD k 0)) (numBytes (zs.getD k 0)).length := by
  have hmem : zs.getD k 0 ∈ zs := by rw [List.getD_eq_getElem?_getD, List.getElem?_eq_getElem (by omega)]; exact List.getElem_mem _
  have hd := joinB_drop zs N k hk hN
  have hl : 1 ≤ (numBytes (zs.getD k 0)).length := by rw [numBytes, length_marks, numG, List.length_cons]; omega
  have hsz : (⟨(joinB (zs.take N)).toArray⟩ : ByteArray).size = (joinB (zs.take N)).length := List.size_toArray
  have hlen := congrArg List.length hd
  rw [List.length_drop, List.length_append] at hlen
  rw [numRes, if_pos (by rw [hsz]; omega), Int.toNat_natCast]
  show scan ((joinB (zs.take N)).drop _) 0 0 0 = _
  rw [hd]
  exact scan_back _ (hz _ hmem).1 (hz _ hmem).2 _

theorem numRes_end (l : List UInt8) : numRes ⟨l.toArray⟩ (l.length : Int) = .ends := by
  have hsz : (⟨l.toArray⟩ : ByteArray).size = l.length := List.size_toArray
  rw [numRes, if_neg (by rw [hsz]; omega)]

theorem mk_append (a b : List UInt8) : (⟨a.toArray⟩ : ByteArray) ++ ⟨b.toArray⟩ = ⟨(a ++ b).toArray⟩ := by
  have : ((⟨a.toArray⟩ : ByteArray) ++ ⟨b.toArray⟩).data = (⟨(a ++ b).toArray⟩ : ByteArray).data := by simp
  cases h : (⟨a.toArray⟩ : ByteArray) ++ ⟨b.toArray⟩ with
  | mk d => rw [h] at this; simpa using this

set_option maxRecDepth 100000 in
set_option maxHeartbeats 1000000 in
theorem wireJoins_some (zs : List Int) (n b off cap : Nat) (hn : n ≤ zs.length) (hn63 : n ≤ 9223372036854775807) (hz : ∀ z ∈ zs, -9223372036854775808 ≤ z ∧ z < 9223372036854775808) (aE aF : Addr) (w : World) (he : Errs aE aF w)
    (hcell : ∀ i, i < n → w.cell? ⟨b, off + i, none⟩ = some (.int .i64 (zs.getD i 0))) :
    Calls Tryd.prog 3 #[.slice (some ⟨b, off, none⟩) n cap] w fun e w' => e = .returned (.bool true) ∧ Below w.heap.size w w' := by
  have HE := Lib.hid he
  have HC := Lib.hid hcell
  have HZ := Lib.hid hz
  clear he hcell hz
  go_enter Tryd.func3, Tryd.ntmps3
  go_wp2_with fail
  refine (shown_true aE aF _ HE.out).mono ?_
  rintro e w1 ⟨rfl, hB1⟩
  go_wp2
  go_loopw [4, 5] (fun s i wr => ∃ k : Nat, k ≤ n ∧ k ≤ 30 ∧ i = .int .i64 k ∧ s = .string ⟨(joinB (zs.take k)).toArray⟩ ∧ Below w.heap.size w wr) (fun _ i _ => 30 - (intOf i).toNat)
  case atStart => exact ⟨0, by omega, by omega, rfl, rfl, hB1⟩
  case round =>
    obtain ⟨k, hkn, hk30, rfl, rfl, hB⟩ := hrel
    by_cases hlt : k < n ∧ k < 30
    · obtain ⟨hlt1, hlt2⟩ := hlt
      have hbw : b < w.heap.size := by
        obtain ⟨o, ho, _⟩ := cells_of_cell (HC.out k hlt1)
        exact lt_of_block ho
      have hc := (hB.cell (p := ⟨b, off + k, none⟩) hbw).trans (HC.out k hlt1)
      have hmem : zs.getD k 0 ∈ zs := by rw [List.getD_eq_getElem?_getD, List.getElem?_eq_getElem (by omega)]; exact List.getElem_mem _
      have hzk := HZ.out _ hmem
      have HJ := Lib.hid (show joinB (zs.take (k + 1)) = joinB (zs.take k) ++ numBytes (zs.getD k 0) by rw [take_getD zs k (by omega), joinB_append, joinB_one])
      have hl1 := length_joinB (zs.take k)
      have hl2 : (zs.take k).length ≤ k := List.length_take_le _ _
      have hl3 : (numBytes (zs.getD k 0)).length ≤ 10 := by rw [numBytes, length_marks]; exact length_numG _
      have hl4 : ¬ 9223372036854775807 < (joinB (zs.take k)).length + (numBytes (zs.getD k 0)).length := by omega
      have HZK := Lib.hid hzk
      clear hzk hmem
      generalize zs.getD k 0 = z at *
      have hk30' : (k : Int) < 30 := by omega
      have hkn' : (k : Int) < (n : Int) := by omega
      generalize joinB (zs.take k) = jk at *
      go_wp2_with (go_at_call 8; refine (num_any _ HZK.out.1 HZK.out.2 _).mono ?_; rintro e w' ⟨rfl, hC⟩)
      refine ⟨⟨k + 1, by omega, by omega, by go_num, by rw [HJ.out, mk_append], hB.trans (hC.mono hB.size)⟩, by simp [intOf]; omega⟩
    · have hstop : ¬ ((k : Int) < (n : Int) ∧ (k : Int) < 30) := by omega
      have hJl : (joinB (zs.take k)).length ≤ 300 := by
        have h1 := length_joinB (zs.take k)
        have h2 : (zs.take k).length ≤ k := List.length_take_le _ _
        omega
      have hJs : (⟨(joinB (zs.take k)).toArray⟩ : ByteArray).size ≤ 281474976710656 := by
        show (joinB (zs.take k)).toArray.size ≤ _
        rw [List.size_toArray]; omega
      have HR := Lib.hid (fun j (hj : j < k) => numRes_join zs k j hj (by omega) HZ.out)
      have HEND := Lib.hid (numRes_end (joinB (zs.take k)))
      have HB := Lib.hid hB
      have he1 := Lib.hid (HE.out.below hB (Nat.le_refl _))
      have HJS := Lib.hid hJs
      have HL := Lib.hid (show (⟨(joinB (zs.take k)).toArray⟩ : ByteArray).size = (joinB (zs.take k)).length from List.size_toArray)
      obtain ⟨J, hJ⟩ : ∃ J, joinB (zs.take k) = J := ⟨_, rfl⟩
      have HJJ := Lib.hid hJ
      rw [hJ] at HR HEND HJS HL hJl ⊢
      clear hJs hJ hlt
      by_cases hb1 : k < n
      · have hb2 : ¬ (k : Int) < 30 := by omega
        go_wp2
        obtain ⟨wo, rfl⟩ : ∃ wo : World, wo = wr := ⟨_, rfl⟩
        go_loopw [6, 7] (fun p i wr => ∃ j : Nat, j ≤ k ∧ i = .int .i64 j ∧ p = .int .i64 ((joinB (zs.take j)).length : Int) ∧ Below w.heap.size w wr) (fun _ i _ => 30 - (intOf i).toNat)
        case atStart => exact ⟨0, by omega, rfl, rfl, HB.out⟩
        case round =>
          obtain ⟨j, hjk, rfl, rfl, hB⟩ := hrel
          by_cases hj : j < k
          · have hjn' : (j : Int) < (n : Int) := by omega
            have hj30' : (j : Int) < 30 := by omega
            have hbw : b < w.heap.size := by
              obtain ⟨o, ho, _⟩ := cells_of_cell (HC.out j (by omega))
              exact lt_of_block ho
            have hmem : zs.getD j 0 ∈ zs := by rw [List.getD_eq_getElem?_getD, List.getElem?_eq_getElem (by omega)]; exact List.getElem_mem _
            have hzk := HZ.out _ hmem
            have hc0 := HC.out j (by omega)
            have hvb := valOf_back _ hzk.1 hzk.2
            have HRJ := Lib.hid (HR.out j hj)
            have HJ := Lib.hid (show joinB (zs.take (j + 1)) = joinB (zs.take j) ++ numBytes (zs.getD j 0) by rw [take_getD zs j (by omega), joinB_append, joinB_one])
            have HLJ := Lib.hid (show (joinB (zs.take (j + 1))).length = (joinB (zs.take j)).length + (numBytes (zs.getD j 0)).length by rw [HJ.out, List.length_append])
            have he2 := Lib.hid (HE.out.below hB (Nat.le_refl _))
            have HVB := Lib.hid hvb
            clear hmem hzk hvb HJ
            generalize zs.getD j 0 = z at *
            generalize joinB (zs.take j) = jj at *
            go_wp2_with fail
            refine (readNum_ok _ HJS.out _ aE aF _ he2.out _ _ _ HRJ.out).mono ?_
            rw [HVB.out]
            rintro e w2 ⟨rfl, hC⟩
            have hB2 := hB.trans (hC.mono hB.size)
            have hc := (hB2.cell (p := ⟨b, off + j, none⟩) hbw).trans hc0
            clear hC hc0
            go_wp2
            refine ⟨⟨j + 1, by omega, by go_num, by rw [HLJ.out]; go_num, hB2⟩, by simp [intOf]; omega⟩
          · obtain rfl : j = k := by omega
            have HJ2 := HJJ.out
            rw [HJ2]
            have he2 := Lib.hid (HE.out.below hB (Nat.le_refl _))
            have HLL := Lib.hid HJ2
            clear HJ2
            go_wp2_with fail
            refine (readNum_bad _ HJS.out _ aE aF _ he2.out (by rw [HEND.out]; intro _ _ _ e; cases e)).mono ?_
            rintro e w2 ⟨rfl, hC⟩
            have hB2 := hB.trans (hC.mono hB.size)
            clear hC
            go_wp2
            go_ret
            exact ⟨rfl, hB2⟩
      · have hb2 : ¬ (k : Int) < (n : Int) := by omega
        go_wp2
        obtain ⟨wo, rfl⟩ : ∃ wo : World, wo = wr := ⟨_, rfl⟩
        go_loopw [6, 7] (fun p i wr => ∃ j : Nat, j ≤ k ∧ i = .int .i64 j ∧ p = .int .i64 ((joinB (zs.take j)).length : Int) ∧ Below w.heap.size w wr) (fun _ i _ => 30 - (intOf i).toNat)
        case atStart => exact ⟨0, by omega, rfl, rfl, HB.out⟩
        case round =>
          obtain ⟨j, hjk, rfl, rfl, hB⟩ := hrel
          by_cases hj : j < k
          · have hjn' : (j : Int) < (n : Int) := by omega
            have hj30' : (j : Int) < 30 := by omega
            have hbw : b < w.heap.size := by
              obtain ⟨o, ho, _⟩ := cells_of_cell (HC.out j (by omega))
              exact lt_of_block ho
            have hmem : zs.getD j 0 ∈ zs := by rw [List.getD_eq_getElem?_getD, List.getElem?_eq_getElem (by omega)]; exact List.getElem_mem _
            have hzk := HZ.out _ hmem
            have hc0 := HC.out j (by omega)
            have hvb := valOf_back _ hzk.1 hzk.2
            have HRJ := Lib.hid (HR.out j hj)
            have HJ := Lib.hid (show joinB (zs.take (j + 1)) = joinB (zs.take j) ++ numBytes (zs.getD j 0) by rw [take_getD zs j (by omega), joinB_append, joinB_one])
            have HLJ := Lib.hid (show (joinB (zs.take (j + 1))).length = (joinB (zs.take j)).length + (numBytes (zs.getD j 0)).length by rw [HJ.out, List.length_append])
            have he2 := Lib.hid (HE.out.below hB (Nat.le_refl _))
            have HVB := Lib.hid hvb
            clear hmem hzk hvb HJ
            generalize zs.getD j 0 = z at *
            generalize joinB (zs.take j) = jj at *
            go_wp2_with fail
            refine (readNum_ok _ HJS.out _ aE aF _ he2.out _ _ _ HRJ.out).mono ?_
            rw [HVB.out]
            rintro e w2 ⟨rfl, hC⟩
            have hB2 := hB.trans (hC.mono hB.size)
            have hc := (hB2.cell (p := ⟨b, off + j, none⟩) hbw).trans hc0
            clear hC hc0
            go_wp2
            refine ⟨⟨j + 1, by omega, by go_num, by rw [HLJ.out]; go_num, hB2⟩, by simp [intOf]; omega⟩
          · obtain rfl : j = k := by omega
            have HJ2 := HJJ.out
            rw [HJ2]
            have he2 := Lib.hid (HE.out.below hB (Nat.le_refl _))
            have HLL := Lib.hid HJ2
            clear HJ2
            go_wp2_with fail
            refine (readNum_bad _ HJS.out _ aE aF _ he2.out (by rw [HEND.out]; intro _ _ _ e; cases e)).mono ?_
            rintro e w2 ⟨rfl, hC⟩
            have hB2 := hB.trans (hC.mono hB.size)
            clear hC
            go_wp2
            go_ret
            exact ⟨rfl, hB2⟩

set_option maxRecDepth 100000 in
set_option maxHeartbeats 1000000 in
theorem wireJoins_empty (a : Option Addr) (cap : Nat) (aE aF : Addr) (w : World) (he : Errs aE aF w) :
    Calls Tryd.prog 3 #[.slice a 0 cap] w fun e w' => e = .returned (.bool true) ∧ Below w.heap.size w w' := by
  have HE := Lib.hid he
  clear he
  go_enter Tryd.func3, Tryd.ntmps3
  go_wp2_with fail
  refine (shown_true aE aF _ HE.out).mono ?_
  rintro e w1 ⟨rfl, hB1⟩
  have he1 := Lib.hid (HE.out.below hB1 (Nat.le_refl _))
  go_wp2
  refine wp_loop_rounds 1 ?_
  rw [rounds_succ]
  go_wp2
  refine wp_loop_rounds 1 ?_
  rw [rounds_succ]
  go_wp2_with fail
  refine (readNum_bad ⟨#[]⟩ (by decide) 0 aE aF _ he1.out (by rw [show numRes ⟨#[]⟩ 0 = .ends from by decide]; intro _ _ _ e; cases e)).mono ?_
  rintro e w2 ⟨rfl, hC⟩
  have hB2 := hB1.trans (hC.mono hB1.size)
  clear hC
  go_wp2
  go_ret
  exact ⟨rfl, hB2⟩

theorem wireJoins_walk (zs : List Int) (a : Addr) (n cap : Nat) (hn : n ≤ zs.length) (hn63 : n ≤ 9223372036854775807) (hz : ∀ z ∈ zs, -9223372036854775808 ≤ z ∧ z < 9223372036854775808) (aE aF : Addr) (w : World) (he : Errs aE aF w)
    (hcell : ∀ i, i < n → w.cell? (a.add i) = some (.int .i64 (zs.getD i 0))) :
    Calls Tryd.prog 3 #[.slice (some a) n cap] w fun e w' => e = .returned (.bool true) ∧ Below w.heap.size w w' := by
  by_cases h0 : n = 0
  · subst h0
    exact wireJoins_empty _ _ aE aF w he
  · obtain ⟨b, off, spot⟩ := a
    have hspot : spot = none := by simpa [Addr.add] using World.cell?_spot (hcell 0 (by omega))
    subst hspot
    exact wireJoins_some zs n b off cap hn hn63 hz aE aF w he (fun i hi => by rw [← addr_add]; exact hcell i hi)

end Go.Proofs.YtlmimmdaniggiaaDoor
