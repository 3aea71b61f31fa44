/- morainelaw01.WireApart returns true. -/
import Derived.Test.YtlmimmdaniggiaaDoorWireShown
import Derived.Test.YtlmimmdaniggiaaDoorWireCrc
import Derived.BigRegion
import Derived.Lib.Strings
namespace Go.Proofs.YtlmimmdaniggiaaDoor
open Go.RowKit Go.Shelf Mor

theorem conv_one (u : World) (c : Nat) (hc : c < 256) : (convert 29 9 (.slice (some ⟨u.heap.size, 0, none⟩) 1 1)).run Tryd.prog (u.alloc (.cells #[.int .u8 (c : Int)] 5)).drew = .ok (.string ⟨#[UInt8.ofNat c]⟩) (u.alloc (.cells #[.int .u8 (c : Int)] 5)).drew := by
  have h : (u.alloc (.cells #[.int .u8 (c : Int)] 5)).drew.ownsRow u.heap.size 5 1 (.slice (some ⟨u.heap.size, 0, none⟩) 1 1) 1 (encB [UInt8.ofNat c]) := by
    have := World.ownsRow_lit (base := u.heap.size) (e := 5) (size := 1) u #[.int .u8 (c : Int)] 1 (Nat.le_refl _) (by decide) rfl
    simpa [encB, toNat_ofNat_lt hc] using this.drew
  exact conv_own (l := [UInt8.ofNat c]) rfl h

theorem split_at (s : ByteArray) (p : Nat) (h : p < s.size) : s.data.toList = (s.extract 0 p).data.toList ++ s[p] :: (s.extract (p + 1) s.size).data.toList := by
  have e1 : (s.extract 0 p).data.toList = s.data.toList.take p := by simp
  have e2 : (s.extract (p + 1) s.size).data.toList = s.data.toList.drop (p + 1) := by
    simp
    rw [List.take_of_length_le (by simp)]
  rw [e1, e2]
  have hl : p < s.data.toList.length := by simpa using h
  conv => lhs; rw [← List.take_append_drop p s.data.toList, List.drop_eq_getElem_cons hl]
  rfl

set_option maxRecDepth 100000 in
set_option maxHeartbeats 1000000 in
theorem wireApart_walk (s : ByteArray) (p : Int) (c : Nat) (hs : s.size ≤ 9223372036854775807) (hp1 : -9223372036854775808 ≤ p) (hp2 : p < 9223372036854775808) (hc : c < 256) (aE aF : Addr) (w : World) (he : Errs aE aF w) :
    Calls Tryd.prog 4 #[.string s, .int .i64 p, .int .u8 (c : Int)] w fun e w' => e = .returned (.bool true) ∧ Below w.heap.size w w' := by
  have HE := Lib.hid he
  clear he
  obtain ⟨m, e1⟩ : ∃ m : Nat, (if (300 : Int) < (s.size : Int) then (300 : Int) else (s.size : Int)) = (m : Int) := ⟨min s.size 300, by split <;> omega⟩
  have k1 : m ≤ s.size ∧ m ≤ 300 := by split at e1 <;> omega
  obtain ⟨k1, k2⟩ := k1
  obtain ⟨s', hS⟩ : ∃ s', s.extract 0 m = s' := ⟨_, rfl⟩
  have zs : s'.size = m := by rw [← hS, ByteArray.size_extract]; omega
  have zs2 : s'.size ≤ 300 := by omega
  by_cases hneg : p < 0
  · clear zs zs2
    go_enter Tryd.func4, Tryd.ntmps4
    go_wp2_with fail
    refine (shown_true aE aF _ HE.out).mono ?_
    rintro e w1 ⟨rfl, hB1⟩
    go_wp2
    go_ret
    exact ⟨rfl, hB1⟩
  · by_cases hge : (s'.size : Int) ≤ p
    · clear zs
      go_enter Tryd.func4, Tryd.ntmps4
      go_wp2_with fail
      refine (shown_true aE aF _ HE.out).mono ?_
      rintro e w1 ⟨rfl, hB1⟩
      go_wp2
      go_ret
      exact ⟨rfl, hB1⟩
    · obtain ⟨q, rfl⟩ := Int.eq_ofNat_of_zero_le (show 0 ≤ p by omega)
      have hq : q < s'.size := by omega
      have hsp := split_at s' q hq
      obtain ⟨x, hX⟩ : ∃ x, s'.extract 0 q = x := ⟨_, rfl⟩
      obtain ⟨y, hY⟩ : ∃ y, s'.extract (q + 1) s'.size = y := ⟨_, rfl⟩
      rw [hX, hY] at hsp
      have zx : x.size = q := by rw [← hX, ByteArray.size_extract]; omega
      have zy : y.size = s'.size - (q + 1) := by rw [← hY, ByteArray.size_extract]; omega
      have HZ := Lib.hid (And.intro zx zy)
      have HSP := Lib.hid hsp
      have hq1 : q + 1 ≤ s'.size := by omega
      have hxl : x.size ≤ 300 := by omega
      have hyl : y.size ≤ 300 := by omega
      clear zs zx zy hsp
      go_enter Tryd.func4, Tryd.ntmps4
      go_wp2_with fail
      refine (shown_true aE aF _ HE.out).mono ?_
      rintro e w1 ⟨rfl, hB1⟩
      have hi2 : (q : Int) < (s'.size : Int) := by omega
      clear hge hneg hp1 hp2
      go_wp2
      have hcv := conv_one w1 c hc
      go_region
      clear hcv
      have hB2 : Below w.heap.size w (w1.alloc (.cells #[.int .u8 (c : Int)] 5)).drew := (hB1.alloc hB1.size _).drew
      obtain ⟨W2, hW2⟩ : ∃ W2, (w1.alloc (.cells #[.int .u8 (c : Int)] 5)).drew = W2 := ⟨_, rfl⟩
      rw [hW2] at hB2 ⊢
      clear hW2
      obtain ⟨t', hT⟩ : ∃ t', x ++ (⟨#[UInt8.ofNat c]⟩ : ByteArray) ++ y = t' := ⟨_, rfl⟩
      rw [hT]
      have hT2 : t'.data.toList = x.data.toList ++ UInt8.ofNat c :: y.data.toList := by rw [← hT]; simp
      have hkey := crc_apart x.data.toList y.data.toList s'[q] (UInt8.ofNat c)
      rw [← hT2, ← HSP.out] at hkey
      have hcl : ((crc s'.data.toList : Nat) : Int) < 4294967296 := by have := crc_lt s'.data.toList; omega
      have hts : t'.size ≤ 9223372036854775807 := by
        have h1 : (⟨#[UInt8.ofNat c]⟩ : ByteArray).size = 1 := rfl
        rw [← hT, ByteArray.size_append, ByteArray.size_append, h1]
        omega
      have hss : s'.size ≤ 9223372036854775807 := by omega
      by_cases hbc : s'[q] = UInt8.ofNat c
      · have hst : t' = s' := by
          have : t'.data = s'.data := Array.toList_inj.1 (by rw [hT2, ← hbc, ← HSP.out])
          cases t'; cases s'; simpa using this
        clear hT hT2 hkey
        subst hst
        clear hX hY hS HSP
        go_wp2_with fail
        refine (sum_any _ _ hss).mono ?_
        rintro e w3 ⟨rfl, hC⟩
        have hB3 := hB2.trans (hC.mono hB2.size)
        clear hC hB2
        go_wp2_with fail
        refine (sum_any _ _ hss).mono ?_
        rintro e w4 ⟨rfl, hC⟩
        have hB4 := hB3.trans (hC.mono hB3.size)
        clear hC hB3
        go_wp2
        go_ret
        exact ⟨rfl, hB4⟩
      · have hcr : ((crc s'.data.toList : Nat) : Int) ≠ ((crc t'.data.toList : Nat) : Int) := fun h => hbc (hkey.1 (by omega))
        have hcrb : (((crc s'.data.toList : Nat) : Int) == ((crc t'.data.toList : Nat) : Int)) = false := by rw [beq_eq_false_iff_ne]; exact hcr
        have hne : s' ≠ t' := fun h => hbc (hkey.1 (by rw [h]))
        have hneb : (s'.toList == t'.toList) = false := by rw [Lib.toList_data, Lib.toList_data, beq_eq_false_iff_ne]; exact fun h => hbc (hkey.1 (by rw [h]))
        clear hT hT2 hkey hX hY hS HSP hcr hne hbc
        go_wp2_with fail
        refine (sum_any _ _ hss).mono ?_
        rintro e w3 ⟨rfl, hC⟩
        have hB3 := hB2.trans (hC.mono hB2.size)
        clear hC hB2
        go_wp2_with fail
        refine (sum_any _ _ hts).mono ?_
        rintro e w4 ⟨rfl, hC⟩
        have hB4 := hB3.trans (hC.mono hB3.size)
        clear hC hB3
        go_wp2
        go_ret
        exact ⟨rfl, hB4⟩
end Go.Proofs.YtlmimmdaniggiaaDoor
