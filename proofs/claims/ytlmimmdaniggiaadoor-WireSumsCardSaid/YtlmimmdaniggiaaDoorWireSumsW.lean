/- morainelaw01.WireSums returns true. -/
import Derived.Test.YtlmimmdaniggiaaDoorWireShown
import Derived.Test.YtlmimmdaniggiaaDoorWireCrc
namespace Go.Proofs.YtlmimmdaniggiaaDoor
open Go.RowKit Go.Shelf Mor

theorem i64_xor32 {a b : Nat} (ha : a < 4294967296) (hb : b < 4294967296) : bits .xor .i64 (a : Int) (b : Int) = ((a ^^^ b : Nat) : Int) := by
  have hx : a ^^^ b < 4294967296 := xor_lt32 ha hb
  have e : ∀ c : Nat, c < 4294967296 → (BitVec.ofInt 64 (c : Int)).toNat = c := fun c hc => by
    rw [BitVec.toNat_ofInt]
    omega
  show IntKind.i64.wrap ((BitVec.ofInt 64 (a : Int) ^^^ BitVec.ofInt 64 (b : Int)).toNat : Int) = _
  rw [BitVec.toNat_xor, e a ha, e b hb, IntWalk.i64_in _ (by omega)]

set_option maxRecDepth 100000 in
set_option maxHeartbeats 1000000 in
theorem wireSums_walk (s t u : ByteArray) (hs : s.size ≤ 9223372036854775807) (ht : t.size ≤ 9223372036854775807) (hu : u.size ≤ 9223372036854775807) (aE aF : Addr) (w : World) (he : Errs aE aF w) :
    Calls Tryd.prog 5 #[.string s, .string t, .string u] w fun e w' => e = .returned (.bool true) ∧ Below w.heap.size w w' := by
  have HE := Lib.hid he
  clear he
  obtain ⟨m1, e1⟩ : ∃ m1 : Nat, (if t.size < s.size then (t.size : Int) else (s.size : Int)) = (m1 : Int) := ⟨min s.size t.size, by split <;> omega⟩
  obtain ⟨m2, e2⟩ : ∃ m2 : Nat, (if (300 : Int) < (u.size : Int) then (300 : Int) else (u.size : Int)) = (m2 : Int) := ⟨min u.size 300, by split <;> omega⟩
  obtain ⟨n, e3⟩ : ∃ n : Nat, (if m2 < m1 then (m2 : Int) else (m1 : Int)) = (n : Int) := ⟨min m1 m2, by split <;> omega⟩
  have k1 : n ≤ s.size ∧ n ≤ t.size ∧ n ≤ u.size ∧ n ≤ 300 := by
    split at e1 <;> split at e2 <;> split at e3 <;> omega
  obtain ⟨k1, k2, k3, k4⟩ := k1
  obtain ⟨s', hS⟩ : ∃ s', s.extract 0 n = s' := ⟨_, rfl⟩
  obtain ⟨t', hT⟩ : ∃ t', t.extract 0 n = t' := ⟨_, rfl⟩
  obtain ⟨u', hU⟩ : ∃ u', u.extract 0 n = u' := ⟨_, rfl⟩
  have zs : s'.size = n := by rw [← hS, ByteArray.size_extract]; omega
  have zt : t'.size = n := by rw [← hT, ByteArray.size_extract]; omega
  have zu : u'.size = n := by rw [← hU, ByteArray.size_extract]; omega
  have hlaw := crc_xor3 s'.data.toList t'.data.toList u'.data.toList (by simp; omega) (by simp; omega)
  have HZ := Lib.hid (And.intro zs (And.intro zt zu))
  have HL := Lib.hid hlaw
  clear zs zt zu hlaw
  go_enter Tryd.func5, Tryd.ntmps5
  go_wp2_with fail
  refine (shown_true aE aF _ HE.out).mono ?_
  rintro e w1 ⟨rfl, hB1⟩
  obtain ⟨z1, z2, z3⟩ := HZ.out
  have zx : (⟨(xorB s'.data.toList t'.data.toList).toArray⟩ : ByteArray).size = n := by
    show (xorB s'.data.toList t'.data.toList).toArray.size = n
    rw [List.size_toArray, length_xorB _ _ (by simp; omega)]
    simpa using z1
  have HZ2 := Lib.hid (And.intro z1 (And.intro z2 (And.intro z3 zx)))
  clear z1 z2 z3 zx HZ
  have hx1 := i64_xor32 (crc_lt s'.data.toList) (crc_lt t'.data.toList)
  have hx2 := i64_xor32 (xor_lt32 (crc_lt s'.data.toList) (crc_lt t'.data.toList)) (crc_lt u'.data.toList)
  rw [HL.out] at hx2
  go_wp2_with fail
  refine (sum_any _ _ (by have := HZ2.out.1; omega)).mono ?_
  rintro e w2 ⟨rfl, hC⟩
  have hB2 := hB1.trans (hC.mono hB1.size)
  clear hC hB1
  go_wp2_with fail
  refine (sum_any _ _ (by have := HZ2.out.2.1; omega)).mono ?_
  rintro e w3 ⟨rfl, hC⟩
  have hB3 := hB2.trans (hC.mono hB2.size)
  clear hC hB2
  go_wp2_with fail
  refine (sum_any _ _ (by have := HZ2.out.2.2.1; omega)).mono ?_
  rintro e w4 ⟨rfl, hC⟩
  have hB4 := hB3.trans (hC.mono hB3.size)
  clear hC hB3
  go_wp2_with fail
  refine (turned_any _ _ (by have := HZ2.out.1; omega) (by rw [HZ2.out.2.1, HZ2.out.1]) _).mono ?_
  rintro e w5 ⟨rfl, hC⟩
  have hB5 := hB4.trans (hC.mono hB4.size)
  clear hC hB4
  go_wp2_with fail
  refine (turned_any _ _ (by rw [HZ2.out.2.2.2]; exact k4) (by rw [HZ2.out.2.2.1, HZ2.out.2.2.2]) _).mono ?_
  rintro e w6 ⟨rfl, hC⟩
  have hB6 := hB5.trans (hC.mono hB5.size)
  clear hC hB5
  have hz6 : (⟨(xorB (⟨(xorB s'.data.toList t'.data.toList).toArray⟩ : ByteArray).data.toList u'.data.toList).toArray⟩ : ByteArray).size ≤ 9223372036854775807 := by
    show (xorB (xorB s'.data.toList t'.data.toList).toArray.toList u'.data.toList).toArray.size ≤ _
    rw [List.size_toArray]
    have h1 : (xorB (xorB s'.data.toList t'.data.toList).toArray.toList u'.data.toList).length ≤ u'.data.toList.length := by simp only [xorB, List.length_zipWith]; omega
    have h2 : u'.data.toList.length = n := by simpa using HZ2.out.2.2.1
    omega
  have HZ6 := Lib.hid hz6
  clear hz6
  go_wp2_with fail
  refine (sum_any _ _ HZ6.out).mono ?_
  rintro e w7 ⟨rfl, hC⟩
  have hB7 := hB6.trans (hC.mono hB6.size)
  clear hC hB6
  go_wp2
  go_ret
  exact ⟨rfl, hB7⟩
end Go.Proofs.YtlmimmdaniggiaaDoor
