/- The contract of wire.Sum: it returns the plain sum of its text; nothing that was there has changed. -/
import Derived.Test.YtlmimmdaniggiaaDoorProg
import Derived.Test.YtlmimmdaniggiaaDoorWirePlain
import Derived.Test.YtlmimmdaniggiaaDoorBase
namespace Go.Proofs.YtlmimmdaniggiaaDoor
open Go.RowKit Mor

set_option maxHeartbeats 400000 in
theorem sum1_any (b B c : Nat) (hb : b < 256) (hc : c < 4294967296) (w : World) (hcell : w.cell? ⟨B, 0, none⟩ = some (.int .u32 (c : Int))) (hfr : w.frozen? ⟨B, 0, none⟩ = false) :
    Calls Tryd.prog 17 #[.int .u8 (b : Int), .pointer (some ⟨B, 0, none⟩)] w fun e w' => e = .returned (.tuple #[]) ∧ w.setCell ⟨B, 0, none⟩ (.int .u32 (crcByte c b : Nat)) = w' := by
  have hx : bits .xor .u32 (c : Int) (b : Int) = ((c ^^^ b : Nat) : Int) := u32_xor_nat c b hc (by omega)
  have hlt := crcBits_lt (xor_lt32 hc (show b < 4294967296 by omega))
  have Hlt := Lib.hid hlt
  clear hlt
  unfold crcByte
  generalize c ^^^ b = d at *
  go_enter Tryd.func17, Tryd.ntmps17
  go_wp2
  clear hx
  go_loopw [7] (fun i wr => ∃ k : Nat, k ≤ 8 ∧ i = .int .i64 k ∧ wr = w.setCell ⟨B, 0, none⟩ (.int .u32 (crcBits k d : Nat))) (fun i _ => 8 - (intOf i).toNat)
  case atStart => exact ⟨0, by omega, rfl, rfl⟩
  case round =>
    obtain ⟨k, hk, rfl, rfl⟩ := hrel
    have hd := Hlt.out k
    have HS : Hid (crcBits (k + 1) d = crcBit (crcBits k d)) := rfl
    have H8 : Hid (k = 8 → crcBits 8 d = crcBits k d) := fun e => by rw [e]
    generalize crcBits k d = x at *
    by_cases hlt : k < 8
    · by_cases hx : x % 2 = 1
      · have hr : ((x : Int) % 2 == 1) = true := by rw [beq_iff_eq]; omega
        have HX : Hid (bits .xor .u32 ((x : Int) / 2) 3988292384 = ((x / 2 ^^^ 3988292384 : Nat) : Int)) := u32_xor_nat (x / 2) 3988292384 (by omega) (by omega)
        go_wp2
        refine ⟨⟨k + 1, by omega, by go_num, ?_⟩, by simp [intOf]; omega⟩
        rw [setCell_twice, HX.out, HS.out]
        simp [crcBit, hx]
      · have hr : ((x : Int) % 2 == 1) = false := by rw [beq_eq_false_iff_ne]; omega
        go_wp2
        refine ⟨⟨k + 1, by omega, by go_num, ?_⟩, by simp [intOf]; omega⟩
        rw [setCell_twice, HS.out]
        simp [crcBit, hx]
    · go_wp2
      go_end0
      rw [H8.out (by omega)]
      exact ⟨rfl, rfl⟩

set_option maxHeartbeats 400000 in
theorem sum_any (s : ByteArray) (w : World) (hs : s.size ≤ 9223372036854775807) :
    Calls Tryd.prog 10 #[.string s] w fun e w' => e = .returned (.int .i64 (crc s.data.toList : Nat)) ∧ Below w.heap.size w w' := by
  have Hlt := Lib.hid (crcFrom_lt (c := 4294967295) (by decide))
  go_enter Tryd.func10, Tryd.ntmps10
  go_wp2
  go_loopw [9] (fun i wr => ∃ k : Nat, k ≤ s.size ∧ i = .int .i64 k ∧ wr = w.alloc (.cells #[.int .u32 (crcFrom 4294967295 (s.data.toList.take k) : Nat)] 50)) (fun i _ => s.size - (intOf i).toNat)
  case atStart => exact ⟨0, by omega, rfl, rfl⟩
  case round =>
    obtain ⟨k, hk, rfl, rfl⟩ := hrel
    have hd := Hlt.out (s.data.toList.take k)
    by_cases hlt : k < s.size
    · have hsn := crcFrom_snoc 4294967295 (s.data.toList.take k) s[k]
      rw [← take_snoc s k hlt] at hsn
      have HS := Lib.hid hsn
      clear hsn
      generalize crcFrom 4294967295 (s.data.toList.take k) = x at *
      have hbt : s[k].toNat < 256 := UInt8.toNat_lt _
      have hcn := new_cell1 w (.int .u32 (x : Int)) 50
      go_wp2_with (go_at_call 17; refine (sum1_any _ _ _ hbt hd _ hcn.1 hcn.2).mono ?_; rintro e w' ⟨rfl, rfl⟩)
      go_roundw
      case rel => exact ⟨k + 1, by omega, by go_num, by rw [HS.out]⟩
      case measure => simp [intOf]; omega
    · have hL : s.data.toList.take k = s.data.toList := List.take_of_length_le (by simp; omega)
      rw [hL] at hd ⊢
      have HF : Hid (bits .xor .u32 IntKind.u32.max (crcFrom 4294967295 s.data.toList : Nat) = (crc s.data.toList : Nat) ∧ crc s.data.toList < 4294967296) := by
        have e : (IntKind.u32.max : Int) = ((4294967295 : Nat) : Int) := rfl
        rw [e, u32_xor_nat _ _ (by decide) hd, xor_ones hd]
        exact ⟨rfl, by unfold crc; omega⟩
      generalize crcFrom 4294967295 s.data.toList = x at *
      go_wp2
      go_ret
      refine ⟨?_, (Below.refl _ _).alloc (Nat.le_refl _) _⟩
      obtain ⟨h1, h2⟩ := HF.out
      simp only [h1, Array.getD_eq_getD_getElem?]
      exact ret_int (by unfold wrap64; omega)

end Go.Proofs.YtlmimmdaniggiaaDoor
