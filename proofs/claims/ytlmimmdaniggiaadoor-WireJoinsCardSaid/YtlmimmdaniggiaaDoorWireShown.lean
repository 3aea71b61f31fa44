/- morainelaw01.shown returns true. -/
import Derived.Test.YtlmimmdaniggiaaDoorWireText
import Derived.Test.YtlmimmdaniggiaaDoorWireSum
namespace Go.Proofs.YtlmimmdaniggiaaDoor
open Go.RowKit Go.Shelf Mor

/-- so many bytes, all 0 -/
def zeroS (n : Nat) : ByteArray := ⟨(List.replicate n (0 : UInt8)).toArray⟩
theorem zeroS_size (n : Nat) : (zeroS n).size = n := by
  show (List.replicate n (0 : UInt8)).toArray.size = n
  rw [List.size_toArray, List.length_replicate]

theorem make_zero (n : Nat) (hn : n ≤ 1048576) (u : World) : (Instr.makeSlice 29 (.int .i64 (n : Int)) (.int .i64 (n : Int))).run Tryd.prog u =
    .ok (.slice (some ⟨u.heap.size, 0, none⟩) n n) (u.alloc (.cells (madeCells #[.int .u8 0] n) 5)) := by
  obtain ⟨i0, hi, hz0, hz1, hz2⟩ := info_parts info_u8
  have h := run_make (P := Tryd.prog) u 29 5 i0 (.int .u8 0) Tryd.underlying29 hi hz0 .i64 .i64 (n : Int) (n : Int) (by omega) (Int.le_refl _) (by rw [hz2]; omega) (by omega)
  simpa [hz1, Value.cells] using h

theorem conv_zero (n : Nat) (u : World) : (convert 29 9 (.slice (some ⟨u.heap.size, 0, none⟩) n n)).run Tryd.prog (u.alloc (.cells (madeCells #[.int .u8 0] n) 5)) =
    .ok (.string (zeroS n)) (u.alloc (.cells (madeCells #[.int .u8 0] n) 5)) := by
  have := run_convert_bytes_back (P := Tryd.prog) (u.alloc (.cells (madeCells #[.int .u8 0] n) 5)) 29 9 5 ⟨u.heap.size, 0, none⟩ n (List.replicate n (0 : UInt8)) Tryd.underlying29 Tryd.underlying5 Tryd.underlying9 (fun j hj => by
    have hj' : j < n := by simpa using hj
    rw [addr_add, Nat.zero_add, World.cell?_alloc_new, ← Array.getElem?_toList, toList_madeCells_one]
    simp [hj'])
  rw [List.length_replicate] at this
  exact this

/-- a constant's name, so that nothing counts it up -/
def tk : Nat := 10001
theorem n0 : numBytes 0 = [0] := by decide
theorem n1 : numBytes (-1) = [1] := by decide
theorem n300 : numBytes 300 = [216, 4] := by decide
theorem r1 : numRes ⟨#[97, 216, 4, 98]⟩ 1 = .num 300 0 2 := by decide
theorem r2 : numRes ⟨#[128, 0]⟩ 0 = .form := by decide
theorem r3 : numRes ⟨#[128]⟩ 0 = .ends := by decide
theorem c9 : crc [49, 50, 51, 52, 53, 54, 55, 56, 57] = 3421780262 := by decide +kernel
theorem t1 : textRes ⟨#[4, 104, 105, 120]⟩ 0 = some (⟨#[104, 105]⟩, 3) := by
  have h : numRes ⟨#[4, 104, 105, 120]⟩ 0 = .num 2 0 1 := by decide
  have hv : valOf 2 0 = 2 := by decide +kernel
  have hh : hasB ⟨#[4, 104, 105, 120]⟩ (0 + (1 : Nat)) 2 = true := by decide
  rw [textRes, h]
  simp only [hv, hh]
  decide

theorem read_300 (aE aF : Addr) (w : World) (he : Errs aE aF w) : Calls Tryd.prog 9 #[.string ⟨#[97, 216, 4, 98]⟩, .int .i64 1] w fun e w' => e = .returned (.tuple #[.int .i64 300, .int .i64 3, .int .i64 0]) ∧ Below w.heap.size w w' := by
  have h := readNum_ok ⟨#[97, 216, 4, 98]⟩ (by decide) 1 aE aF w he 300 0 2 r1
  rw [show valOf 300 0 = 300 by decide +kernel] at h
  exact h
theorem text_hi (w : World) : Calls Tryd.prog 13 #[.string ⟨#[104, 105]⟩] w fun e w' => e = .returned (.tuple #[.string ⟨#[4, 104, 105]⟩, .int .i64 0]) ∧ Below w.heap.size w w' := by
  have h := text_small ⟨#[104, 105]⟩ (by decide) w
  rw [show ((⟨#[104, 105]⟩ : ByteArray).size : Int) = 2 by rfl, show numBytes 2 = [4] by decide] at h
  exact h
theorem num_0 (w : World) : Calls Tryd.prog 8 #[.int .i64 0] w fun e w' => e = .returned (.string ⟨#[0]⟩) ∧ Below w.heap.size w w' := by
  have h := num_any 0 (by decide) (by decide) w
  rw [n0] at h
  exact h
theorem num_m1 (w : World) : Calls Tryd.prog 8 #[.int .i64 (-1)] w fun e w' => e = .returned (.string ⟨#[1]⟩) ∧ Below w.heap.size w w' := by
  have h := num_any (-1) (by decide) (by decide) w
  rw [n1] at h
  exact h
theorem num_300 (w : World) : Calls Tryd.prog 8 #[.int .i64 300] w fun e w' => e = .returned (.string ⟨#[216, 4]⟩) ∧ Below w.heap.size w w' := by
  have h := num_any 300 (by decide) (by decide) w
  rw [n300] at h
  exact h
theorem sum_9 (w : World) : Calls Tryd.prog 10 #[.string ⟨#[49, 50, 51, 52, 53, 54, 55, 56, 57]⟩] w fun e w' => e = .returned (.int .i64 3421780262) ∧ Below w.heap.size w w' := by
  have h := sum_any ⟨#[49, 50, 51, 52, 53, 54, 55, 56, 57]⟩ w (by decide)
  rw [c9] at h
  exact h

set_option maxRecDepth 100000 in
set_option maxHeartbeats 1000000 in
theorem shown_true (aE aF : Addr) (w : World) (he : Errs aE aF w) :
    Calls Tryd.prog 7 #[] w fun e w' => e = .returned (.bool true) ∧ Below w.heap.size w w' := by
  have HE := Lib.hid he
  clear he
  have hmk : ∀ u : World, (Instr.makeSlice 29 (.int .i64 10001) (.int .i64 10001)).run Tryd.prog u = .ok (.slice (some ⟨u.heap.size, 0, none⟩) 10001 10001) (u.alloc (.cells (madeCells #[.int .u8 0] 10001) 5)) := make_zero 10001 (by decide)
  have hcv := conv_zero 10001
  go_enter Tryd.func7, Tryd.ntmps7
  go_wp2_with fail
  refine (read_300 aE aF _ HE.out).mono ?_
  rintro e w1 ⟨rfl, hb1⟩
  have he1 := Lib.hid (HE.out.below hb1 (Nat.le_refl _))
  go_wp2_with fail
  refine (readNum_bad _ (by decide) 0 aE aF _ he1.out (by rw [r2]; intro _ _ _ e; cases e)).mono ?_
  rintro e w2 ⟨rfl, hb2⟩
  have he2 := Lib.hid (he1.out.below hb2 (Nat.le_refl _))
  have hb2' := hb1.trans (hb2.mono hb1.size)
  clear hb1 hb2
  go_wp2_with fail
  refine (readNum_bad _ (by decide) 0 aE aF _ he2.out (by rw [r3]; intro _ _ _ e; cases e)).mono ?_
  rintro e w3 ⟨rfl, hb3⟩
  have he3 := Lib.hid (he2.out.below hb3 (Nat.le_refl _))
  have hb3' := hb2'.trans (hb3.mono hb2'.size)
  clear hb2' hb3
  go_wp2_with fail
  refine (readText_ok _ (by decide) 0 aE aF _ he3.out ⟨#[104, 105]⟩ 3 t1).mono ?_
  rintro e w4 ⟨rfl, hb4⟩
  have hb4' := hb3'.trans (hb4.mono hb3'.size)
  clear hb3' hb4
  go_wp2_with fail
  refine (text_hi _).mono ?_
  rintro e w5 ⟨rfl, hb5⟩
  have hb5' := hb4'.trans (hb5.mono hb4'.size)
  clear hb4' hb5
  have hb6 : Below w.heap.size w (w5.alloc (.cells (madeCells #[.int .u8 0] 10001) 5)) := hb5'.alloc hb5'.size _
  go_wp2_with fail
  refine (text_big _ (by rw [zeroS_size]; decide) (by rw [zeroS_size]; decide) _).mono ?_
  rintro e w6 ⟨rfl, hb7⟩
  have hb6' := hb6.trans (hb7.mono hb6.size)
  clear hb6 hb7 hb5' hmk hcv
  go_wp2_with fail
  refine (num_0 _).mono ?_
  rintro e w7 ⟨rfl, hb7⟩
  have hb7' := hb6'.trans (hb7.mono hb6'.size)
  clear hb6' hb7
  go_wp2_with fail
  refine (num_m1 _).mono ?_
  rintro e w8 ⟨rfl, hb8⟩
  have hb8' := hb7'.trans (hb8.mono hb7'.size)
  clear hb7' hb8
  go_wp2_with fail
  refine (num_300 _).mono ?_
  rintro e w9 ⟨rfl, hb9⟩
  have hb9' := hb8'.trans (hb9.mono hb8'.size)
  clear hb8' hb9
  go_wp2_with fail
  refine (sum_9 _).mono ?_
  rintro e w10 ⟨rfl, hb10⟩
  have hb10' := hb9'.trans (hb10.mono hb9'.size)
  clear hb9' hb10
  go_wp2
  go_ret
  exact ⟨rfl, hb10'⟩

end Go.Proofs.YtlmimmdaniggiaaDoor
