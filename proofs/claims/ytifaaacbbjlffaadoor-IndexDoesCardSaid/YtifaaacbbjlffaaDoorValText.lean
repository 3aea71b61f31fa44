/- The contracts of val.plain and val.rightText. -/
import Derived.Test.YtifaaacbbjlffaaDoorShelf
import Derived.Test.YtifaaacbbjlffaaDoorValRight
import Derived.Deep.LoopGhost
import Derived.Lib.OthersKept
import Derived.Lib.ValidLaws
import Derived.Lib.TrimUEq
namespace Mor
open Go.Lib
def plainR (n : Nat) : Bool := decide (32 ≤ n ∧ n ≠ 127)
def plainGo : Nat → List UInt8 → Bool
  | 0, _ => true
  | n + 1, l => if l = [] then true else if plainR (decodeL l).1 = true then plainGo n (l.drop (decodeL l).2) else false
/-- no sign of a text is a control sign -/
def plainS (l : List UInt8) : Bool := plainGo l.length l
theorem plainGo_fuel : ∀ (n m : Nat) (l : List UInt8), l.length ≤ n → l.length ≤ m → plainGo n l = plainGo m l
  | 0, 0, _, _, _ => rfl
  | 0, m + 1, l, h, _ => by
    have : l = [] := List.eq_nil_of_length_eq_zero (by omega)
    subst this; simp [plainGo]
  | n + 1, 0, l, _, h => by
    have : l = [] := List.eq_nil_of_length_eq_zero (by omega)
    subst this; simp [plainGo]
  | n + 1, m + 1, l, h1, h2 => by
    unfold plainGo
    by_cases hne : l = []
    · simp [hne]
    · have hw := decodeL_width l
      have hl : 0 < l.length := List.length_pos_iff.2 hne
      rw [if_neg hne, if_neg hne, plainGo_fuel n m (l.drop (decodeL l).2) (by rw [List.length_drop]; omega) (by rw [List.length_drop]; omega)]
theorem plainS_step (l : List UInt8) (hne : l ≠ []) : plainS l = if plainR (decodeL l).1 = true then plainS (l.drop (decodeL l).2) else false := by
  have hl : 0 < l.length := List.length_pos_iff.2 hne
  have hw := decodeL_width l
  obtain ⟨n, hn⟩ : ∃ n, l.length = n + 1 := ⟨l.length - 1, by omega⟩
  unfold plainS
  rw [hn]
  show (if l = [] then true else _) = _
  rw [if_neg hne, plainGo_fuel n (l.drop (decodeL l).2).length _ (by rw [List.length_drop]; omega) (Nat.le_refl _)]
/-- a text that a value may have -/
def rightT (s : ByteArray) : Bool := decide (s.size ≤ 60) && (validD s.data.toList && plainS s.data.toList)
end Mor
namespace Go.Proofs.YtifaaacbbjlffaaDoor
open Go.RowKit Mor

theorem plain_any (n : Nat) (hn : n ≤ 2147483647) (w : World) : Calls Tryd.prog 58 #[.int .i32 (n : Int)] w fun e w' => e = .returned (.bool (plainR n)) ∧ w = w' := by
  by_cases h1 : 32 ≤ n
  · have i1 : (32 : Int) ≤ (n : Int) := by omega
    by_cases h2 : n = 127
    · subst h2
      go_enter Tryd.func58, Tryd.ntmps58
      go_wp2
      go_ret
      exact ⟨by simp [plainR], rfl⟩
    · have E := Lib.hid (show plainR n = true by simp [plainR, h1, h2])
      have hz : ((n : Int) != 127) = true := by rw [bne_iff_ne]; omega
      rw [E.out]
      clear E h2
      go_enter Tryd.func58, Tryd.ntmps58
      go_wp2
      go_ret
      exact ⟨by simp, rfl⟩
  · have i1 : ¬ (32 : Int) ≤ (n : Int) := by omega
    have E := Lib.hid (show plainR n = false by simp [plainR, h1])
    rw [E.out]
    clear E
    go_enter Tryd.func58, Tryd.ntmps58
    go_wp2
    go_ret
    exact ⟨by simp, rfl⟩

/-- the two tables of unicode/utf8 are as its text lays them -/
def Tabs (w : World) : Prop := Lib.Utf8Tabs (Tryd.laysValid_ren.g 3) (Tryd.laysValid_ren.g 4) w
theorem Tabs.below {w w' : World} (h : Tabs w) (hb : Below w.heap.size w w') : Tabs w' := Utf8Tabs_below h hb

theorem valid_any (s : ByteArray) (w : World) (hs : s.size ≤ 9223372036854775807) (hT : Tabs w) : Calls Tryd.prog 57 #[.string s] w fun e w' => e = .returned (.bool (Lib.validD s.data.toList)) ∧ Below w.heap.size w w' :=
  Any.utf8_ValidString Tryd.laysValid s w hs hT

theorem iterPos_of' {w : World} {k : Nat} {s : ByteArray} {p : Nat} (h : w.heap[k]? = some (.stringIter s p)) : w.iterPos k = p := by simp [World.iterPos, h]

set_option maxHeartbeats 1000000 in
theorem rightText_any (s : ByteArray) (w : World) (hs : s.size ≤ 9223372036854775807) (hT : Tabs w) : Calls Tryd.prog 46 #[.string s] w fun e w' => e = .returned (.bool (rightT s)) ∧ Below w.heap.size w w' := by
  have cV := valid_any s w hs hT
  unfold rightT
  by_cases h0 : s.size ≤ 60
  · have h0z : ¬ (60 : Int) < (s.size : Int) := by omega
    rw [decide_eq_true h0, Bool.true_and]
    cases hv : Lib.validD s.data.toList
    · rw [hv] at cV
      rw [Bool.false_and]
      have CV := Lib.hid cV
      clear cV hv hT
      go_enter Tryd.func46, Tryd.ntmps46
      go_wp2_with (go_at_call 57; refine CV.out.mono ?_; rintro e w' ⟨rfl, hb⟩)
      go_ret
      exact ⟨rfl, hb⟩
    · rw [hv] at cV
      rw [Bool.true_and]
      have CV := Lib.hid cV
      clear cV hv hT
      go_enter Tryd.func46, Tryd.ntmps46
      go_wp2_with fail
      refine CV.out.mono ?_
      rintro e w1 ⟨rfl, b1⟩
      have B1 := Lib.hid b1
      have z1 := b1.size
      clear b1
      go_wp2_with fail
      go_loopg [4] s.size (fun g s4 wr => ∃ pos : Nat, g = s.size - pos ∧ wr.heap[w1.heap.size]? = some (.stringIter s pos) ∧ Below w1.heap.size w1 wr ∧ Hid (plainS s.data.toList = plainS (s.data.toList.drop pos)))
      case atStart => exact ⟨0, rfl, World.iter_heap w1 s 0, (Below.refl _ _).alloc (Nat.le_refl _) _, rfl⟩
      case round =>
        obtain ⟨pos, hg, hit, hbw, HS⟩ := hrel
        have HG := Lib.hid hg
        clear hg
        by_cases hp : pos < s.size
        · have hnx : ∀ ty, (Instr.next (.pointer (some ⟨w1.heap.size, 0, none⟩)) true ty).run Tryd.prog wr = _ := fun ty => Lib.run_next_any_at wr w1.heap.size s pos ty hit hp
          have hit2 := Lib.iterAt_heap wr w1.heap.size s pos (pos + (Utf8.decode s pos).2) hit
          have hbw2 := Lib.below_iterAt hbw (k := w1.heap.size) (Nat.le_refl _) s (pos + (Utf8.decode s pos).2)
          have hde := Lib.decodeL_drop s pos
          have hwd := Lib.decodeL_width (s.data.toList.drop pos)
          have hne : s.data.toList.drop pos ≠ [] := by
            intro h
            have := congrArg List.length h
            rw [List.length_drop, ← Lib.size_eq, List.length_nil] at this
            omega
          have hst := plainS_step _ hne
          rw [hde] at hst hwd
          rw [List.drop_drop] at hst
          have hle := decode_le s pos
          generalize hd : Utf8.decode s pos = d at *
          obtain ⟨dr, dw⟩ := d
          have HST := Lib.hid hst
          obtain ⟨W1, hW1⟩ : ∃ W1, W1 = wr.iterAt w1.heap.size s (pos + dw) := ⟨_, rfl⟩
          simp only at hnx hit2 hbw2 hle hwd
          rw [← hW1] at hnx hit2 hbw2
          have HIT := Lib.hid hit2
          have HBW := Lib.hid hbw2
          clear hW1 hit hbw hit2 hbw2 hst hde hd hne
          cases hpl : plainR dr
          · have PL := Lib.hid (fun W => plain_any dr hle W)
            rw [hpl] at PL
            have E := Lib.hid (show plainS s.data.toList = false by rw [HS.out, HST.out]; simp [hpl])
            clear hpl
            go_wp2_with (go_at_call 58; refine (PL.out _).mono ?_; rintro e w' ⟨rfl, rfl⟩)
            go_ret
            rw [E.out]
            exact ⟨rfl, B1.out.trans (HBW.out.mono z1)⟩
          · have PL := Lib.hid (fun W => plain_any dr hle W)
            rw [hpl] at PL
            have E := Lib.hid (show plainS s.data.toList = plainS (s.data.toList.drop (pos + dw)) by rw [HS.out, HST.out]; simp [hpl])
            clear hpl
            go_wp2_with (go_at_call 58; refine (PL.out _).mono ?_; rintro e w' ⟨rfl, rfl⟩)
            go_roundg (s.size - (pos + dw))
            case measure => rw [HG.out]; omega
            case rel => exact ⟨pos + dw, rfl, HIT.out, HBW.out, E.out⟩
        · have hnx : ∀ ty, (Instr.next (.pointer (some ⟨w1.heap.size, 0, none⟩)) true ty).run Tryd.prog wr = _ := fun ty => Lib.run_next_end_at wr w1.heap.size s pos ty hit hp
          have E := Lib.hid (show plainS s.data.toList = true by
            rw [HS.out, List.drop_eq_nil_of_le (by rw [← Lib.size_eq]; omega)]; rfl)
          have HBW := Lib.hid hbw
          clear hit hbw
          go_wp2_with fail
          go_ret
          rw [E.out]
          exact ⟨rfl, B1.out.trans (HBW.out.mono z1)⟩
  · have h0z : (60 : Int) < (s.size : Int) := by omega
    rw [decide_eq_false h0, Bool.false_and]
    clear cV hT
    go_enter Tryd.func46, Tryd.ntmps46
    go_wp2_with fail
    go_ret
    exact ⟨rfl, Below.refl _ _⟩
end Go.Proofs.YtifaaacbbjlffaaDoor
