/- The contracts of the law's pick and id; raw numbers that came in. -/
import Derived.Test.YtifaaacbbjlffaaDoorIdxRange
namespace Mor
def pickZ (c n : Int) : Int := (if c < 0 then -(c + 1) else c) % n
structure RawD where
  k : Int
  n : Int
  s : ByteArray
  l : List Int
def txtZ (c : Int) : ByteArray := if c = 0 then ⟨#[]⟩ else if c = 1 then ⟨#[97]⟩ else if c = 2 then ⟨#[98]⟩ else if c = 3 then ⟨#[97, 98]⟩ else ⟨#[195, 169]⟩
def numP (z : Int) : Pv := ⟨1, pickZ z 3, ⟨#[]⟩⟩
def listOf (l : List Int) : List Pv := (l.take 3).map numP
/-- the value that raw numbers speak of -/
def rawVal (r : RawD) : Vl :=
  if pickZ r.k 7 = 0 then ⟨0, 0, ⟨#[]⟩, []⟩
  else if pickZ r.k 7 = 1 then ⟨1, pickZ r.n 12 - 4, ⟨#[]⟩, []⟩
  else if pickZ r.k 7 = 2 then ⟨1, pickZ r.n 12 - 4, ⟨#[]⟩, []⟩
  else if pickZ r.k 7 = 3 then ⟨2, 0, txtZ (pickZ r.n 5), []⟩
  else if pickZ r.k 7 = 4 then ⟨3, 1 + pickZ r.n 5, ⟨#[]⟩, []⟩
  else if pickZ r.k 7 = 5 then ⟨4, 1 + pickZ r.n 3, ⟨#[]⟩, []⟩
  else ⟨5, 0, ⟨#[]⟩, listOf r.l⟩
theorem pickZ_bd (c n : Int) (hn : 0 < n) : 0 ≤ pickZ c n ∧ pickZ c n < n := ⟨Int.emod_nonneg _ (by omega), Int.emod_lt_of_pos _ hn⟩
end Mor
namespace Go.Proofs.YtifaaacbbjlffaaDoor
open Go.RowKit Mor

/-- a number of 64 bits -/
def I64 (c : Int) : Prop := -9223372036854775808 ≤ c ∧ c ≤ 9223372036854775807

theorem pick_any (c n : Int) (hc : I64 c) (hn : 0 < n) (hn' : n ≤ 1000000) (w : World) : Calls Tryd.prog 24 #[.int .i64 c, .int .i64 n] w fun e w' => e = .returned (.int .i64 (pickZ c n)) ∧ w = w' := by
  obtain ⟨c1, c2⟩ := hc
  have hnz : n ≠ 0 := by omega
  have hnz' : (n == 0) = false := beq_eq_false_iff_ne.2 hnz
  by_cases h : c < 0
  · have E := Lib.hid (show pickZ c n = -((c + 1).tmod n) by unfold pickZ; rw [if_pos h, ← Int.neg_tmod, Int.tmod_eq_emod_of_nonneg (by omega)])
    go_enter Tryd.func24, Tryd.ntmps24
    go_wp2
    go_ret
    rw [E.out]
    exact ⟨rfl, rfl⟩
  · have E := Lib.hid (show pickZ c n = c % n by unfold pickZ; rw [if_neg h])
    go_enter Tryd.func24, Tryd.ntmps24
    go_wp2
    go_ret
    rw [E.out]
    exact ⟨rfl, rfl⟩

theorem id_any (c : Int) (hc : I64 c) (w : World) : Calls Tryd.prog 22 #[.int .i64 c] w fun e w' => e = .returned (.int .i64 (1 + pickZ c 9)) ∧ w = w' := by
  have HP := Lib.hid (fun W => pick_any c 9 hc (by decide) (by decide) W)
  have hb := pickZ_bd c 9 (by decide)
  generalize pickZ c 9 = z at *
  obtain ⟨h1, h2⟩ := hb
  clear hc
  go_enter Tryd.func22, Tryd.ntmps22
  go_wp2_with (go_at_call 24; refine (HP.out _).mono ?_; rintro e w' ⟨rfl, rfl⟩)
  go_ret
  exact ⟨rfl, rfl⟩

/-- a slice of numbers that came in -/
def IsJ (w : World) (v : Value) (l : List Int) : Prop := (∀ x ∈ l, I64 x) ∧ ∃ (a : Option Addr) (c : Nat), v = .slice a l.length c ∧ l.length ≤ 9223372036854775807 ∧ ∀ j x, l[j]? = some x → ∃ b o, a = some ⟨b, o, none⟩ ∧ w.cell? ⟨b, o + j, none⟩ = some (.int .i64 x)
theorem IsJ.below {w w' : World} {v : Value} {l : List Int} (h : IsJ w v l) (hb : Below w.heap.size w w') : IsJ w' v l := by
  obtain ⟨h0, a, c, h1, h2, h6⟩ := h
  refine ⟨h0, a, c, h1, h2, fun j x hj => ?_⟩
  obtain ⟨b, o, e, hc⟩ := h6 j x hj
  refine ⟨b, o, e, ?_⟩
  obtain ⟨o', ho, _⟩ := cells_of_cell hc
  rw [hb.cell (p := ⟨b, o + j, none⟩) (lt_of_block ho)]
  exact hc
/-- raw numbers that came in -/
structure RawOk (w : World) (r : RawD) (sl : Value) : Prop where
  k : I64 r.k
  n : I64 r.n
  s : r.s.size ≤ 9223372036854775807
  l : IsJ w sl r.l
theorem RawOk.below {w w' : World} {r : RawD} {sl : Value} (h : RawOk w r sl) (hb : Below w.heap.size w w') : RawOk w' r sl := ⟨h.k, h.n, h.s, h.l.below hb⟩
def rawV (r : RawD) (sl : Value) : Value := .agg #[.int .i64 r.k, .int .i64 r.n, .string r.s, sl]
/-- what a call leaves that hands back a value -/
def GivesV (V : Vl) (w : World) (e : Ending) (w' : World) : Prop := ∃ v, e = .returned v ∧ IsVx w' v V ∧ Below w.heap.size w w'

theorem isVx_bare (w : World) (k n : Int) (s : ByteArray) : IsVx w (.agg #[.int .i64 k, .int .i64 n, .string s, .slice none 0 0]) ⟨k, n, s, []⟩ := ⟨_, rfl, .inl ⟨rfl, rfl⟩, fun a n c e => by cases e⟩

end Go.Proofs.YtifaaacbbjlffaaDoor
