/- The contract of morainelaw01.turned: two texts, byte by byte, exclusive or. -/
import Derived.Test.YtlmimmdaniggiaaDoorWireNum
import Derived.Deep.RegionLaw
import Derived.Laws.BytesArg
import Derived.IntWalk
namespace Mor
def xorB (l r : List UInt8) : List UInt8 := List.zipWith (fun a b => a ^^^ b) l r
end Mor
namespace Go.Proofs.YtlmimmdaniggiaaDoor
open Go.RowKit Mor

theorem step_append_own {P : Program} {ops : Array Oper} {o : Oper} {a : Act} {w : World} {K : Act → World → Prop} {Q : Exit → Act → World → Prop} {E : Prop}
    (hg : o.guard = none) (s x : Operand) (t : TypeId) (hop : o.op = Op.call { callee := Callee.builtin Builtin.append, args := #[s, x], argTypes := #[t, t] })
    (base : Nat) (e : TypeId) (i : TypeInfo) (z : Value) (size bytes : Nat) (h1 : P.underlying t = some (.slice e)) (h2 : P.info? e = some i) (h3 : i.zero = some z) (h4 : i.size = size) (h5 : i.bytes = bytes) (h6 : z.cells.size = size) (h7 : 0 < size)
    (v : Value) (k : Nat) (xs : List Value) (hs : a.eval s = v) (hown : w.ownsRow base e size v k xs) (ad : Addr) (m c : Nat) (news : List Value) (hx : a.eval x = .slice (some ad) m c) (hn : news.length = m * size)
    (hc : ∀ j u, news[j]? = some u → w.cell? (ad.add j) = some u) (h1c : ∀ u ∈ news, u.oneCell' = true) (b1 : k + m ≤ maxLen) (b2 : (k + m) * bytes ≤ 140737488355328) (b3 : base ≤ w.heap.size)
    (hK : ∀ v' w', w'.ownsRow base e size v' (k + m) (xs ++ news) → w.grownBy w' v.ownBlock → K (a.put o.dst v') w') :
    if Region.wanted o (yielded ops a.tmps) = true then Oper.wp P o a w K Q else E := by
  simp only [Region.wanted, hg, if_true]
  exact wp_append_own (w := w) s x t hop base e i z size bytes h1 h2 h3 h4 h5 h6 h7 v k xs hs hown ad m c news hx hn hc h1c b1 b2 b3 (fun v' w' h h' _ => hK v' w' h h')

/-- string(b), b a slice of the call's own -/
theorem conv_own {W : World} {base : Nat} {v : Value} {l : List UInt8} {n : Nat} (hn : l.length = n) (h : W.ownsRow base 5 1 v n (encB l)) : (convert 29 9 v).run Tryd.prog W = .ok (.string ⟨l.toArray⟩) W := by
  subst hn
  rcases h.2 with ⟨rfl, h0⟩ | ⟨g, cap, cur, rfl, _⟩
  · have : l = [] := List.eq_nil_of_length_eq_zero h0
    subst this
    exact run_convert_bytes_nil W 29 5 Tryd.underlying29 Tryd.underlying5 _ _ 9 Tryd.underlying9
  · exact run_convert_bytes_back (P := Tryd.prog) W 29 9 5 ⟨g, 0, none⟩ cap l Tryd.underlying29 Tryd.underlying5 Tryd.underlying9 (fun j hj => by
        have := h.cellAt j (by omega)
        rw [addr_add, Nat.zero_add, this]
        simp [encB, hj])

theorem xorB_snoc (s t : ByteArray) (k : Nat) (h1 : k < s.size) (h2 : k < t.size) : xorB (s.data.toList.take (k + 1)) (t.data.toList.take (k + 1)) = xorB (s.data.toList.take k) (t.data.toList.take k) ++ [s[k] ^^^ t[k]] := by
  rw [take_snoc s k h1, take_snoc t k h2]
  unfold xorB
  rw [List.zipWith_append (by simp; omega)]
  rfl

set_option maxHeartbeats 400000 in
theorem turned_any (s t : ByteArray) (hs : s.size ≤ 300) (ht : t.size = s.size) (w : World) :
    Calls Tryd.prog 11 #[.string s, .string t] w fun e w' => e = .returned (.string ⟨(xorB s.data.toList t.data.toList).toArray⟩) ∧ Below w.heap.size w w' := by
  obtain ⟨i0, hi, hz0, hz1, hz2⟩ := info_parts info_u8
  have hts : t.size ≤ 300 := by omega
  have HT := Lib.hid ht
  clear ht
  go_enter Tryd.func11, Tryd.ntmps11
  go_wp2
  go_loopw [5, 6] (fun v i wr => ∃ k : Nat, k ≤ s.size ∧ i = .int .i64 k ∧ wr.ownsRow w.heap.size 5 1 v k (encB (xorB (s.data.toList.take k) (t.data.toList.take k))) ∧ Below w.heap.size w wr) (fun _ i _ => s.size - (intOf i).toNat)
  case atStart => exact ⟨0, by omega, rfl, World.ownsRow_nil _ _ _ _, Below.refl _ _⟩
  case round =>
    obtain ⟨k, hk, rfl, hrow, hB⟩ := hrel
    by_cases hlt : k < s.size
    · have hlt2 : k < t.size := by have := HT.out; omega
      have h300 : (k : Int) < 300 := by omega
      have hx : bits .xor .u8 (s[k].toNat : Int) (t[k].toNat : Int) = (((s[k] ^^^ t[k]).toNat : Nat) : Int) := by
        rw [u8_xor_nat _ _ (UInt8.toNat_lt _) (UInt8.toNat_lt _), UInt8.toNat_xor]
      have HX := Lib.hid (xorB_snoc s t k hlt hlt2)
      have hc1 : (k : Int) < (s.size : Int) := by omega
      have hc2 : (k : Int) < (t.size : Int) := by omega
      have hc0 : (0 : Int) ≤ (k : Int) := by omega
      generalize s[k] ^^^ t[k] = y at *
      go_wp2
      go_region_law (refine step_append_own rfl (.tmp 23) (.tmp 31) 29 rfl w.heap.size 5 i0 (.int .u8 0) 1 1 Tryd.underlying29 hi hz0 hz1 hz2 rfl (by decide) _ _ _ (by simp [Act.eval]) (hrow.drew.alloc _) ⟨wr.heap.size, 0, none⟩ 1 1 [.int .u8 (y.toNat : Int)] (by simp [Act.eval]) rfl (cell_one_new _ _ _) (by simp [Value.oneCell']) (by unfold maxLen; omega) (by omega) (by have := hB.size; simp; omega) ?_; intro v' w1 hown' hgrow)
      all_goals
       go_wp2
       go_roundw
       case rel => exact ⟨k + 1, by omega, by go_num, by rw [HX.out]; simpa [encB] using hown', (hB.drew.alloc hB.size _).grown hgrow (by have := hB.size; simp; omega) (fun j e => (hrow.lt j e).1)⟩
       case measure => simp [intOf]; omega
    · have hlt2 : ¬ k < t.size := by have := HT.out; omega
      have hl1 : s.data.toList.take k = s.data.toList := List.take_of_length_le (by simp; omega)
      have hl2 : t.data.toList.take k = t.data.toList := List.take_of_length_le (by simp; omega)
      rw [hl1, hl2] at hrow
      have hcv := conv_own (by have := HT.out; simp [xorB]; omega) hrow
      clear hl1 hl2
      go_wp2
      go_ret
      exact ⟨rfl, hB⟩

end Go.Proofs.YtlmimmdaniggiaaDoor
