/- A text by the reference's scan is a text by the program's: UTF-8, in plain Lean. -/
import Derived.Test.YtifaaacbbjlffaaDoorValText
namespace Mor
open Go.Lib

def needN (b0 : Nat) : Nat := if 194 ≤ b0 ∧ b0 ≤ 223 then 2 else if 224 ≤ b0 ∧ b0 ≤ 239 then 3 else if 240 ≤ b0 ∧ b0 ≤ 244 then 4 else 0
def loN (b0 : Nat) : Nat := if b0 = 224 then 160 else if b0 = 240 then 144 else 128
def hiN (b0 : Nat) : Nat := if b0 = 237 then 159 else if b0 = 244 then 143 else 191
def midB (b : Nat) : Prop := 128 ≤ b ∧ b ≤ 191
instance (b : Nat) : Decidable (midB b) := by unfold midB; infer_instance
/-- how many bytes the first sign has, of n bytes that begin so; 0: none is right -/
def signN (n b0 b1 b2 b3 : Nat) : Nat :=
  if n = 0 then 0 else if b0 < 128 then 1
  else if needN b0 = 0 then 0 else if n < needN b0 then 0
  else if b1 < loN b0 ∨ hiN b0 < b1 then 0
  else if 2 < needN b0 ∧ ¬ midB b2 then 0
  else if 3 < needN b0 ∧ ¬ midB b3 then 0
  else needN b0
theorem sign2 (n b0 b1 b2 b3 : Nat) (hn : n ≠ 0) (h1 : b1 < 256) (a : 194 ≤ b0) (b : b0 ≤ 223) : (signN n b0 b1 b2 b3 = 0 → decodeN n b0 b1 b2 b3 = (65533, 1)) ∧ (signN n b0 b1 b2 b3 ≠ 0 → (decodeN n b0 b1 b2 b3).2 = signN n b0 b1 b2 b3 ∧ 1 < signN n b0 b1 b2 b3 ∧ 128 ≤ (decodeN n b0 b1 b2 b3).1) := by
  have e1 : needN b0 = 2 := by unfold needN; rw [if_pos ⟨a, b⟩]
  have e2 : loN b0 = 128 := by unfold loN; rw [if_neg (by omega), if_neg (by omega)]
  have e3 : hiN b0 = 191 := by unfold hiN; rw [if_neg (by omega), if_neg (by omega)]
  unfold signN decodeN
  rw [e1, e2, e3, if_neg hn, if_neg (show ¬ b0 < 128 by omega), if_neg (show ¬ b0 < 128 by omega), if_neg (show ¬ 2 = 0 by omega)]
  by_cases c : n < 2
  · rw [if_pos c, if_neg (by omega), if_neg (by omega), if_neg (by omega)]; simp
  · rw [if_neg c]
    by_cases d : b1 < 128 ∨ 191 < b1
    · rw [if_pos d, if_neg (by omega), if_neg (by omega), if_neg (by omega)]; simp
    · rw [if_neg d, if_neg (by omega), if_neg (by omega), if_pos (by omega), if_pos (by omega)]
      exact ⟨fun h => absurd h (by omega), fun _ => ⟨rfl, by omega, by simp only; omega⟩⟩
set_option maxHeartbeats 2000000 in
theorem sign3 (n b0 b1 b2 b3 : Nat) (hn : n ≠ 0) (h1 : b1 < 256) (h2 : b2 < 256) (a : 224 ≤ b0) (b : b0 ≤ 239) : (signN n b0 b1 b2 b3 = 0 → decodeN n b0 b1 b2 b3 = (65533, 1)) ∧ (signN n b0 b1 b2 b3 ≠ 0 → (decodeN n b0 b1 b2 b3).2 = signN n b0 b1 b2 b3 ∧ 1 < signN n b0 b1 b2 b3 ∧ 128 ≤ (decodeN n b0 b1 b2 b3).1) := by
  have e1 : needN b0 = 3 := by unfold needN; rw [if_neg (by omega), if_pos ⟨a, b⟩]
  have e2 : loN b0 = 160 ∧ b0 = 224 ∨ loN b0 = 128 ∧ b0 ≠ 224 := by
    unfold loN
    by_cases h : b0 = 224
    · rw [if_pos h]; exact .inl ⟨rfl, h⟩
    · rw [if_neg h, if_neg (by omega)]; exact .inr ⟨rfl, h⟩
  have e3 : hiN b0 = 159 ∧ b0 = 237 ∨ hiN b0 = 191 ∧ b0 ≠ 237 := by
    unfold hiN
    by_cases h : b0 = 237
    · rw [if_pos h]; exact .inl ⟨rfl, h⟩
    · rw [if_neg h, if_neg (by omega)]; exact .inr ⟨rfl, h⟩
  unfold signN decodeN
  rw [e1, if_neg hn, if_neg (show ¬ b0 < 128 by omega), if_neg (show ¬ b0 < 128 by omega), if_neg (show ¬ 3 = 0 by omega)]
  generalize loN b0 = lo at *
  generalize hiN b0 = hi at *
  rw [if_neg (show ¬ (b0 / 32 = 6 ∧ (1 < n ∧ b1 / 64 = 2)) by omega)]
  by_cases c : n < 3
  · rw [if_pos c, if_neg (by omega), if_neg (by omega)]; simp
  · rw [if_neg c]
    by_cases d : b1 < lo ∨ hi < b1
    · rw [if_pos d]
      by_cases g : b0 / 16 = 14 ∧ (1 < n ∧ b1 / 64 = 2) ∧ (2 < n ∧ b2 / 64 = 2)
      · rw [if_pos g, if_neg (by omega)]; simp
      · rw [if_neg g, if_neg (by omega)]; simp
    · rw [if_neg d]
      by_cases m : midB b2
      · unfold midB at m
        rw [if_neg (by unfold midB; omega), if_neg (by omega), if_pos (by omega), if_pos (by omega)]
        exact ⟨fun h => absurd h (by omega), fun _ => ⟨rfl, by omega, by simp only; omega⟩⟩
      · rw [if_pos ⟨by omega, m⟩]
        unfold midB at m
        rw [if_neg (by omega), if_neg (by omega)]; simp
set_option maxHeartbeats 2000000 in
theorem sign4 (n b0 b1 b2 b3 : Nat) (hn : n ≠ 0) (h1 : b1 < 256) (h2 : b2 < 256) (h3 : b3 < 256) (a : 240 ≤ b0) (b : b0 ≤ 244) : (signN n b0 b1 b2 b3 = 0 → decodeN n b0 b1 b2 b3 = (65533, 1)) ∧ (signN n b0 b1 b2 b3 ≠ 0 → (decodeN n b0 b1 b2 b3).2 = signN n b0 b1 b2 b3 ∧ 1 < signN n b0 b1 b2 b3 ∧ 128 ≤ (decodeN n b0 b1 b2 b3).1) := by
  have e1 : needN b0 = 4 := by unfold needN; rw [if_neg (by omega), if_neg (by omega), if_pos ⟨a, b⟩]
  have e2 : loN b0 = 144 ∧ b0 = 240 ∨ loN b0 = 128 ∧ b0 ≠ 240 := by
    unfold loN
    rw [if_neg (by omega)]
    by_cases h : b0 = 240
    · rw [if_pos h]; exact .inl ⟨rfl, h⟩
    · rw [if_neg h]; exact .inr ⟨rfl, h⟩
  have e3 : hiN b0 = 143 ∧ b0 = 244 ∨ hiN b0 = 191 ∧ b0 ≠ 244 := by
    unfold hiN
    rw [if_neg (by omega)]
    by_cases h : b0 = 244
    · rw [if_pos h]; exact .inl ⟨rfl, h⟩
    · rw [if_neg h]; exact .inr ⟨rfl, h⟩
  unfold signN decodeN
  rw [e1, if_neg hn, if_neg (show ¬ b0 < 128 by omega), if_neg (show ¬ b0 < 128 by omega), if_neg (show ¬ 4 = 0 by omega)]
  generalize loN b0 = lo at *
  generalize hiN b0 = hi at *
  rw [if_neg (show ¬ (b0 / 32 = 6 ∧ (1 < n ∧ b1 / 64 = 2)) by omega), if_neg (show ¬ (b0 / 16 = 14 ∧ (1 < n ∧ b1 / 64 = 2) ∧ (2 < n ∧ b2 / 64 = 2)) by omega)]
  by_cases c : n < 4
  · rw [if_pos c, if_neg (by omega)]; simp
  · rw [if_neg c]
    by_cases d : b1 < lo ∨ hi < b1
    · rw [if_pos d]
      by_cases g : b0 / 8 = 30 ∧ (1 < n ∧ b1 / 64 = 2) ∧ (2 < n ∧ b2 / 64 = 2) ∧ (3 < n ∧ b3 / 64 = 2)
      · rw [if_pos g, if_neg (by omega)]; simp
      · rw [if_neg g]; simp
    · rw [if_neg d]
      by_cases m : midB b2
      · by_cases m' : midB b3
        · unfold midB at m m'
          rw [if_neg (by unfold midB; omega), if_neg (by unfold midB; omega), if_pos (by omega), if_pos (by omega)]
          exact ⟨fun h => absurd h (by omega), fun _ => ⟨rfl, by omega, by simp only; omega⟩⟩
        · rw [if_neg (fun h => h.2 m), if_pos ⟨by omega, m'⟩]
          unfold midB at m'
          rw [if_neg (by omega)]; simp
      · rw [if_pos ⟨by omega, m⟩]
        unfold midB at m
        rw [if_neg (by omega)]; simp
theorem sign_dec (n b0 b1 b2 b3 : Nat) (hn : n ≠ 0) (h0 : b0 < 256) (h1 : b1 < 256) (h2 : b2 < 256) (h3 : b3 < 256) (hb : 128 ≤ b0) : (signN n b0 b1 b2 b3 = 0 → decodeN n b0 b1 b2 b3 = (65533, 1)) ∧ (signN n b0 b1 b2 b3 ≠ 0 → (decodeN n b0 b1 b2 b3).2 = signN n b0 b1 b2 b3 ∧ 1 < signN n b0 b1 b2 b3 ∧ 128 ≤ (decodeN n b0 b1 b2 b3).1) := by
  by_cases c2 : 194 ≤ b0 ∧ b0 ≤ 223
  · exact sign2 n b0 b1 b2 b3 hn h1 c2.1 c2.2
  · by_cases c3 : 224 ≤ b0 ∧ b0 ≤ 239
    · exact sign3 n b0 b1 b2 b3 hn h1 h2 c3.1 c3.2
    · by_cases c4 : 240 ≤ b0 ∧ b0 ≤ 244
      · exact sign4 n b0 b1 b2 b3 hn h1 h2 h3 c4.1 c4.2
      · have e1 : needN b0 = 0 := by unfold needN; rw [if_neg c2, if_neg c3, if_neg c4]
        have es : signN n b0 b1 b2 b3 = 0 := by unfold signN; rw [e1, if_neg hn, if_neg (by omega), if_pos rfl]
        refine ⟨fun _ => ?_, fun h => absurd es h⟩
        unfold decodeN
        rw [if_neg (by omega)]
        by_cases g : b0 / 32 = 6 ∧ (1 < n ∧ b1 / 64 = 2)
        · rw [if_pos g, if_neg (by omega)]
        · rw [if_neg g, if_neg (by omega)]
          by_cases g' : b0 / 8 = 30 ∧ (1 < n ∧ b1 / 64 = 2) ∧ (2 < n ∧ b2 / 64 = 2) ∧ (3 < n ∧ b3 / 64 = 2)
          · rw [if_pos g', if_neg (by omega)]
          · rw [if_neg g']
def by_ (l : List UInt8) (i : Nat) : Nat := (l.getD i 0).toNat
def signL (l : List UInt8) : Nat := signN l.length (by_ l 0) (by_ l 1) (by_ l 2) (by_ l 3)
def isTextGo : Nat → List UInt8 → Bool
  | 0, _ => true
  | f + 1, l => if l = [] then true else if signL l = 0 ∨ by_ l 0 < 32 ∨ by_ l 0 = 127 then false else isTextGo f (l.drop (signL l))
/-- a text, by the reference -/
def isTextL (l : List UInt8) : Bool := isTextGo l.length l
theorem by_lt (l : List UInt8) (i : Nat) : by_ l i < 256 := UInt8.toNat_lt _
theorem signL_le (l : List UInt8) : signL l ≤ l.length := by
  unfold signL signN
  split
  · omega
  · split
    · omega
    · split
      · omega
      · split
        · omega
        · split
          · omega
          · split
            · omega
            · split <;> omega
theorem text_go : ∀ (f : Nat) (l : List UInt8), l.length ≤ f → isTextGo f l = (validD l && plainS l)
  | 0, l, h => by
    have : l = [] := List.eq_nil_of_length_eq_zero (by omega)
    subst this; rfl
  | f + 1, l, h => by
    unfold isTextGo
    by_cases hl : l = []
    · subst hl; rfl
    · rw [if_neg hl, validD_step l hl, plainS_step l hl]
      have hlen : l.length ≠ 0 := fun e => hl (List.eq_nil_of_length_eq_zero e)
      have hd : decodeL l = decodeN l.length (by_ l 0) (by_ l 1) (by_ l 2) (by_ l 3) := decodeL_N l
      by_cases hb : by_ l 0 < 128
      · have hs : signL l = 1 := by unfold signL signN; rw [if_neg hlen, if_pos hb]
        have hdl : decodeL l = (by_ l 0, 1) := by rw [hd]; unfold decodeN; rw [if_pos hb]
        have ih := text_go f (l.drop 1) (by rw [List.length_drop]; omega)
        rw [hs, hdl, ih]
        simp only
        rw [if_neg (show ¬ (by_ l 0 = 65533 ∧ True) by omega)]
        by_cases hp : by_ l 0 < 32 ∨ by_ l 0 = 127
        · rw [if_pos (by omega), if_neg (show ¬ plainR (by_ l 0) = true by unfold plainR; rw [decide_eq_true_eq]; omega)]
          simp
        · rw [if_neg (by omega), if_pos (show plainR (by_ l 0) = true by unfold plainR; rw [decide_eq_true_eq]; omega)]
      · obtain ⟨k1, k2⟩ := sign_dec l.length (by_ l 0) (by_ l 1) (by_ l 2) (by_ l 3) hlen (by_lt _ _) (by_lt _ _) (by_lt _ _) (by_lt _ _) (by omega)
        have hdN : decodeL l = decodeN l.length (by_ l 0) (by_ l 1) (by_ l 2) (by_ l 3) := hd
        have hsN : signL l = signN l.length (by_ l 0) (by_ l 1) (by_ l 2) (by_ l 3) := rfl
        rw [← hdN, ← hsN] at k1 k2
        by_cases hs : signL l = 0
        · rw [if_pos (.inl hs), k1 hs]
          simp
        · obtain ⟨q1, q2, q3⟩ := k2 hs
          have hle := signL_le l
          have ih := text_go f (l.drop (signL l)) (by rw [List.length_drop]; omega)
          rw [if_neg (show ¬ (signL l = 0 ∨ by_ l 0 < 32 ∨ by_ l 0 = 127) by omega), if_neg (show ¬ ((decodeL l).1 = 65533 ∧ (decodeL l).2 = 1) by omega), q1, if_pos (show plainR (decodeL l).1 = true by unfold plainR; rw [decide_eq_true_eq]; omega), ih]
theorem text_same (l : List UInt8) : isTextL l = (validD l && plainS l) := text_go _ l (Nat.le_refl _)
theorem isTextGo_fuel (f g : Nat) (l : List UInt8) (h1 : l.length ≤ f) (h2 : l.length ≤ g) : isTextGo f l = isTextGo g l := (text_go f l h1).trans (text_go g l h2).symm
theorem isTextL_step (l : List UInt8) (hl : l ≠ []) : isTextL l = if signL l = 0 ∨ by_ l 0 < 32 ∨ by_ l 0 = 127 then false else isTextL (l.drop (signL l)) := by
  have hlen : 0 < l.length := List.length_pos_iff.2 hl
  obtain ⟨n, hn⟩ : ∃ n, l.length = n + 1 := ⟨l.length - 1, by omega⟩
  unfold isTextL
  rw [hn]
  show (if l = [] then true else _) = _
  rw [if_neg hl]
  by_cases h : signL l = 0 ∨ by_ l 0 < 32 ∨ by_ l 0 = 127
  · rw [if_pos h, if_pos h]
  · rw [if_neg h, if_neg h, isTextGo_fuel n (l.drop (signL l)).length _ (by rw [List.length_drop]; omega) (Nat.le_refl _)]
end Mor
