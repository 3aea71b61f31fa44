/- Orders of values, of pairs of a value and a number: total, and what they call even is the same. No program in sight. -/
import Derived.Test.YtifaaacbbjlffaaDoorValPlain
namespace Mor

/-- a total order, by a number -/
structure Wk {α : Type} (c : α → α → Int) : Prop where
  three : ∀ a b, c a b = -1 ∨ c a b = 0 ∨ c a b = 1
  anti : ∀ a b, c b a = - c a b
  tr : ∀ a b d, c a b ≤ 0 → c b d ≤ 0 → c a d ≤ 0

section
variable {α β : Type} {c d : α → α → Int}
theorem Wk.self (h : Wk c) (a : α) : c a a = 0 := by have := h.anti a a; omega
theorem Wk.even (h : Wk c) {a b e : α} (h1 : c a b ≤ 0) (h2 : c b e ≤ 0) (h3 : c a e = 0) : c a b = 0 ∧ c b e = 0 := by
  have a1 := h.anti a e
  have a2 := h.anti a b
  have a3 := h.anti b e
  have t1 := h.tr b e a h2 (by omega)
  have t2 := h.tr e a b (by omega) h1
  omega
theorem Wk.lt_tr (h : Wk c) {a b e : α} (h1 : c a b < 0) (h2 : c b e ≤ 0) : c a e < 0 := by
  have t := h.tr a b e (by omega) h2
  have := h.even (a := a) (b := b) (e := e) (by omega) h2
  omega
theorem Wk.le_lt (h : Wk c) {a b e : α} (h1 : c a b ≤ 0) (h2 : c b e < 0) : c a e < 0 := by
  have t := h.tr a b e h1 (by omega)
  have := h.even (a := a) (b := b) (e := e) h1 (by omega)
  omega
theorem Wk.comap (h : Wk c) (f : β → α) : Wk (fun x y => c (f x) (f y)) := ⟨fun _ _ => h.three _ _, fun _ _ => h.anti _ _, fun _ _ _ => h.tr _ _ _⟩

def thenC (c d : α → α → Int) (a b : α) : Int := if c a b ≠ 0 then c a b else d a b
theorem Wk.thenC (h : Wk c) (k : Wk d) : Wk (thenC c d) := by
  refine ⟨fun a b => ?_, fun a b => ?_, fun a b e h1 h2 => ?_⟩
  · unfold Mor.thenC; split
    · exact h.three _ _
    · exact k.three _ _
  · unfold Mor.thenC
    have := h.anti a b
    have := k.anti a b
    by_cases x : c a b = 0
    · rw [if_neg (by omega), if_neg (by omega)]; assumption
    · rw [if_pos (by omega), if_pos (by omega)]; assumption
  · unfold Mor.thenC at *
    have q1 : c a b ≤ 0 := by split at h1 <;> omega
    have q2 : c b e ≤ 0 := by split at h2 <;> omega
    have q3 := h.tr _ _ _ q1 q2
    split
    · exact q3
    · rename_i x
      obtain ⟨e1, e2⟩ := h.even q1 q2 (by omega)
      rw [if_neg (by omega)] at h1 h2
      exact k.tr _ _ _ h1 h2
theorem thenC_zero {a b : α} : thenC c d a b = 0 ↔ c a b = 0 ∧ d a b = 0 := by unfold thenC; split <;> omega

def lexL (c : α → α → Int) : List α → List α → Int
  | [], [] => 0
  | [], _ :: _ => -1
  | _ :: _, [] => 1
  | a :: l, b :: r => if c a b ≠ 0 then c a b else lexL c l r
theorem lexL_three (h : Wk c) : ∀ l r, lexL c l r = -1 ∨ lexL c l r = 0 ∨ lexL c l r = 1
  | [], [] => by simp [lexL]
  | [], _ :: _ => by simp [lexL]
  | _ :: _, [] => by simp [lexL]
  | a :: l, b :: r => by
    rw [lexL]; split
    · exact h.three _ _
    · exact lexL_three h l r
theorem lexL_anti (h : Wk c) : ∀ l r, lexL c r l = - lexL c l r
  | [], [] => by simp [lexL]
  | [], _ :: _ => by simp [lexL]
  | _ :: _, [] => by simp [lexL]
  | a :: l, b :: r => by
    rw [lexL, lexL]
    have := h.anti a b
    have ih := lexL_anti h l r
    by_cases x : c a b = 0
    · rw [if_neg (by omega), if_neg (by omega)]; exact ih
    · rw [if_pos (by omega), if_pos (by omega)]; exact this
theorem lexL_tr (h : Wk c) : ∀ l m r, lexL c l m ≤ 0 → lexL c m r ≤ 0 → lexL c l r ≤ 0
  | [], _, [], _, _ => by simp [lexL]
  | [], _, _ :: _, _, _ => by simp [lexL]
  | _ :: _, [], _, h1, _ => by simp [lexL] at h1
  | _ :: _, _ :: _, [], _, h2 => by simp [lexL] at h2
  | a :: l, b :: m, e :: r, h1, h2 => by
    rw [lexL] at *
    have q1 : c a b ≤ 0 := by split at h1 <;> omega
    have q2 : c b e ≤ 0 := by split at h2 <;> omega
    have q3 := h.tr _ _ _ q1 q2
    split
    · exact q3
    · rename_i x
      obtain ⟨e1, e2⟩ := h.even q1 q2 (by omega)
      rw [if_neg (by omega)] at h1 h2
      exact lexL_tr h l m r h1 h2
theorem Wk.lexL (h : Wk c) : Wk (lexL c) := ⟨lexL_three h, lexL_anti h, lexL_tr h⟩
theorem lexL_zero (h : ∀ a b, c a b = 0 ↔ a = b) : ∀ l r, Mor.lexL c l r = 0 ↔ l = r
  | [], [] => by simp [Mor.lexL]
  | [], _ :: _ => by simp [Mor.lexL]
  | _ :: _, [] => by simp [Mor.lexL]
  | a :: l, b :: r => by
    have ih := lexL_zero h l r
    have hab := h a b
    rw [Mor.lexL, List.cons.injEq]
    split <;> simp_all
end

theorem wk_ordI : Wk ordI := ⟨fun a b => by unfold ordI; split <;> (try split) <;> simp, fun a b => by unfold ordI; split <;> (try split) <;> (try split) <;> (try split) <;> omega, fun a b d => by
  unfold ordI; intro h1 h2
  have q1 : a ≤ b := by split at h1 <;> (try split at h1) <;> omega
  have q2 : b ≤ d := by split at h2 <;> (try split at h2) <;> omega
  by_cases x : a < d
  · rw [if_pos x]; omega
  · rw [if_neg x, if_neg (by omega)]; omega⟩
def ordB (a b : UInt8) : Int := ordI a.toNat b.toNat
theorem wk_ordB : Wk ordB := wk_ordI.comap fun a : UInt8 => (a.toNat : Int)
theorem ordB_eq (a b : UInt8) : ordB a b = if a < b then -1 else if b < a then 1 else 0 := by
  unfold ordB ordI
  simp only [UInt8.lt_iff_toNat_lt, Int.ofNat_lt]
theorem ordS_lex : ∀ l r, ordS l r = lexL ordB l r
  | [], [] => rfl
  | [], _ :: _ => rfl
  | _ :: _, [] => rfl
  | a :: l, b :: r => by
    rw [ordS, lexL, ordS_lex l r, ordB_eq]
    by_cases h1 : a < b
    · simp [h1]
    · by_cases h2 : b < a
      · simp [h1, h2]
      · simp [h1, h2]
theorem wk_ordS : Wk ordS := by have := wk_ordB.lexL; rwa [show lexL ordB = ordS from funext fun l => funext fun r => (ordS_lex l r).symm] at this

theorem fst3_then {α : Type} (x y z : α → α → Int) (a b : α) : fst3 (x a b) (y a b) (z a b) = thenC x (thenC y z) a b := by unfold fst3 thenC; rfl
theorem cmpP_then : cmpP = thenC (fun p q => ordI p.k q.k) (thenC (fun p q => ordI p.n q.n) (fun p q => ordS p.s.data.toList q.s.data.toList)) := rfl
theorem wk_cmpP : Wk cmpP := by
  rw [cmpP_then]
  exact (wk_ordI.comap Pv.k).thenC ((wk_ordI.comap Pv.n).thenC (wk_ordS.comap fun p : Pv => p.s.data.toList))
theorem bytes_inj {a b : ByteArray} (h : a.data.toList = b.data.toList) : a = b := by
  cases a; cases b; simp only [ByteArray.mk.injEq]; exact Array.toList_inj.1 h
theorem cmpP_zero (p q : Pv) : cmpP p q = 0 ↔ p = q := by
  rw [cmpP_then, thenC_zero, thenC_zero]
  constructor
  · rintro ⟨h1, h2, h3⟩
    cases p; cases q
    simp only [Pv.mk.injEq]
    exact ⟨ordI_zero.1 h1, ordI_zero.1 h2, bytes_inj (ordS_zero.1 h3)⟩
  · rintro rfl
    exact ⟨ordI_self _, ordI_self _, ordS_self _⟩
theorem cmpL_lex : ∀ l r, cmpL l r = lexL cmpP l r
  | [], [] => rfl
  | [], _ :: _ => rfl
  | _ :: _, [] => rfl
  | a :: l, b :: r => by rw [cmpL, lexL, cmpL_lex l r]
theorem wk_cmpL : Wk cmpL := by have := wk_cmpP.lexL; rwa [show lexL cmpP = cmpL from funext fun l => funext fun r => (cmpL_lex l r).symm] at this
theorem cmpV_then : cmpV = thenC (thenC (fun p q => ordI p.k q.k) (thenC (fun p q => ordI p.n q.n) (fun p q => ordS p.s.data.toList q.s.data.toList))) (fun p q => cmpL p.l q.l) := rfl
theorem wk_cmpV : Wk cmpV := by
  rw [cmpV_then]
  exact ((wk_ordI.comap Vl.k).thenC ((wk_ordI.comap Vl.n).thenC (wk_ordS.comap fun p : Vl => p.s.data.toList))).thenC (wk_cmpL.comap Vl.l)
theorem cmpV_zero (p q : Vl) : cmpV p q = 0 ↔ p = q := by
  rw [cmpV_then, thenC_zero, thenC_zero, thenC_zero]
  constructor
  · rintro ⟨⟨h1, h2, h3⟩, h4⟩
    cases p; cases q
    simp only [Vl.mk.injEq]
    refine ⟨ordI_zero.1 h1, ordI_zero.1 h2, bytes_inj (ordS_zero.1 h3), ?_⟩
    rw [cmpL_lex] at h4
    exact (lexL_zero cmpP_zero _ _).1 h4
  · rintro rfl
    exact ⟨⟨ordI_self _, ordI_self _, ordS_self _⟩, wk_cmpL.self _⟩

/-- a pair of a value and a number -/
abbrev Pr := Vl × Int
def ordP : Pr → Pr → Int := thenC (fun p q => cmpV p.1 q.1) (fun p q => ordI p.2 q.2)
theorem wk_ordP : Wk ordP := (wk_cmpV.comap Prod.fst).thenC (wk_ordI.comap Prod.snd)
theorem ordP_zero (p q : Pr) : ordP p q = 0 ↔ p = q := by
  unfold ordP
  rw [thenC_zero]
  constructor
  · rintro ⟨h1, h2⟩
    exact Prod.ext ((cmpV_zero _ _).1 h1) (ordI_zero.1 h2)
  · rintro rfl
    exact ⟨wk_cmpV.self _, ordI_self _⟩
end Mor
