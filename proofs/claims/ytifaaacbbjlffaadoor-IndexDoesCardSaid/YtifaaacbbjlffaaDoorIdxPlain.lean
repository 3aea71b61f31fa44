/- The index in plain Lean: balanced trees, what they hold in order, pairs put and dropped, ranges. No program in sight. -/
import Derived.Test.YtifaaacbbjlffaaDoorOrd
namespace Mor

inductive Tr where
  | nil
  | node (l : Tr) (v : Vl) (i : Int) (r : Tr)
namespace Tr
def h : Tr → Nat
  | nil => 0
  | node l _ _ r => 1 + max l.h r.h
def toL : Tr → List Pr
  | nil => []
  | node l v i r => l.toL ++ (v, i) :: r.toL
def rotL : Tr → Tr
  | node a v i (node b u j c) => node (node a v i b) u j c
  | t => t
def rotR : Tr → Tr
  | node (node a v i b) u j c => node a v i (node b u j c)
  | t => t
def lh : Tr → Nat
  | nil => 0
  | node l _ _ _ => l.h
def rh : Tr → Nat
  | nil => 0
  | node _ _ _ r => r.h
def bal (l : Tr) (v : Vl) (i : Int) (r : Tr) : Tr :=
  if r.h + 1 < l.h then rotR (node (if l.lh < l.rh then rotL l else l) v i r)
  else if l.h + 1 < r.h then rotL (node l v i (if r.rh < r.lh then rotR r else r))
  else node l v i r
def put (p : Pr) : Tr → Tr
  | nil => node nil p.1 p.2 nil
  | node l v i r => if 0 < ordP (v, i) p then bal (put p l) v i r else bal l v i (put p r)
/-- the first pair -/
def low (d : Pr) : Tr → Pr
  | nil => d
  | node l v i _ => low (v, i) l
def drop : Tr → Pr → Tr
  | nil, _ => nil
  | node l v i r, p =>
    if 0 < ordP (v, i) p then bal (drop l p) v i r
    else if ordP (v, i) p < 0 then bal l v i (drop r p)
    else match l, r with
      | nil, r => r
      | l, nil => l
      | l, node rl rv ri rr => bal l (low (rv, ri) rl).1 (low (rv, ri) rl).2 (drop (node rl rv ri rr) (low (rv, ri) rl))
def n : Tr → Nat
  | nil => 0
  | node l _ _ r => l.n + r.n + 1
theorem h_le : ∀ t : Tr, t.h ≤ t.n
  | nil => Nat.le_refl _
  | node l _ _ r => by have := h_le l; have := h_le r; simp only [h, n]; omega
theorem n_toL : ∀ t : Tr, t.toL.length = t.n
  | nil => rfl
  | node l _ _ r => by simp only [toL, n, List.length_append, List.length_cons, n_toL l, n_toL r]; omega

theorem toL_rotL : ∀ t : Tr, (rotL t).toL = t.toL
  | nil => rfl
  | node _ _ _ nil => rfl
  | node a v i (node b u j c) => by simp [rotL, toL]
theorem toL_rotR : ∀ t : Tr, (rotR t).toL = t.toL
  | nil => rfl
  | node nil _ _ _ => rfl
  | node (node a v i b) u j c => by simp [rotR, toL]
theorem toL_bal (l : Tr) (v : Vl) (i : Int) (r : Tr) : (bal l v i r).toL = l.toL ++ (v, i) :: r.toL := by
  unfold bal
  split
  · rw [toL_rotR, toL]; split
    · rw [toL_rotL]
    · rfl
  · split
    · rw [toL_rotL, toL]; split
      · rw [toL_rotR]
      · rfl
    · rfl
end Tr

/-- pairs, each ahead of all behind it -/
def Sorted : List Pr → Prop := List.Pairwise fun p q => ordP p q < 0
def ins (p : Pr) : List Pr → List Pr
  | [] => [p]
  | q :: l => if 0 < ordP q p then p :: q :: l else q :: ins p l
def del (p : Pr) (l : List Pr) : List Pr := l.filter fun q => decide (ordP q p ≠ 0)
def has (p : Pr) (l : List Pr) : Bool := l.any fun q => decide (ordP q p = 0)

theorem ordP_flip (p q : Pr) : ordP q p = - ordP p q := wk_ordP.anti p q
theorem has_iff {p : Pr} {l : List Pr} : has p l = true ↔ p ∈ l := by
  unfold has
  rw [List.any_eq_true]
  constructor
  · rintro ⟨q, hq, h⟩; rw [decide_eq_true_eq, ordP_zero] at h; exact h ▸ hq
  · intro h; exact ⟨p, h, by rw [decide_eq_true_eq, ordP_zero]⟩
theorem mem_ins {p q : Pr} : ∀ {l : List Pr}, q ∈ ins p l ↔ q = p ∨ q ∈ l
  | [] => by simp [ins]
  | x :: l => by
    unfold ins; split
    · simp
    · rw [List.mem_cons, mem_ins, List.mem_cons]
      constructor
      · rintro (h | h | h) <;> simp [h]
      · rintro (h | h | h) <;> simp [h]
theorem sorted_ins {p : Pr} : ∀ {l : List Pr}, Sorted l → p ∉ l → Sorted (ins p l)
  | [], _, _ => by simp [ins, Sorted]
  | q :: l, hs, hp => by
    have hs' := List.pairwise_cons.1 hs
    rw [List.mem_cons, not_or] at hp
    unfold ins; split
    · rename_i hlt
      have h1 : ordP p q < 0 := by have := ordP_flip q p; omega
      refine List.pairwise_cons.2 ⟨fun a ha => ?_, hs⟩
      rcases List.mem_cons.1 ha with rfl | ha
      · exact h1
      · exact wk_ordP.lt_tr h1 (by have := hs'.1 a ha; omega)
    · rename_i hlt
      refine List.pairwise_cons.2 ⟨fun a ha => ?_, sorted_ins hs'.2 hp.2⟩
      rcases mem_ins.1 ha with rfl | ha
      · have : ordP q a ≠ 0 := fun h => hp.1 ((ordP_zero _ _).1 h).symm
        omega
      · exact hs'.1 a ha
theorem ins_length (p : Pr) : ∀ l : List Pr, (ins p l).length = l.length + 1
  | [] => rfl
  | q :: l => by unfold ins; split <;> simp [ins_length p l]
theorem sorted_del {p : Pr} {l : List Pr} (h : Sorted l) : Sorted (del p l) := List.Pairwise.filter _ h
theorem mem_del {p q : Pr} {l : List Pr} : q ∈ del p l ↔ q ∈ l ∧ q ≠ p := by
  unfold del
  rw [List.mem_filter, decide_eq_true_eq, Ne, ordP_zero]
theorem del_none {p : Pr} {l : List Pr} (h : p ∉ l) : del p l = l := by
  unfold del
  rw [List.filter_eq_self]
  intro q hq
  rw [decide_eq_true_eq, Ne, ordP_zero]
  rintro rfl; exact h hq
theorem sorted_nodup {l : List Pr} (h : Sorted l) : l.Nodup := by
  refine List.Pairwise.imp ?_ h
  rintro a b h rfl
  rw [wk_ordP.self] at h; omega
/-- what is in them says which they are -/
theorem sorted_ext : ∀ {l m : List Pr}, Sorted l → Sorted m → (∀ q, q ∈ l ↔ q ∈ m) → l = m
  | [], [], _, _, _ => rfl
  | [], b :: m, _, _, h => by have := (h b).2 (by simp); simp at this
  | a :: l, [], _, _, h => by have := (h a).1 (by simp); simp at this
  | a :: l, b :: m, h1, h2, h => by
    have k1 := List.pairwise_cons.1 h1
    have k2 := List.pairwise_cons.1 h2
    have e : a = b := by
      rcases List.mem_cons.1 ((h a).1 (by simp)) with e | e
      · exact e
      · rcases List.mem_cons.1 ((h b).2 (by simp)) with e' | e'
        · exact e'.symm
        · have q1 := k1.1 b e'; have q2 := k2.1 a e; have := ordP_flip a b; omega
    subst e
    rw [sorted_ext k1.2 k2.2 fun q => ?_]
    have hq := h q
    rw [List.mem_cons, List.mem_cons] at hq
    constructor
    · intro hl
      rcases hq.1 (.inr hl) with rfl | hm
      · have := k1.1 q hl; rw [wk_ordP.self] at this; omega
      · exact hm
    · intro hm
      rcases hq.2 (.inr hm) with rfl | hl
      · have := k2.1 q hm; rw [wk_ordP.self] at this; omega
      · exact hl
theorem del_length {p : Pr} {l : List Pr} (hs : Sorted l) (h : p ∈ l) : (del p l).length + 1 = l.length := by
  have : ins p (del p l) = l := sorted_ext (sorted_ins (sorted_del hs) (by rw [mem_del]; simp)) hs fun q => by
    rw [mem_ins, mem_del]
    constructor
    · rintro (rfl | h'); exact h; exact h'.1
    · intro h'; by_cases e : q = p
      · exact .inl e
      · exact .inr ⟨h', e⟩
  rw [← ins_length p (del p l), this]
theorem ins_del {p : Pr} {l : List Pr} (hs : Sorted l) (h : p ∈ l) : ins p (del p l) = l := sorted_ext (sorted_ins (sorted_del hs) (by rw [mem_del]; simp)) hs fun q => by
    rw [mem_ins, mem_del]
    constructor
    · rintro (rfl | h'); exact h; exact h'.1
    · intro h'; by_cases e : q = p
      · exact .inl e
      · exact .inr ⟨h', e⟩
theorem del_ins {p : Pr} {l : List Pr} (hs : Sorted l) (h : p ∉ l) : del p (ins p l) = l := sorted_ext (sorted_del (sorted_ins hs h)) hs fun q => by
    rw [mem_del, mem_ins]
    constructor
    · rintro ⟨h1 | h1, h2⟩; exact absurd h1 h2; exact h1
    · intro h'; exact ⟨.inr h', fun e => h (e ▸ h')⟩

theorem sorted_app {l m : List Pr} : Sorted (l ++ m) ↔ Sorted l ∧ Sorted m ∧ ∀ a ∈ l, ∀ b ∈ m, ordP a b < 0 := List.pairwise_append

theorem ins_app_left {p q : Pr} (h : 0 < ordP q p) (m : List Pr) : ∀ l : List Pr, ins p l ++ q :: m = ins p (l ++ q :: m)
  | [] => by simp [ins, h]
  | a :: l => by
    simp only [ins, List.cons_append]
    split
    · rfl
    · rw [List.cons_append, ins_app_left h m l]
theorem ins_app_right {p : Pr} (m : List Pr) : ∀ l : List Pr, (∀ a ∈ l, ordP a p ≤ 0) → l ++ ins p m = ins p (l ++ m)
  | [], _ => rfl
  | a :: l, h => by
    have h0 := h a (by simp)
    simp only [ins, List.cons_append]
    rw [if_neg (by omega), ins_app_right m l fun b hb => h b (by simp [hb])]

theorem toL_put (p : Pr) : ∀ t : Tr, Sorted t.toL → (t.put p).toL = ins p t.toL
  | .nil, _ => rfl
  | .node l v i r, hs => by
    rw [Tr.toL] at hs
    obtain ⟨h1, h2, h3⟩ := sorted_app.1 hs
    have h4 := List.pairwise_cons.1 h2
    unfold Tr.put; split
    · rename_i hlt
      rw [Tr.toL_bal, toL_put p l h1, Tr.toL, ins_app_left hlt]
    · rename_i hlt
      rw [Tr.toL_bal, toL_put p r h4.2, Tr.toL]
      have e : (v, i) :: ins p r.toL = ins p ((v, i) :: r.toL) := by rw [ins, if_neg hlt]
      rw [e]
      refine ins_app_right _ _ fun a ha => ?_
      have := h3 a ha (v, i) (by simp)
      exact wk_ordP.tr a (v, i) p (by omega) (by omega)

theorem low_toL : ∀ (t : Tr) (d : Pr), ∃ m, t.toL ++ d :: [] = Tr.low d t :: m
  | .nil, d => ⟨[], rfl⟩
  | .node l v i r, d => by
    obtain ⟨m, hm⟩ := low_toL l (v, i)
    refine ⟨m ++ r.toL ++ [d], ?_⟩
    rw [Tr.toL, Tr.low]
    have : l.toL ++ (v, i) :: r.toL ++ [d] = (l.toL ++ [(v, i)]) ++ (r.toL ++ [d]) := by simp
    rw [this, hm]; simp
theorem low_node (l : Tr) (v : Vl) (i : Int) (r : Tr) : ∃ m, (Tr.node l v i r).toL = Tr.low (v, i) l :: m := by
  obtain ⟨m, hm⟩ := low_toL l (v, i)
  refine ⟨m ++ r.toL, ?_⟩
  rw [Tr.toL, show l.toL ++ (v, i) :: r.toL = (l.toL ++ [(v, i)]) ++ r.toL by simp, hm]; rfl

theorem del_app (p : Pr) (l m : List Pr) : del p (l ++ m) = del p l ++ del p m := List.filter_append ..
theorem del_cons_ne {p q : Pr} (h : q ≠ p) (l : List Pr) : del p (q :: l) = q :: del p l := by
  unfold del; rw [List.filter_cons_of_pos]; rw [decide_eq_true_eq, Ne, ordP_zero]; exact h
theorem del_cons_eq (p : Pr) (l : List Pr) : del p (p :: l) = del p l := by
  unfold del; rw [List.filter_cons_of_neg]; rw [decide_eq_true_eq, Ne, ordP_zero]; simp
theorem not_mem_lt {p : Pr} {l : List Pr} (h : ∀ a ∈ l, ordP a p < 0) : p ∉ l := fun hp => by have := h p hp; rw [wk_ordP.self] at this; omega
theorem not_mem_gt {p : Pr} {l : List Pr} (h : ∀ a ∈ l, ordP p a < 0) : p ∉ l := fun hp => by have := h p hp; rw [wk_ordP.self] at this; omega

theorem toL_drop : ∀ (t : Tr) (p : Pr), Sorted t.toL → (t.drop p).toL = del p t.toL
  | .nil, _, _ => rfl
  | .node l v i r, p, hs => by
    rw [Tr.toL] at hs
    obtain ⟨h1, h2, h3⟩ := sorted_app.1 hs
    have h4 := List.pairwise_cons.1 h2
    have hl : ∀ a ∈ l.toL, ordP a (v, i) < 0 := fun a ha => h3 a ha (v, i) (by simp)
    unfold Tr.drop; split
    · rename_i hlt
      rw [Tr.toL_bal, toL_drop l p h1, Tr.toL, del_app, del_none (p := p) (l := (v, i) :: r.toL)]
      rw [List.mem_cons, not_or]
      have hp : ordP p (v, i) < 0 := by have := ordP_flip (v, i) p; omega
      exact ⟨fun e => by rw [e, wk_ordP.self] at hp; omega, not_mem_gt fun a ha => wk_ordP.lt_tr hp (by have := h4.1 a ha; omega)⟩
    · split
      · rename_i _ hlt
        rw [Tr.toL_bal, toL_drop r p h4.2, Tr.toL, del_app, del_cons_ne, del_none (p := p) (l := l.toL)]
        · exact not_mem_lt fun a ha => wk_ordP.lt_tr (hl a ha) (by omega)
        · intro e; rw [e, wk_ordP.self] at hlt; omega
      · rename_i g1 g2
        obtain rfl : (v, i) = p := (ordP_zero _ _).1 (by omega)
        have e1 : del (v, i) l.toL = l.toL := del_none (not_mem_lt hl)
        have e2 : del (v, i) r.toL = r.toL := del_none (not_mem_gt h4.1)
        rw [Tr.toL, del_app, del_cons_eq, e1, e2]
        split
        · rfl
        · simp [Tr.toL]
        · rename_i rl rv ri rr _
          obtain ⟨m, hm⟩ := low_node rl rv ri rr
          have hs' := h4.2
          rw [Tr.toL_bal, toL_drop _ _ hs', hm, del_cons_eq, del_none]
          rw [hm] at hs'
          exact not_mem_gt (List.pairwise_cons.1 hs').1

/-- whether a pair is in a tree, as it is looked for -/
def Tr.has (p : Pr) : Tr → Bool
  | nil => false
  | node l v i r => if ordP (v, i) p = 0 then true else if 0 < ordP (v, i) p then Tr.has p l else Tr.has p r
theorem has_tree (p : Pr) : ∀ t : Tr, Sorted t.toL → t.has p = Mor.has p t.toL
  | .nil, _ => rfl
  | .node l v i r, hs => by
    rw [Tr.toL] at hs
    obtain ⟨h1, h2, h3⟩ := sorted_app.1 hs
    have h4 := List.pairwise_cons.1 h2
    have hl : ∀ a ∈ l.toL, ordP a (v, i) < 0 := fun a ha => h3 a ha (v, i) (by simp)
    have ih1 := has_tree p l h1
    have ih2 := has_tree p r h4.2
    unfold Tr.has
    rw [Bool.eq_iff_iff, has_iff, Tr.toL, List.mem_append, List.mem_cons]
    split
    · rename_i h; simp [(ordP_zero _ _).1 h]
    · rename_i h
      have hne : p ≠ (v, i) := fun e => h (by rw [e, wk_ordP.self])
      split
      · rename_i hlt
        rw [ih1, has_iff]
        have hp : ordP p (v, i) < 0 := by have := ordP_flip (v, i) p; omega
        have : p ∉ r.toL := not_mem_gt fun a ha => wk_ordP.lt_tr hp (by have := h4.1 a ha; omega)
        simp [hne, this]
      · rename_i hlt
        rw [ih2, has_iff]
        have : p ∉ l.toL := not_mem_lt fun a ha => wk_ordP.lt_tr (hl a ha) (by omega)
        simp [hne, this]

/-- the side of a span at which a value lies -/
def side (lo hi v : Vl) : Int := if cmpV v lo < 0 then -1 else if 0 < cmpV v hi then 1 else 0
def rng (lo hi : Vl) (l : List Pr) : List Int := (l.filter fun q => decide (side lo hi q.1 = 0)).map (·.2)
def Tr.walk (lo hi : Vl) : Tr → List Int
  | nil => []
  | node l v i r => (if 0 ≤ side lo hi v then Tr.walk lo hi l else []) ++ (if side lo hi v = 0 then [i] else []) ++ (if side lo hi v ≤ 0 then Tr.walk lo hi r else [])
theorem ordP_fst {p q : Pr} (h : ordP p q < 0) : cmpV p.1 q.1 ≤ 0 := by
  unfold ordP thenC at h
  simp only at h
  split at h <;> omega
theorem rng_app (lo hi : Vl) (l m : List Pr) : rng lo hi (l ++ m) = rng lo hi l ++ rng lo hi m := by unfold rng; rw [List.filter_append, List.map_append]
theorem rng_none {lo hi : Vl} {l : List Pr} (h : ∀ q ∈ l, side lo hi q.1 ≠ 0) : rng lo hi l = [] := by
  unfold rng
  rw [List.filter_eq_nil_iff.2 fun q hq => by rw [decide_eq_true_eq]; exact h q hq]; rfl
theorem side_three (lo hi v : Vl) : side lo hi v = -1 ∨ side lo hi v = 0 ∨ side lo hi v = 1 := by unfold side; split <;> (try split) <;> simp
theorem side_down {lo hi v u : Vl} (h : side lo hi v < 0) (hu : cmpV u v ≤ 0) : side lo hi u ≠ 0 := by
  have hv : cmpV v lo < 0 := by unfold side at h; split at h <;> (try split at h) <;> omega
  have := wk_cmpV.le_lt hu hv
  unfold side; rw [if_pos this]; omega
theorem side_up {lo hi v u : Vl} (h : 0 < side lo hi v) (hu : cmpV v u ≤ 0) : side lo hi u ≠ 0 := by
  have hv : ¬ cmpV v lo < 0 ∧ 0 < cmpV v hi := by unfold side at h; split at h <;> (try split at h) <;> omega
  have a1 := wk_cmpV.anti v lo
  have a2 := wk_cmpV.anti v hi
  have a3 := wk_cmpV.anti u lo
  have a4 := wk_cmpV.anti u hi
  have t1 := wk_cmpV.tr lo v u (by omega) hu
  have t2 := wk_cmpV.lt_tr (a := hi) (b := v) (e := u) (by omega) hu
  unfold side; rw [if_neg (by omega), if_pos (by omega)]; omega
theorem rng_one (lo hi v : Vl) (i : Int) : rng lo hi [(v, i)] = if side lo hi v = 0 then [i] else [] := by
  unfold rng; by_cases h : side lo hi v = 0 <;> simp [h]
theorem walk_rng (lo hi : Vl) (t : Tr) : Sorted t.toL → t.walk lo hi = rng lo hi t.toL := by
  induction t with
  | nil => intro _; rfl
  | node l v i r ihl ihr =>
    intro hs
    rw [Tr.toL] at hs
    obtain ⟨h1, h2, h3⟩ := sorted_app.1 hs
    have h4 := List.pairwise_cons.1 h2
    have hl : ∀ a ∈ l.toL, cmpV a.1 v ≤ 0 := fun a ha => ordP_fst (p := a) (q := (v, i)) (h3 a ha (v, i) (by simp))
    have hr : ∀ a ∈ r.toL, cmpV v a.1 ≤ 0 := fun a ha => ordP_fst (p := (v, i)) (q := a) (h4.1 a ha)
    have e3 : (Tr.node l v i r).toL = l.toL ++ ([(v, i)] ++ r.toL) := rfl
    rw [Tr.walk, ihl h1, ihr h4.2, e3, rng_app lo hi l.toL ([(v, i)] ++ r.toL), rng_app lo hi [(v, i)] r.toL, rng_one lo hi v i, List.append_assoc]
    have e1 : ¬ 0 ≤ side lo hi v → rng lo hi l.toL = [] := fun h => rng_none fun q hq => side_down (by omega) (hl q hq)
    have e2 : ¬ side lo hi v ≤ 0 → rng lo hi r.toL = [] := fun h => rng_none fun q hq => side_up (by omega) (hr q hq)
    have f1 : (if 0 ≤ side lo hi v then rng lo hi l.toL else []) = rng lo hi l.toL := by
      split
      · rfl
      · rename_i h; exact (e1 h).symm
    have f2 : (if side lo hi v ≤ 0 then rng lo hi r.toL else []) = rng lo hi r.toL := by
      split
      · rfl
      · rename_i h; exact (e2 h).symm
    rw [f1, f2]
end Mor
