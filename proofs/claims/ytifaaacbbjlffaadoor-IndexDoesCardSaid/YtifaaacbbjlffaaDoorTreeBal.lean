/- The tree in memory; the contracts of the turns and of balance over trees. -/
import Derived.Test.YtifaaacbbjlffaaDoorTreeMem
namespace Go.Proofs.YtifaaacbbjlffaaDoor
open Go.RowKit Mor

/-- a list of values, in a block of their own type -/
def IsLt (w : World) (sl : Value) (l : List Pv) : Prop := IsL w sl l ∧ ∀ a n c, sl = .slice (some a) n c → ∃ arr fr, w.heap[a.block]? = some (.cells arr 41 fr)
theorem PvAt.block {w w' : World} {b o : Nat} {p : Pv} (h : PvAt w b o p) (e : w'.heap[b]? = w.heap[b]?) : PvAt w' b o p := by
  have q : ∀ o, w'.cell? ⟨b, o, none⟩ = w.cell? ⟨b, o, none⟩ := fun o => World.cell?_of_block (w := w) (a := ⟨b, o, none⟩) e
  exact ⟨(q _).trans h.k, (q _).trans h.n, (q _).trans h.s, (q _).trans h.l⟩
/-- such a list stays where the blocks of its type stay -/
theorem IsLt.keep {w w' : World} {sl : Value} {l : List Pv} (h : IsLt w sl l) (key : ∀ (k : Nat) (arr : Array Value) (fr : Nat × Nat), w.heap[k]? = some (.cells arr 41 fr) → w'.heap[k]? = w.heap[k]?) : IsLt w' sl l := by
  refine ⟨?_, fun a n c e => ?_⟩
  · rcases h.1 with h1 | ⟨h1, h2, b, o, c, h3, h4⟩
    · exact .inl h1
    · obtain ⟨arr, fr, hb⟩ := h.2 _ _ _ h3
      exact .inr ⟨h1, h2, b, o, c, h3, fun i p hp => (h4 i p hp).block (key _ _ _ hb)⟩
  · obtain ⟨arr, fr, hb⟩ := h.2 a n c e
    exact ⟨arr, fr, (key _ _ _ hb).trans hb⟩
theorem IsLt.fr {S : Nat → Prop} {w w' : World} {sl : Value} {l : List Pv} (h : IsLt w sl l) (hf : Fr S w w') : IsLt w' sl l := h.keep fun k arr fr hk => by
  refine hf.block _ (lt_of_block hk) fun hs => ?_
  obtain ⟨arr', fr', h1⟩ := hf.node _ hs (lt_of_block hk)
  have := Option.some.inj (hk.symm.trans h1)
  injection this with _ e2; exact absurd e2 (by decide)
theorem IsLt.below {w w' : World} {sl : Value} {l : List Pv} (h : IsLt w sl l) (hB : Below w.heap.size w w') : IsLt w' sl l := h.fr (Fr.of_below hB)

/-- a tree in memory: its pointer, and its nodes' blocks -/
def IsT (w : World) : Tr → Option Nat → (Nat → Prop) → Prop
  | .nil, p, S => p = none ∧ ∀ x, ¬ S x
  | .node l v i r, p, S => ∃ (b : Nat) (lp rp : Option Nat) (sl : Value) (Sl Sr : Nat → Prop), p = some b ∧ w.heap[b]? = some (nodeObj v.k v.n v.s sl i lp rp (1 + max (l.h : Int) r.h)) ∧ IsLt w sl v.l ∧
      IsT w l lp Sl ∧ IsT w r rp Sr ∧ ¬ Sl b ∧ ¬ Sr b ∧ (∀ x, Sl x → ¬ Sr x) ∧ ∀ x, S x ↔ x = b ∨ Sl x ∨ Sr x

theorem IsT.node {w : World} : ∀ {t : Tr} {p : Option Nat} {S : Nat → Prop}, IsT w t p S → ∀ x, S x → ∃ arr fr, w.heap[x]? = some (.cells arr 68 fr)
  | .nil, _, _, h, x, hx => absurd hx (h.2 x)
  | .node l v i r, _, _, ⟨b, lp, rp, sl, Sl, Sr, _, hN, _, hl, hr, _, _, _, hS⟩, x, hx => by
    rcases (hS x).1 hx with rfl | h | h
    · exact ⟨_, _, hN⟩
    · exact hl.node x h
    · exact hr.node x h
theorem IsT.lt {w : World} {t : Tr} {p : Option Nat} {S : Nat → Prop} (h : IsT w t p S) {x : Nat} (hx : S x) : x < w.heap.size := by
  obtain ⟨_, _, e⟩ := h.node x hx
  exact lt_of_block e
theorem IsT.root {w : World} : ∀ {t : Tr} {p : Option Nat} {S : Nat → Prop}, IsT w t p S → ∀ x, p = some x → S x
  | .nil, _, _, h, x, hx => by rw [h.1] at hx; cases hx
  | .node l v i r, _, _, ⟨b, lp, rp, sl, Sl, Sr, hp, hN, _, hl, hr, _, _, _, hS⟩, x, hx => by
    rw [hp] at hx; cases hx; exact (hS _).2 (.inl rfl)
theorem IsT.fr {S0 : Nat → Prop} {w w' : World} (hf : Fr S0 w w') : ∀ {t : Tr} {p : Option Nat} {S : Nat → Prop}, IsT w t p S → (∀ x, S x → ¬ S0 x) → IsT w' t p S
  | .nil, _, _, h, _ => h
  | .node _ _ _ _, _, _, ⟨b, lp, rp, sl, Sl, Sr, hp, hN, hL, hl, hr, h1, h2, h3, hS⟩, hd =>
    ⟨b, lp, rp, sl, Sl, Sr, hp, (hf.block b (lt_of_block hN) (hd b ((hS b).2 (.inl rfl)))).trans hN, hL.fr hf, IsT.fr hf hl fun x hx => hd x ((hS x).2 (.inr (.inl hx))), IsT.fr hf hr fun x hx => hd x ((hS x).2 (.inr (.inr hx))), h1, h2, h3, hS⟩
theorem IsT.keep {w w' : World} (key : ∀ (k : Nat) (arr : Array Value) (fr : Nat × Nat), w.heap[k]? = some (.cells arr 41 fr) → w'.heap[k]? = w.heap[k]?) : ∀ {t : Tr} {p : Option Nat} {S : Nat → Prop}, IsT w t p S → (∀ x, S x → w'.heap[x]? = w.heap[x]?) → IsT w' t p S
  | .nil, _, _, h, _ => h
  | .node _ _ _ _, _, _, ⟨b, lp, rp, sl, Sl, Sr, hp, hN, hL, hl, hr, h1, h2, h3, hS⟩, hd =>
    ⟨b, lp, rp, sl, Sl, Sr, hp, (hd b ((hS b).2 (.inl rfl))).trans hN, hL.keep key, IsT.keep key hl fun x hx => hd x ((hS x).2 (.inr (.inl hx))), IsT.keep key hr fun x hx => hd x ((hS x).2 (.inr (.inr hx))), h1, h2, h3, hS⟩
theorem IsT.below {w w' : World} {t : Tr} {p : Option Nat} {S : Nat → Prop} (h : IsT w t p S) (hB : Below w.heap.size w w') : IsT w' t p S := h.fr (Fr.of_below hB) fun _ _ h => h
theorem IsT.tall {w : World} : ∀ {t : Tr} {p : Option Nat} {S : Nat → Prop}, IsT w t p S → Tall w p t.h
  | .nil, _, _, h => .inl ⟨h.1, rfl⟩
  | .node l v i r, _, _, ⟨b, lp, rp, sl, Sl, Sr, hp, hN, _⟩ => .inr ⟨b, hp, by rw [(node_cells hN).2.2.2, Tr.h]; congr 2; omega⟩
theorem IsT.iff {w : World} {S S' : Nat → Prop} (hs : ∀ x, S x ↔ S' x) : ∀ {t : Tr} {p : Option Nat}, IsT w t p S → IsT w t p S'
  | .nil, _, h => ⟨h.1, fun x hx => h.2 x ((hs x).2 hx)⟩
  | .node _ _ _ _, _, ⟨b, lp, rp, sl, Sl, Sr, hp, hN, hL, hl, hr, h1, h2, h3, hS⟩ => ⟨b, lp, rp, sl, Sl, Sr, hp, hN, hL, hl, hr, h1, h2, h3, fun x => (hs x).symm.trans (hS x)⟩

/-- a node, of whatever height it says to be, and the trees below it -/
structure Node (w : World) (b : Nat) (lp rp : Option Nat) (sl : Value) (l : Tr) (v : Vl) (i : Int) (r : Tr) (Sl Sr : Nat → Prop) : Prop where
  obj : ∃ h, w.heap[b]? = some (nodeObj v.k v.n v.s sl i lp rp h)
  lst : IsLt w sl v.l
  lt : IsT w l lp Sl
  rt : IsT w r rp Sr
  nl : ¬ Sl b
  nr : ¬ Sr b
  ap : ∀ x, Sl x → ¬ Sr x

theorem Node.blocks {w : World} {b : Nat} {lp rp : Option Nat} {sl : Value} {l : Tr} {v : Vl} {i : Int} {r : Tr} {Sl Sr : Nat → Prop} (h : Node w b lp rp sl l v i r Sl Sr) : ∀ x, (x = b ∨ Sl x ∨ Sr x) → ∃ arr fr, w.heap[x]? = some (.cells arr 68 fr) := by
  rintro x (rfl | hx | hx)
  · obtain ⟨h, e⟩ := h.obj; exact ⟨_, _, e⟩
  · exact h.lt.node x hx
  · exact h.rt.node x hx

/-- what a call leaves that hands back a tree made of given blocks -/
def Gives (t : Tr) (S : Nat → Prop) (w : World) (e : Ending) (w' : World) : Prop := ∃ p, e = .returned (.pointer (pa p)) ∧ IsT w' t p S ∧ Fr S w w' ∧ w'.heap.size = w.heap.size

theorem turnLeft_T {w : World} {b : Nat} {lp rp : Option Nat} {sl : Value} {l m r : Tr} {v u : Vl} {i j : Int} {Sl Sr : Nat → Prop} (hn : Node w b lp rp sl l v i (.node m u j r) Sl Sr) (sz : l.n + m.n + r.n < 1000) :
    Calls Tryd.prog 62 #[.pointer (some ⟨b, 0, none⟩)] w (Gives (.node (.node l v i m) u j r) (fun x => x = b ∨ Sl x ∨ Sr x) w) := by
  have hb := hn.blocks
  obtain ⟨⟨h, hN⟩, hL, hl, ⟨c, mp, rp', sl', Sm, Sr', rfl, hC, hL', hm, hr, m1, m2, m3, hS⟩, n1, n2, n3⟩ := hn
  have z1 := l.h_le
  have z2 := m.h_le
  have z3 := r.h_le
  have cb : c ≠ b := fun e => n2 ((hS b).2 (.inl e.symm))
  have smb : ¬ Sm b := fun h => n2 ((hS b).2 (.inr (.inl h)))
  have srb : ¬ Sr' b := fun h => n2 ((hS b).2 (.inr (.inr h)))
  have slc : ¬ Sl c := fun h => n3 c h ((hS c).2 (.inl rfl))
  have slm : ∀ x, Sl x → ¬ Sm x := fun x h h' => n3 x h ((hS x).2 (.inr (.inl h')))
  have slr : ∀ x, Sl x → ¬ Sr' x := fun x h h' => n3 x h ((hS x).2 (.inr (.inr h')))
  refine (turnLeft_any hN hC cb hl.tall hm.tall hr.tall ⟨by omega, by omega⟩ ⟨by omega, by omega⟩ ⟨by omega, by omega⟩
    ⟨fun x hx e => n1 (e ▸ hl.root x hx), fun x hx e => slc (e ▸ hl.root x hx)⟩ ⟨fun x hx e => smb (e ▸ hm.root x hx), fun x hx e => m1 (e ▸ hm.root x hx)⟩ ⟨fun x hx e => srb (e ▸ hr.root x hx), fun x hx e => m2 (e ▸ hr.root x hx)⟩).mono ?_
  rintro e w' ⟨rfl, e1, e2, hf, hs⟩
  have hl' := hl.fr hf fun x hx h => h.elim (fun e => n1 (e ▸ hx)) (fun e => slc (e ▸ hx))
  have hm' := hm.fr hf fun x hx h => h.elim (fun e => smb (e ▸ hx)) (fun e => m1 (e ▸ hx))
  have hr' := hr.fr hf fun x hx h => h.elim (fun e => srb (e ▸ hx)) (fun e => m2 (e ▸ hx))
  refine ⟨some c, rfl, ⟨c, some b, rp', sl', (fun x => x = b ∨ Sl x ∨ Sm x), Sr', rfl, ?_, hL'.fr hf, ⟨b, lp, mp, sl, Sl, Sm, rfl, e1, hL.fr hf, hl', hm', n1, smb, slm, fun x => Iff.rfl⟩, hr', ?_, m2, ?_, fun x => ?_⟩, hf.mono (fun x _ hx => ?_) (fun x hx _ => hb x hx), hs⟩
  · rw [e2, Tr.h]; congr 2; omega
  · rintro (e | h | h); exact cb e; exact slc h; exact m1 h
  · rintro x (rfl | h | h); exact srb; exact slr x h; exact m3 x h
  · have := hS x; simp only [this]; grind
  · have := hS x; rcases hx with rfl | rfl; exact .inl rfl; exact .inr (.inr (this.2 (.inl rfl)))

theorem turnRight_T {w : World} {b : Nat} {lp rp : Option Nat} {sl : Value} {l m r : Tr} {v u : Vl} {i j : Int} {Sl Sr : Nat → Prop} (hn : Node w b lp rp sl (.node l u j m) v i r Sl Sr) (sz : l.n + m.n + r.n < 1000) :
    Calls Tryd.prog 63 #[.pointer (some ⟨b, 0, none⟩)] w (Gives (.node l u j (.node m v i r)) (fun x => x = b ∨ Sl x ∨ Sr x) w) := by
  have hb := hn.blocks
  obtain ⟨⟨h, hN⟩, hL, ⟨c, lp', mp, sl', Sl', Sm, rfl, hC, hL', hl, hm, m1, m2, m3, hS⟩, hr, n1, n2, n3⟩ := hn
  have z1 := l.h_le
  have z2 := m.h_le
  have z3 := r.h_le
  have cb : c ≠ b := fun e => n1 ((hS b).2 (.inl e.symm))
  have smb : ¬ Sm b := fun h => n1 ((hS b).2 (.inr (.inr h)))
  have slb : ¬ Sl' b := fun h => n1 ((hS b).2 (.inr (.inl h)))
  have src : ¬ Sr c := fun h => n3 c ((hS c).2 (.inl rfl)) h
  have smr : ∀ x, Sm x → ¬ Sr x := fun x h h' => n3 x ((hS x).2 (.inr (.inr h))) h'
  have slr : ∀ x, Sl' x → ¬ Sr x := fun x h h' => n3 x ((hS x).2 (.inr (.inl h))) h'
  refine (turnRight_any hN hC cb hl.tall hm.tall hr.tall ⟨by omega, by omega⟩ ⟨by omega, by omega⟩ ⟨by omega, by omega⟩
    ⟨fun x hx e => slb (e ▸ hl.root x hx), fun x hx e => m1 (e ▸ hl.root x hx)⟩ ⟨fun x hx e => smb (e ▸ hm.root x hx), fun x hx e => m2 (e ▸ hm.root x hx)⟩ ⟨fun x hx e => n2 (e ▸ hr.root x hx), fun x hx e => src (e ▸ hr.root x hx)⟩).mono ?_
  rintro e w' ⟨rfl, e1, e2, hf, hs⟩
  have hl' := hl.fr hf fun x hx h => h.elim (fun e => slb (e ▸ hx)) (fun e => m1 (e ▸ hx))
  have hm' := hm.fr hf fun x hx h => h.elim (fun e => smb (e ▸ hx)) (fun e => m2 (e ▸ hx))
  have hr' := hr.fr hf fun x hx h => h.elim (fun e => n2 (e ▸ hx)) (fun e => src (e ▸ hx))
  refine ⟨some c, rfl, ⟨c, lp', some b, sl', Sl', (fun x => x = b ∨ Sm x ∨ Sr x), rfl, ?_, hL'.fr hf, hl', ⟨b, mp, rp, sl, Sm, Sr, rfl, e1, hL.fr hf, hm', hr', smb, n2, smr, fun x => Iff.rfl⟩, m1, ?_, ?_, fun x => ?_⟩, hf.mono (fun x _ hx => ?_) (fun x hx _ => hb x hx), hs⟩
  · rw [e2, Tr.h]; congr 2; omega
  · rintro (e | h | h); exact cb e; exact m2 h; exact src h
  · rintro x h (rfl | h' | h'); exact slb h; exact m3 x h h'; exact slr x h h'
  · have := hS x; simp only [this]; grind
  · have := hS x; rcases hx with rfl | rfl; exact .inl rfl; exact .inr (.inl (this.2 (.inl rfl)))

theorem Node.mk_T {w : World} {b : Nat} {lp rp : Option Nat} {sl : Value} {l : Tr} {v : Vl} {i : Int} {r : Tr} {Sl Sr : Nat → Prop} (h : Node w b lp rp sl l v i r Sl Sr) (e : w.heap[b]? = some (nodeObj v.k v.n v.s sl i lp rp (1 + max (l.h : Int) r.h))) : IsT w (.node l v i r) (some b) (fun x => x = b ∨ Sl x ∨ Sr x) :=
  ⟨b, lp, rp, sl, Sl, Sr, rfl, e, h.lst, h.lt, h.rt, h.nl, h.nr, h.ap, fun _ => Iff.rfl⟩
theorem Node.of_T {w : World} {p : Option Nat} {S : Nat → Prop} {l : Tr} {v : Vl} {i : Int} {r : Tr} (h : IsT w (.node l v i r) p S) : ∃ b lp rp sl Sl Sr, p = some b ∧ Node w b lp rp sl l v i r Sl Sr ∧ ∀ x, S x ↔ x = b ∨ Sl x ∨ Sr x := by
  obtain ⟨b, lp, rp, sl, Sl, Sr, hp, hN, hL, hl, hr, h1, h2, h3, hS⟩ := h
  exact ⟨b, lp, rp, sl, Sl, Sr, hp, ⟨⟨_, hN⟩, hL, hl, hr, h1, h2, h3⟩, hS⟩
theorem Node.fr {w w' : World} {b : Nat} {lp rp : Option Nat} {sl : Value} {l : Tr} {v : Vl} {i : Int} {r : Tr} {Sl Sr S : Nat → Prop} (h : Node w b lp rp sl l v i r Sl Sr) (hf : Fr S w w') (hS : ∀ x, (x = b ∨ Sl x ∨ Sr x) → ¬ S x) : Node w' b lp rp sl l v i r Sl Sr := by
  obtain ⟨k, e⟩ := h.obj
  exact ⟨⟨k, (hf.block b (lt_of_block e) (hS b (.inl rfl))).trans e⟩, h.lst.fr hf, h.lt.fr hf fun x hx => hS x (.inr (.inl hx)), h.rt.fr hf fun x hx => hS x (.inr (.inr hx)), h.nl, h.nr, h.ap⟩
theorem Gives.mono {t t' : Tr} {S S' : Nat → Prop} {w : World} {e : Ending} {w' : World} (h : Gives t S w e w') (ht : t = t') (hS : ∀ x, S x ↔ S' x) : Gives t' S' w e w' := by
  obtain ⟨p, e1, e2, e3, e4⟩ := h
  subst ht
  exact ⟨p, e1, e2.iff hS, e3.mono (fun x _ h => (hS x).1 h) (fun x h hl => e3.node x ((hS x).2 h) hl), e4⟩

/-- after another step that kept to the same blocks -/
theorem Gives.after {t : Tr} {S T : Nat → Prop} {w w1 : World} {e : Ending} {w' : World} (h : Gives t S w1 e w') (hf : Fr T w w1) (hs : w1.heap.size = w.heap.size) (hT : ∀ x, T x → S x) (hb : ∀ x, S x → ∃ arr fr, w.heap[x]? = some (.cells arr 68 fr)) : Gives t S w e w' := by
  obtain ⟨p, e1, e2, e3, e4⟩ := h
  exact ⟨p, e1, e2, (hf.trans e3).mono (fun x _ h => h.elim (hT x) id) (fun x h _ => hb x h), e4.trans hs⟩

/-- a node that has measured itself -/
def Measured (w : World) (b : Nat) (lp rp : Option Nat) (sl : Value) (l : Tr) (v : Vl) (i : Int) (r : Tr) : Prop := w.heap[b]? = some (nodeObj v.k v.n v.s sl i lp rp (1 + max (l.h : Int) r.h))
theorem measure_T {w : World} {b : Nat} {lp rp : Option Nat} {sl : Value} {l r : Tr} {v : Vl} {i : Int} {Sl Sr : Nat → Prop} (hn : Node w b lp rp sl l v i r Sl Sr) (sz : l.n + r.n < 900) :
    Calls Tryd.prog 60 #[.pointer (some ⟨b, 0, none⟩)] w fun e w' => e = .returned (.tuple #[]) ∧ Node w' b lp rp sl l v i r Sl Sr ∧ Measured w' b lp rp sl l v i r ∧ Fr (fun x => x = b) w w' ∧ w'.heap.size = w.heap.size := by
  have z1 := l.h_le
  have z2 := r.h_le
  obtain ⟨h, hN⟩ := hn.obj
  refine (measure_any hN hn.lt.tall hn.rt.tall ⟨by omega, by omega⟩ ⟨by omega, by omega⟩).mono ?_
  rintro e w' ⟨rfl, h1, h2, h3⟩
  exact ⟨rfl, ⟨⟨_, h1⟩, hn.lst.fr h2, hn.lt.fr h2 fun x hx e => hn.nl (e ▸ hx), hn.rt.fr h2 fun x hx e => hn.nr (e ▸ hx), hn.nl, hn.nr, hn.ap⟩, h1, h2, h3⟩

theorem tall_still {w : World} {p : Option Nat} {h : Int} (ht : Tall w p h) : Calls Tryd.prog 61 #[.pointer (pa p)] w fun e w' => e = .returned (.int .i64 h) ∧ w' = w := tall_any ht
theorem tall_at {w : World} {b : Nat} {h : Int} (ht : Tall w (some b) h) : Calls Tryd.prog 61 #[.pointer (some ⟨b, 0, none⟩)] w fun e w' => e = .returned (.int .i64 h) ∧ w' = w := by
  have := tall_any ht
  rw [show pa (some b) = some ⟨b, 0, none⟩ from rfl] at this
  exact this

set_option maxHeartbeats 400000 in
theorem balance_none {w : World} {b : Nat} {lp rp : Option Nat} {sl : Value} {l r : Tr} {v : Vl} {i : Int} {Sl Sr : Nat → Prop} (hn : Node w b lp rp sl l v i r Sl Sr) (sz : l.n + r.n < 900) (h1 : ¬ r.h + 1 < l.h) (h2 : ¬ l.h + 1 < r.h) :
    Calls Tryd.prog 54 #[.pointer (some ⟨b, 0, none⟩)] w (Gives (.node l v i r) (fun x => x = b ∨ Sl x ∨ Sr x) w) := by
  have z1 := l.h_le
  have z2 := r.h_le
  have HB := Lib.hid hn.blocks
  have HN := Lib.hid hn
  clear hn
  go_enter Tryd.func54, Tryd.ntmps54
  go_wp2_with fail
  refine (measure_T HN.out sz).mono ?_
  rintro e w1 ⟨rfl, n1, m1, f1, s1⟩
  obtain ⟨_, c5, c6, _⟩ := node_cells m1
  have TL := Lib.hid n1.lt.tall
  have TR := Lib.hid n1.rt.tall
  have N1 := Lib.hid n1
  have M1 := Lib.hid m1
  have F1 := Lib.hid f1
  have S1 := Lib.hid s1
  have k1 : ¬ (1 : Int) < (l.h : Int) - (r.h : Int) := by omega
  have k2 : ¬ (l.h : Int) - (r.h : Int) < -1 := by omega
  have k3 : IntKind.i64.wrap ((l.h : Int) - (r.h : Int)) = (l.h : Int) - (r.h : Int) := IntWalk.i64_in _ (by omega)
  clear n1 m1 f1 s1
  go_wp2_with fail
  refine wp_still (by kernel_rfl) (by kernel_rfl) ?_
  iterate 4 still_step
  still_call (tall_still (show Tall w1.drew lp l.h from TL.out))
  iterate 4 still_step
  still_call (tall_still (show Tall w1.drew rp r.h from TR.out))
  repeat still_step
  refine wpStill_nil ?_
  clear k3
  go_wp2_with fail
  go_ret
  exact ⟨some b, rfl, (Node.mk_T (w := w1) N1.out M1.out).fr (Fr.refl w1).drew (fun _ _ h => h), (F1.out.mono (fun x _ h => .inl h) (fun x h _ => HB.out x h)).drew, S1.out⟩

set_option maxHeartbeats 800000 in
theorem balance_left {w : World} {b : Nat} {lp rp : Option Nat} {sl : Value} {l r ll lr : Tr} {v lv : Vl} {i li : Int} {Sl Sr : Nat → Prop} (et : Hid (l = .node ll lv li lr)) (hn : Node w b lp rp sl l v i r Sl Sr) (sz : l.n + r.n < 900) (h1 : r.h + 1 < l.h) (h2 : ¬ ll.h < lr.h) :
    Calls Tryd.prog 54 #[.pointer (some ⟨b, 0, none⟩)] w (Gives (.node ll lv li (.node lr v i r)) (fun x => x = b ∨ Sl x ∨ Sr x) w) := by
  have z1 := l.h_le
  have z2 := r.h_le
  have HB := Lib.hid hn.blocks
  have HN := Lib.hid hn
  clear hn
  go_enter Tryd.func54, Tryd.ntmps54
  go_wp2_with fail
  refine (measure_T HN.out sz).mono ?_
  rintro e w1 ⟨rfl, n1, m1, f1, s1⟩
  obtain ⟨_, c5, c6, _⟩ := node_cells m1
  have TL := Lib.hid n1.lt.tall
  have TR := Lib.hid n1.rt.tall
  have N1 := Lib.hid n1
  have F1 := Lib.hid f1
  have S1 := Lib.hid s1
  have k1 : (1 : Int) < (l.h : Int) - (r.h : Int) := by omega
  have k3 : IntKind.i64.wrap ((l.h : Int) - (r.h : Int)) = (l.h : Int) - (r.h : Int) := IntWalk.i64_in _ (by omega)
  have nc0 := n1.lt
  rw [et.out] at nc0
  obtain ⟨cb, lp', rp', sl', Sl', Sr', rfl, nc, hSc⟩ := Node.of_T nc0
  replace c5 : w1.cell? ⟨b, 5, none⟩ = some (.pointer (some ⟨cb, 0, none⟩)) := c5
  obtain ⟨hc', e'⟩ := nc.obj
  obtain ⟨_, d5, d6, _⟩ := node_cells e'
  have TA := Lib.hid nc.lt.tall
  have TB := Lib.hid nc.rt.tall
  have NC := Lib.hid nc
  have HSC := Lib.hid hSc
  have k4 : ¬ (ll.h : Int) < (lr.h : Int) := by omega
  clear nc0 nc e' hSc n1 m1 f1 s1
  go_wp2_with fail
  refine wp_still (by kernel_rfl) (by kernel_rfl) ?_
  iterate 4 still_step
  still_call (tall_at (show Tall w1.drew (some cb) l.h from TL.out))
  iterate 4 still_step
  still_call (tall_still (show Tall w1.drew rp r.h from TR.out))
  repeat still_step
  refine wpStill_nil ?_
  clear k3
  go_wp2_with fail
  refine wp_still (by kernel_rfl) (by kernel_rfl) ?_
  iterate 7 still_step
  still_call (tall_still (show Tall w1.drew.drew lp' ll.h from TA.out))
  iterate 7 still_step
  still_call (tall_still (show Tall w1.drew.drew rp' lr.h from TB.out))
  repeat still_step
  refine wpStill_nil ?_
  go_wp2_with fail
  have NN : Hid (Node w1.drew.drew b (some cb) rp sl (.node ll lv li lr) v i r Sl Sr) := by
    have := N1.out
    rw [et.out] at this
    exact this.fr (Fr.refl w1).drew.drew (fun _ _ h => h)
  have SZ0 := Lib.hid (show ll.n + lr.n + r.n < 1000 from by have := sz; rw [et.out] at this; simp only [Tr.n] at this; omega)
  refine (turnRight_T NN.out SZ0.out).mono ?_
  intro e w2 hG
  have hG' := hG
  obtain ⟨p, rfl, _⟩ := hG
  have G := Lib.hid hG'
  clear hG'
  go_wp2_with fail
  go_ret
  exact G.out.after (F1.out.drew.drew) S1.out (fun x h => .inl h) HB.out

set_option maxHeartbeats 800000 in
theorem balance_right {w : World} {b : Nat} {lp rp : Option Nat} {sl : Value} {l r rl rr : Tr} {v rv : Vl} {i ri : Int} {Sl Sr : Nat → Prop} (et : Hid (r = .node rl rv ri rr)) (hn : Node w b lp rp sl l v i r Sl Sr) (sz : l.n + r.n < 900) (h1 : l.h + 1 < r.h) (h2 : ¬ rr.h < rl.h) :
    Calls Tryd.prog 54 #[.pointer (some ⟨b, 0, none⟩)] w (Gives (.node (.node l v i rl) rv ri rr) (fun x => x = b ∨ Sl x ∨ Sr x) w) := by
  have z1 := l.h_le
  have z2 := r.h_le
  have HB := Lib.hid hn.blocks
  have HN := Lib.hid hn
  clear hn
  go_enter Tryd.func54, Tryd.ntmps54
  go_wp2_with fail
  refine (measure_T HN.out sz).mono ?_
  rintro e w1 ⟨rfl, n1, m1, f1, s1⟩
  obtain ⟨_, c5, c6, _⟩ := node_cells m1
  have TL := Lib.hid n1.lt.tall
  have TR := Lib.hid n1.rt.tall
  have N1 := Lib.hid n1
  have F1 := Lib.hid f1
  have S1 := Lib.hid s1
  have k1 : ¬ (1 : Int) < (l.h : Int) - (r.h : Int) := by omega
  have k2 : (l.h : Int) - (r.h : Int) < -1 := by omega
  have k3 : IntKind.i64.wrap ((l.h : Int) - (r.h : Int)) = (l.h : Int) - (r.h : Int) := IntWalk.i64_in _ (by omega)
  have nc0 := n1.rt
  rw [et.out] at nc0
  obtain ⟨cb, lp', rp', sl', Sl', Sr', rfl, nc, hSc⟩ := Node.of_T nc0
  replace c6 : w1.cell? ⟨b, 6, none⟩ = some (.pointer (some ⟨cb, 0, none⟩)) := c6
  obtain ⟨hc', e'⟩ := nc.obj
  obtain ⟨_, d5, d6, _⟩ := node_cells e'
  have TA := Lib.hid nc.rt.tall
  have TB := Lib.hid nc.lt.tall
  have NC := Lib.hid nc
  have HSC := Lib.hid hSc
  have k4 : ¬ (rr.h : Int) < (rl.h : Int) := by omega
  clear nc0 nc e' hSc n1 m1 f1 s1
  go_wp2_with fail
  refine wp_still (by kernel_rfl) (by kernel_rfl) ?_
  iterate 4 still_step
  still_call (tall_still (show Tall w1.drew lp l.h from TL.out))
  iterate 4 still_step
  still_call (tall_at (show Tall w1.drew (some cb) r.h from TR.out))
  repeat still_step
  refine wpStill_nil ?_
  clear k3
  go_wp2_with fail
  refine wp_still (by kernel_rfl) (by kernel_rfl) ?_
  iterate 7 still_step
  still_call (tall_still (show Tall w1.drew.drew rp' rr.h from TA.out))
  iterate 7 still_step
  still_call (tall_still (show Tall w1.drew.drew lp' rl.h from TB.out))
  repeat still_step
  refine wpStill_nil ?_
  go_wp2_with fail
  have NN : Hid (Node w1.drew.drew b lp (some cb) sl l v i (.node rl rv ri rr) Sl Sr) := by
    have := N1.out
    rw [et.out] at this
    exact this.fr (Fr.refl w1).drew.drew (fun _ _ h => h)
  have SZ0 := Lib.hid (show l.n + rl.n + rr.n < 1000 from by have := sz; rw [et.out] at this; simp only [Tr.n] at this; omega)
  refine (turnLeft_T NN.out SZ0.out).mono ?_
  intro e w2 hG
  have hG' := hG
  obtain ⟨p, rfl, _⟩ := hG
  have G := Lib.hid hG'
  clear hG'
  go_wp2_with fail
  go_ret
  exact G.out.after (F1.out.drew.drew) S1.out (fun x h => .inl h) HB.out

set_option maxHeartbeats 800000 in
theorem balance_left2 {w : World} {b : Nat} {lp rp : Option Nat} {sl : Value} {l r ll lr a c : Tr} {v lv u : Vl} {i li j : Int} {Sl Sr : Nat → Prop} (et : Hid (l = .node ll lv li lr)) (et2 : Hid (lr = .node a u j c)) (hn : Node w b lp rp sl l v i r Sl Sr) (sz : l.n + r.n < 900) (h1 : r.h + 1 < l.h) (h2 : ll.h < lr.h) :
    Calls Tryd.prog 54 #[.pointer (some ⟨b, 0, none⟩)] w (Gives (.node (.node ll lv li a) u j (.node c v i r)) (fun x => x = b ∨ Sl x ∨ Sr x) w) := by
  have z1 := l.h_le
  have z2 := r.h_le
  have HB := Lib.hid hn.blocks
  have HN := Lib.hid hn
  clear hn
  go_enter Tryd.func54, Tryd.ntmps54
  go_wp2_with fail
  refine (measure_T HN.out sz).mono ?_
  rintro e w1 ⟨rfl, n1, m1, f1, s1⟩
  obtain ⟨_, c5, c6, _⟩ := node_cells m1
  have TL := Lib.hid n1.lt.tall
  have TR := Lib.hid n1.rt.tall
  have N1 := Lib.hid n1
  have F1 := Lib.hid f1
  have S1 := Lib.hid s1
  have k1 : (1 : Int) < (l.h : Int) - (r.h : Int) := by omega
  have k3 : IntKind.i64.wrap ((l.h : Int) - (r.h : Int)) = (l.h : Int) - (r.h : Int) := IntWalk.i64_in _ (by omega)
  have nc0 := n1.lt
  rw [et.out] at nc0
  obtain ⟨cb, lp', rp', sl', Sl', Sr', rfl, nc, hSc⟩ := Node.of_T nc0
  replace c5 : w1.cell? ⟨b, 5, none⟩ = some (.pointer (some ⟨cb, 0, none⟩)) := c5
  obtain ⟨hc', e'⟩ := nc.obj
  obtain ⟨_, d5, d6, _⟩ := node_cells e'
  have TA := Lib.hid nc.lt.tall
  have TB := Lib.hid nc.rt.tall
  have NC := Lib.hid nc
  have HSC := Lib.hid hSc
  have k4 : (ll.h : Int) < (lr.h : Int) := by omega
  clear nc0 nc e' hSc n1 m1 f1 s1
  go_wp2_with fail
  refine wp_still (by kernel_rfl) (by kernel_rfl) ?_
  iterate 4 still_step
  still_call (tall_at (show Tall w1.drew (some cb) l.h from TL.out))
  iterate 4 still_step
  still_call (tall_still (show Tall w1.drew rp r.h from TR.out))
  repeat still_step
  refine wpStill_nil ?_
  clear k3
  go_wp2_with fail
  refine wp_still (by kernel_rfl) (by kernel_rfl) ?_
  iterate 7 still_step
  still_call (tall_still (show Tall w1.drew.drew lp' ll.h from TA.out))
  iterate 7 still_step
  still_call (tall_still (show Tall w1.drew.drew rp' lr.h from TB.out))
  repeat still_step
  refine wpStill_nil ?_
  go_wp2_with fail
  have NN : Hid (Node w1.drew.drew cb lp' rp' sl' ll lv li (.node a u j c) Sl' Sr') := by
    have := NC.out
    rw [et2.out] at this
    exact this.fr (Fr.refl w1).drew.drew (fun _ _ h => h)
  have SZ0 := Lib.hid (show ll.n + a.n + c.n < 1000 from by have := sz; rw [et.out, et2.out] at this; simp only [Tr.n] at this; omega)
  refine (turnLeft_T NN.out SZ0.out).mono ?_
  intro e w2 hG
  obtain ⟨p, rfl, g1, g2, g3⟩ := hG
  have iS : ∀ x, (x = cb ∨ Sl' x ∨ Sr' x) ↔ Sl x := fun x => (HSC.out x).symm
  have g1' := g1.iff iS
  obtain ⟨hb0, eb⟩ := N1.out.obj
  have nb : ¬ Sl b := N1.out.nl
  have eb2 : w2.heap[b]? = some (nodeObj v.k v.n v.s sl i (some cb) rp hb0) := (g2.block b (lt_of_block eb) (fun h => nb ((iS b).1 h))).trans eb
  have q5 := (node_cells eb2).2.1
  have qf := node_free eb2 5
  have G1 := Lib.hid g1'
  have G2 := Lib.hid g2
  have G3 := Lib.hid g3
  have EB := Lib.hid eb2
  have NB := Lib.hid nb
  have IS := Lib.hid iS
  clear g1 g1' g2 g3 eb eb2 nb iS
  go_wp2_with fail
  have e3 : (w2.setCell ⟨b, 5, none⟩ (.pointer (pa p))).heap[b]? = some (nodeObj v.k v.n v.s sl i p rp hb0) := node_setL EB.out p
  have fs := Fr.set (w := w2) (show w2.heap[b]? = some (.cells _ 68 _) from EB.out) 5 (.pointer (pa p))
  have fall := (Fr.refl w1).drew.drew.trans (G2.out.trans fs)
  have hnew : Node (w2.setCell ⟨b, 5, none⟩ (.pointer (pa p))) b p rp sl (.node (.node ll lv li a) u j c) v i r Sl Sr := by
    refine ⟨⟨_, e3⟩, (N1.out.lst.fr fall), ?_, ?_, N1.out.nl, N1.out.nr, N1.out.ap⟩
    · exact G1.out.fr fs (fun x hx e => NB.out (e ▸ hx))
    · exact N1.out.rt.fr fall (fun x hx e => e.elim id (fun e => e.elim (fun e => N1.out.ap x ((IS.out x).1 e) hx) (fun e => N1.out.nr (e ▸ hx))))
  have HNEW := Lib.hid hnew
  have FALL := Lib.hid fall
  have SZ := Lib.hid (show (w2.setCell ⟨b, 5, none⟩ (.pointer (pa p))).heap.size = w1.heap.size by simp [World.setCell]; exact G3.out)
  have SZ1 := Lib.hid (show (Tr.node ll lv li a).n + c.n + r.n < 1000 from by have := sz; rw [et.out, et2.out] at this; simp only [Tr.n] at this ⊢; omega)
  clear e3 fs fall hnew
  refine (turnRight_T HNEW.out SZ1.out).mono ?_
  intro e w3 hG
  have hG' := hG
  obtain ⟨p3, rfl, _⟩ := hG
  have G := Lib.hid hG'
  clear hG'
  go_wp2_with fail
  go_ret
  refine G.out.after (F1.out.trans FALL.out) (SZ.out.trans S1.out) (fun x h => ?_) HB.out
  rcases h with h | h | h | h
  · exact .inl h
  · exact h.elim
  · exact .inr (.inl ((IS.out x).1 h))
  · exact .inl h

set_option maxHeartbeats 800000 in
theorem balance_right2 {w : World} {b : Nat} {lp rp : Option Nat} {sl : Value} {l r rl rr a c : Tr} {v rv u : Vl} {i ri j : Int} {Sl Sr : Nat → Prop} (et : Hid (r = .node rl rv ri rr)) (et2 : Hid (rl = .node a u j c)) (hn : Node w b lp rp sl l v i r Sl Sr) (sz : l.n + r.n < 900) (h1 : l.h + 1 < r.h) (h2 : rr.h < rl.h) :
    Calls Tryd.prog 54 #[.pointer (some ⟨b, 0, none⟩)] w (Gives (.node (.node l v i a) u j (.node c rv ri rr)) (fun x => x = b ∨ Sl x ∨ Sr x) w) := by
  have z1 := l.h_le
  have z2 := r.h_le
  have HB := Lib.hid hn.blocks
  have HN := Lib.hid hn
  clear hn
  go_enter Tryd.func54, Tryd.ntmps54
  go_wp2_with fail
  refine (measure_T HN.out sz).mono ?_
  rintro e w1 ⟨rfl, n1, m1, f1, s1⟩
  obtain ⟨_, c5, c6, _⟩ := node_cells m1
  have TL := Lib.hid n1.lt.tall
  have TR := Lib.hid n1.rt.tall
  have N1 := Lib.hid n1
  have F1 := Lib.hid f1
  have S1 := Lib.hid s1
  have k1 : ¬ (1 : Int) < (l.h : Int) - (r.h : Int) := by omega
  have k2 : (l.h : Int) - (r.h : Int) < -1 := by omega
  have k3 : IntKind.i64.wrap ((l.h : Int) - (r.h : Int)) = (l.h : Int) - (r.h : Int) := IntWalk.i64_in _ (by omega)
  have nc0 := n1.rt
  rw [et.out] at nc0
  obtain ⟨cb, lp', rp', sl', Sl', Sr', rfl, nc, hSc⟩ := Node.of_T nc0
  replace c6 : w1.cell? ⟨b, 6, none⟩ = some (.pointer (some ⟨cb, 0, none⟩)) := c6
  obtain ⟨hc', e'⟩ := nc.obj
  obtain ⟨_, d5, d6, _⟩ := node_cells e'
  have TA := Lib.hid nc.rt.tall
  have TB := Lib.hid nc.lt.tall
  have NC := Lib.hid nc
  have HSC := Lib.hid hSc
  have k4 : (rr.h : Int) < (rl.h : Int) := by omega
  clear nc0 nc e' hSc n1 m1 f1 s1
  go_wp2_with fail
  refine wp_still (by kernel_rfl) (by kernel_rfl) ?_
  iterate 4 still_step
  still_call (tall_still (show Tall w1.drew lp l.h from TL.out))
  iterate 4 still_step
  still_call (tall_at (show Tall w1.drew (some cb) r.h from TR.out))
  repeat still_step
  refine wpStill_nil ?_
  clear k3
  go_wp2_with fail
  refine wp_still (by kernel_rfl) (by kernel_rfl) ?_
  iterate 7 still_step
  still_call (tall_still (show Tall w1.drew.drew rp' rr.h from TA.out))
  iterate 7 still_step
  still_call (tall_still (show Tall w1.drew.drew lp' rl.h from TB.out))
  repeat still_step
  refine wpStill_nil ?_
  go_wp2_with fail
  have NN : Hid (Node w1.drew.drew cb lp' rp' sl' (.node a u j c) rv ri rr Sl' Sr') := by
    have := NC.out
    rw [et2.out] at this
    exact this.fr (Fr.refl w1).drew.drew (fun _ _ h => h)
  have SZ0 := Lib.hid (show a.n + c.n + rr.n < 1000 from by have := sz; rw [et.out, et2.out] at this; simp only [Tr.n] at this; omega)
  refine (turnRight_T NN.out SZ0.out).mono ?_
  intro e w2 hG
  obtain ⟨p, rfl, g1, g2, g3⟩ := hG
  have iS : ∀ x, (x = cb ∨ Sl' x ∨ Sr' x) ↔ Sr x := fun x => (HSC.out x).symm
  have g1' := g1.iff iS
  obtain ⟨hb0, eb⟩ := N1.out.obj
  have nb : ¬ Sr b := N1.out.nr
  have eb2 : w2.heap[b]? = some (nodeObj v.k v.n v.s sl i lp (some cb) hb0) := (g2.block b (lt_of_block eb) (fun h => nb ((iS b).1 h))).trans eb
  have q6 := (node_cells eb2).2.2.1
  have qf := node_free eb2 6
  have G1 := Lib.hid g1'
  have G2 := Lib.hid g2
  have G3 := Lib.hid g3
  have EB := Lib.hid eb2
  have NB := Lib.hid nb
  have IS := Lib.hid iS
  clear g1 g1' g2 g3 eb eb2 nb iS
  go_wp2_with fail
  have e3 : (w2.setCell ⟨b, 6, none⟩ (.pointer (pa p))).heap[b]? = some (nodeObj v.k v.n v.s sl i lp p hb0) := node_setR EB.out p
  have fs := Fr.set (w := w2) (show w2.heap[b]? = some (.cells _ 68 _) from EB.out) 6 (.pointer (pa p))
  have fall := (Fr.refl w1).drew.drew.trans (G2.out.trans fs)
  have hnew : Node (w2.setCell ⟨b, 6, none⟩ (.pointer (pa p))) b lp p sl l v i (.node a u j (.node c rv ri rr)) Sl Sr := by
    refine ⟨⟨_, e3⟩, (N1.out.lst.fr fall), ?_, ?_, N1.out.nl, N1.out.nr, N1.out.ap⟩
    · exact N1.out.lt.fr fall (fun x hx e => e.elim id (fun e => e.elim (fun e => N1.out.ap x hx ((IS.out x).1 e)) (fun e => N1.out.nl (e ▸ hx))))
    · exact G1.out.fr fs (fun x hx e => NB.out (e ▸ hx))
  have HNEW := Lib.hid hnew
  have FALL := Lib.hid fall
  have SZ := Lib.hid (show (w2.setCell ⟨b, 6, none⟩ (.pointer (pa p))).heap.size = w1.heap.size by simp [World.setCell]; exact G3.out)
  have SZ1 := Lib.hid (show l.n + a.n + (Tr.node c rv ri rr).n < 1000 from by have := sz; rw [et.out, et2.out] at this; simp only [Tr.n] at this ⊢; omega)
  clear e3 fs fall hnew
  refine (turnLeft_T HNEW.out SZ1.out).mono ?_
  intro e w3 hG
  have hG' := hG
  obtain ⟨p3, rfl, _⟩ := hG
  have G := Lib.hid hG'
  clear hG'
  go_wp2_with fail
  go_ret
  refine G.out.after (F1.out.trans FALL.out) (SZ.out.trans S1.out) (fun x h => ?_) HB.out
  rcases h with h | h | h | h
  · exact .inl h
  · exact h.elim
  · exact .inr (.inr ((IS.out x).1 h))
  · exact .inl h
end Go.Proofs.YtifaaacbbjlffaaDoor
