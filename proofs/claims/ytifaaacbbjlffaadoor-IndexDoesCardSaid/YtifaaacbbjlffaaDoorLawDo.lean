/- The contract of the law's do: both tell the same. -/
import Derived.Test.YtifaaacbbjlffaaDoorLawOdd
import Derived.Test.YtifaaacbbjlffaaDoorRefRange
namespace Mor
theorem okAll_put {V : Vl} {i : Int} {L : List Pr} (h : ∀ p ∈ L, okB p.1 p.2 = true) : ∀ p ∈ putL V i L, okB p.1 p.2 = true := by
  unfold putL
  intro p hp
  split at hp
  · split at hp
    · exact h p hp
    · rename_i h1 _
      rcases mem_ins.1 hp with rfl | hp
      · exact h1
      · exact h p hp
  · exact h p hp
theorem okAll_drop {V : Vl} {i : Int} {L : List Pr} (h : ∀ p ∈ L, okB p.1 p.2 = true) : ∀ p ∈ dropL V i L, okB p.1 p.2 = true := by
  unfold dropL
  intro p hp
  split at hp
  · exact h p (List.mem_filter.1 hp).1
  · exact h p hp
theorem putL_len (V : Vl) (i : Int) (L : List Pr) : (putL V i L).length ≤ L.length + 1 := by
  unfold putL
  split
  · split
    · omega
    · rw [ins_length]; exact Nat.le_refl _
  · omega
theorem dropL_len (V : Vl) (i : Int) (L : List Pr) : (dropL V i L).length ≤ L.length := by
  unfold dropL
  split
  · exact List.length_filter_le _ _
  · omega
end Mor
namespace Go.Proofs.YtifaaacbbjlffaaDoor
open Go.RowKit Mor

/-- only blocks of indexes may have changed -/
structure Ft (W W' : World) : Prop where
  size : W.heap.size ≤ W'.heap.size
  block : ∀ (k : Nat) (arr : Array Value) (t : TypeId) (fr : Nat × Nat), W.heap[k]? = some (.cells arr t fr) → t ≠ 68 → t ≠ 59 → t ≠ 32 → W'.heap[k]? = W.heap[k]?
theorem Ft.of_below {W W' : World} (h : Below W.heap.size W W') : Ft W W' := ⟨h.size, fun k _ _ _ hk _ _ _ => h.block k (lt_of_some hk)⟩
theorem Ft.trans {A B C : World} (h : Ft A B) (k : Ft B C) : Ft A C := ⟨Nat.le_trans h.size k.size, fun i arr t fr hi h1 h2 h3 => by
  have e := h.block i arr t fr hi h1 h2 h3
  exact (k.block i arr t fr (e.trans hi) h1 h2 h3).trans e⟩
theorem Ft.of_fx {base : Nat} {W W' : World} (h : Fx base W W') : Ft W W' := ⟨h.size, fun k arr t fr hk h1 h2 _ => h.block k (lt_of_some hk) (.inr (by
  rintro (⟨a, f, e⟩ | ⟨a, f, e⟩)
  · rw [hk] at e; injection e with e; injection e with _ e; exact h1 e
  · rw [hk] at e; injection e with e; injection e with _ e; exact h2 e))⟩
theorem Ft.of_fz {rb : Nat} {v : Value} {W W' : World} (h : Fz rb W W') (hr : W.heap[rb]? = some (refObj v)) : Ft W W' := ⟨h.size, fun k arr t fr hk _ _ h3 => h.block k (lt_of_some hk) (by
  rintro rfl
  rw [hk] at hr; injection hr with e; injection e with _ e; exact h3 e)⟩
theorem IsLt.ft {W W' : World} {sl : Value} {l : List Pv} (h : IsLt W sl l) (hf : Ft W W') : IsLt W' sl l := h.keep fun k arr fr hk => hf.block k arr _ fr hk (by decide) (by decide) (by decide)
theorem IsR.ft {W W' : World} {rb : Nat} {L : List Pr} (h : IsR W rb L) (hf : Ft W W') (hs : W'.heap[rb]? = W.heap[rb]?) : IsR W' rb L := by
  obtain ⟨v, M, h1, h2, h3⟩ := h
  exact ⟨v, M, hs.trans h1, ⟨h2.row.keep fun k arr fr hk => hf.block k arr _ fr hk (by decide) (by decide) (by decide), fun m hm => (h2.m m hm).ft hf, h2.small⟩, h3⟩

/-- both indexes -/
structure Duo (w0 : World) (xb rb : Nat) (Lx Lr : List Pr) (W : World) : Prop where
  x : IsX w0.heap.size W xb Lx
  r : IsR W rb Lr
  rb : w0.heap.size ≤ rb
  b : Below w0.heap.size w0 W
theorem Duo.below {w0 : World} {xb rb : Nat} {Lx Lr : List Pr} {W W' : World} (h : Duo w0 xb rb Lx Lr W) (hb : Below W.heap.size W W') : Duo w0 xb rb Lx Lr W' := ⟨h.x.below hb, h.r.below hb, h.rb, h.b.trans (hb.mono h.b.size)⟩
theorem IsX.sorted {base xb : Nat} {W : World} {L : List Pr} (h : IsX base W xb L) : Sorted L := by obtain ⟨_, _, _, _, _, _, h, _⟩ := h; exact h
theorem Duo.stepX {w0 : World} {xb rb : Nat} {Lx Lx' Lr : List Pr} {W W' : World} (h : Duo w0 xb rb Lx Lr W) (hx : IsX w0.heap.size W' xb Lx') (hf : Fx w0.heap.size W W') : Duo w0 xb rb Lx' Lr W' ∧ Ft W W' := by
  have ft := Ft.of_fx hf
  refine ⟨⟨hx, ?_, h.rb, h.b.trans (hf.below (Nat.le_refl _) h.b.size)⟩, ft⟩
  obtain ⟨v, M, h1, _⟩ := h.r
  refine h.r.ft ft (hf.block _ (lt_of_some h1) (.inr ?_))
  rintro (⟨a, f, e⟩ | ⟨a, f, e⟩)
  · rw [h1] at e; injection e with e; injection e with _ e; exact absurd e (by decide)
  · rw [h1] at e; injection e with e; injection e with _ e; exact absurd e (by decide)
theorem Duo.stepR {w0 : World} {xb rb : Nat} {Lx Lr Lr' : List Pr} {W W' : World} (h : Duo w0 xb rb Lx Lr W) (hr : IsR W' rb Lr') (hf : Fz rb W W') : Duo w0 xb rb Lx Lr' W' ∧ Ft W W' := by
  obtain ⟨v, M, h1, _⟩ := h.r
  have ft := Ft.of_fz hf h1
  refine ⟨⟨?_, hr, h.rb, h.b.trans (hf.below h.rb h.b.size)⟩, ft⟩
  obtain ⟨t, p, S, x1, x2, x3⟩ := h.x
  have hne : ∀ k arr t fr, W.heap[k]? = some (.cells arr t fr) → t ≠ 32 → k ≠ rb := by
    rintro k arr t fr hk ht rfl
    rw [h1] at hk; injection hk with e; injection e with _ e; exact ht e.symm
  refine ⟨t, p, S, (hf.block _ (lt_of_some x1) (hne _ _ _ _ x1 (by decide))).trans x1, x2.keep (fun k arr fr hk => hf.block k (lt_of_some hk) (hne _ _ _ _ hk (by decide))) (fun x hx => ?_), x3⟩
  obtain ⟨arr, fr, e⟩ := x2.node x hx
  exact hf.block x (lt_of_some e) (hne _ _ _ _ e (by decide))

def callObj (c : CallD) (sv sw : Value) : Obj := .cells #[.int .u8 c.k, .int .i64 c.v.k, .int .i64 c.v.n, .string c.v.s, sv, .int .i64 c.w.k, .int .i64 c.w.n, .string c.w.s, sw, .int .i64 c.id] 35 (0, 0)
theorem call_cells {w : World} {b : Nat} {c : CallD} {sv sw : Value} (h : w.heap[b]? = some (callObj c sv sw)) : w.cell? ⟨b, 0, none⟩ = some (.int .u8 c.k) ∧ w.cell? ⟨b, 1, none⟩ = some (.int .i64 c.v.k) ∧ w.cell? ⟨b, 2, none⟩ = some (.int .i64 c.v.n) ∧ w.cell? ⟨b, 3, none⟩ = some (.string c.v.s) ∧ w.cell? ⟨b, 4, none⟩ = some sv ∧ w.cell? ⟨b, 5, none⟩ = some (.int .i64 c.w.k) ∧ w.cell? ⟨b, 6, none⟩ = some (.int .i64 c.w.n) ∧ w.cell? ⟨b, 7, none⟩ = some (.string c.w.s) ∧ w.cell? ⟨b, 8, none⟩ = some sw ∧ w.cell? ⟨b, 9, none⟩ = some (.int .i64 c.id) := by
  unfold callObj at h
  simp [World.cell?, h]
/-- what stays while both are asked: the call, and two values -/
structure DS (cb vb ub : Nat) (c : CallD) (sv sw : Value) (V U : Vl) (lv lu : Value) (W : World) : Prop where
  c : W.heap[cb]? = some (callObj c sv sw)
  v : W.heap[vb]? = some (valObj V lv)
  vl : IsLt W lv V.l
  u : W.heap[ub]? = some (valObj U lu)
  ul : IsLt W lu U.l
theorem DS.ft {cb vb ub : Nat} {c : CallD} {sv sw : Value} {V U : Vl} {lv lu : Value} {W W' : World} (h : DS cb vb ub c sv sw V U lv lu W) (hf : Ft W W') : DS cb vb ub c sv sw V U lv lu W' :=
  ⟨(hf.block _ _ _ _ h.c (by decide) (by decide) (by decide)).trans h.c, (hf.block _ _ _ _ h.v (by decide) (by decide) (by decide)).trans h.v, h.vl.ft hf, (hf.block _ _ _ _ h.u (by decide) (by decide) (by decide)).trans h.u, h.ul.ft hf⟩

/-- what do leaves: it told true, both hold the same again -/
def DidDo (w0 : World) (xb rb : Nat) (L : List Pr) (w : World) (e : Ending) (w' : World) : Prop := e = .returned (.bool true) ∧ ∃ L', Duo w0 xb rb L' L' w' ∧ L'.length ≤ L.length + 1 ∧ (∀ p ∈ L', okB p.1 p.2 = true) ∧ Ft w w'

set_option maxRecDepth 100000 in
set_option maxHeartbeats 16000000 in
theorem do_any (w0 : World) (xb rb : Nat) (L : List Pr) (c : CallD) (sv sw : Value) (w : World) (hT : Tabs w0) (hD : Duo w0 xb rb L L w) (hA : ∀ p ∈ L, okB p.1 p.2 = true) (hlen : L.length < 500) (hv : RawOk w c.v sv) (hw : RawOk w c.w sw) (hi : I64 c.id) (hk : 0 ≤ c.k ∧ c.k < 256) :
    Calls Tryd.prog 11 #[.pointer (some ⟨xb, 0, none⟩), .pointer (some ⟨rb, 0, none⟩), .agg #[.int .u8 c.k, .int .i64 c.v.k, .int .i64 c.v.n, .string c.v.s, sv, .int .i64 c.w.k, .int .i64 c.w.n, .string c.w.s, sw, .int .i64 c.id]] w (DidDo w0 xb rb L w) := by
  have HT := Lib.hid hT
  have HD := Lib.hid hD
  have HA := Lib.hid hA
  have HV := Lib.hid hv
  have HW := Lib.hid hw
  have HI := Lib.hid (fun W => id_still c.id hi W)
  have HZV := Lib.hid (szW_raw c.v)
  have HZW := Lib.hid (szW_raw c.w)
  obtain ⟨va, vn, vc, rfl⟩ := hv.slice
  obtain ⟨wa, wn, wc, rfl⟩ := hw.slice
  have B0 : Hid (Below w.heap.size w (w.alloc (callObj c (.slice va vn vc) (.slice wa wn wc)))) := (Below.refl _ w).alloc (Nat.le_refl _) _
  obtain ⟨hk1, hk2⟩ := hk
  clear hT hD hA hv hw hi
  have HVV := Lib.hid (fun W (hW : RawOk W c.v (.slice va vn vc)) => val_any c.v _ W hW)
  have HWW := Lib.hid (fun W (hW : RawOk W c.w (.slice wa wn wc)) => val_any c.w _ W hW)
  have HOV := Lib.hid (fun W (hW : RawOk W c.v (.slice va vn vc)) => odd_any c.v _ W hW)
  have HOW := Lib.hid (fun W (hW : RawOk W c.w (.slice wa wn wc)) => odd_any c.w _ W hW)
  unfold rawV at HVV HWW HOV HOW
  obtain ⟨km, hkm⟩ : ∃ km : Int, c.k % 6 = km := ⟨_, rfl⟩
  have hkm1 : 0 ≤ km := by omega
  have hkm2 : km < 6 := by omega
  by_cases k2 : km = 2
  · subst k2
    have e2 : ((2 : Int) == 2) = true := rfl
    have BZ := Lib.hid B0.out
    have CB : Hid ((w.alloc (callObj c (.slice va vn vc) (.slice wa wn wc))).heap[w.heap.size]? = some (callObj c (.slice va vn vc) (.slice wa wn wc))) := new_block w _ _ rfl
    have D := Lib.hid (HD.out.below B0.out)
    go_enter Tryd.func11, Tryd.ntmps11
    go_wp2_with fail
    refine (HVV.out _ (HV.out.below BZ.out)).mono ?_
    intro e w1 hG
    obtain ⟨vv, rfl, iv, bv⟩ := hG
    obtain ⟨sl1, rfl, il1⟩ := iv
    obtain ⟨la1, ln1, lc1, rfl⟩ := il1.1.slice
    have bz : Below (w.alloc (callObj c (.slice va vn vc) (.slice wa wn wc))).heap.size (w.alloc (callObj c (.slice va vn vc) (.slice wa wn wc))) (w1.alloc (valObj (rawVal c.v) (.slice la1 ln1 lc1))) := bv.alloc bv.size _
    replace CB : Hid (((w1.alloc (valObj (rawVal c.v) (.slice la1 ln1 lc1)))).heap[w.heap.size]? = some (callObj c (.slice va vn vc) (.slice wa wn wc))) := (bz.block _ (lt_of_some CB.out)).trans CB.out
    replace D := Lib.hid (D.out.below bz)
    have BK1 : Hid ((w1.alloc (valObj (rawVal c.v) (.slice la1 ln1 lc1))).heap[w1.heap.size]? = some (valObj (rawVal c.v) (.slice la1 ln1 lc1))) := new_block w1 _ _ rfl
    have LT1 : Hid (IsLt (w1.alloc (valObj (rawVal c.v) (.slice la1 ln1 lc1))) (.slice la1 ln1 lc1) (rawVal c.v).l) := il1.below ((Below.refl _ w1).alloc (Nat.le_refl _) _)
    replace BZ : Hid (Below w.heap.size w (w1.alloc (valObj (rawVal c.v) (.slice la1 ln1 lc1)))) := BZ.out.trans (bz.mono BZ.out.size)
    clear bz bv il1 
    obtain ⟨c0, c1, c2, c3, c4, c5, c6, c7, c8, c9⟩ := call_cells CB.out
    unfold valObj at c0 c1 c2 c3 c4 c5 c6 c7 c8 c9
    go_wp2_with fail
    refine (HWW.out _ (HW.out.below BZ.out)).mono ?_
    intro e w2 hG
    obtain ⟨vv, rfl, iv, bv⟩ := hG
    obtain ⟨sl2, rfl, il2⟩ := iv
    obtain ⟨la2, ln2, lc2, rfl⟩ := il2.1.slice
    have bz : Below ((w1.alloc (valObj (rawVal c.v) (.slice la1 ln1 lc1)))).heap.size ((w1.alloc (valObj (rawVal c.v) (.slice la1 ln1 lc1)))) (w2.alloc (valObj (rawVal c.w) (.slice la2 ln2 lc2))) := bv.alloc bv.size _
    replace CB : Hid (((w2.alloc (valObj (rawVal c.w) (.slice la2 ln2 lc2)))).heap[w.heap.size]? = some (callObj c (.slice va vn vc) (.slice wa wn wc))) := (bz.block _ (lt_of_some CB.out)).trans CB.out
    replace BK1 : Hid (((w2.alloc (valObj (rawVal c.w) (.slice la2 ln2 lc2)))).heap[w1.heap.size]? = some (valObj (rawVal c.v) (.slice la1 ln1 lc1))) := (bz.block _ (lt_of_some BK1.out)).trans BK1.out
    replace D := Lib.hid (D.out.below bz)
    replace LT1 := Lib.hid (LT1.out.below bz)
    have BK2 : Hid ((w2.alloc (valObj (rawVal c.w) (.slice la2 ln2 lc2))).heap[w2.heap.size]? = some (valObj (rawVal c.w) (.slice la2 ln2 lc2))) := new_block w2 _ _ rfl
    have LT2 : Hid (IsLt (w2.alloc (valObj (rawVal c.w) (.slice la2 ln2 lc2))) (.slice la2 ln2 lc2) (rawVal c.w).l) := il2.below ((Below.refl _ w2).alloc (Nat.le_refl _) _)
    replace BZ : Hid (Below w.heap.size w (w2.alloc (valObj (rawVal c.w) (.slice la2 ln2 lc2)))) := BZ.out.trans (bz.mono BZ.out.size)
    clear bz bv il2 c0 c1 c2 c3 c4 c5 c6 c7 c8 c9
    obtain ⟨c0, c1, c2, c3, c4, c5, c6, c7, c8, c9⟩ := call_cells CB.out
    unfold valObj at c0 c1 c2 c3 c4 c5 c6 c7 c8 c9
    go_wp2_with fail
    have hw0 := lt_of_some CB.out
    have ZS : Hid (DS w.heap.size w1.heap.size w2.heap.size c (.slice va vn vc) (.slice wa wn wc) (rawVal c.v) (rawVal c.w) (.slice la1 ln1 lc1) (.slice la2 ln2 lc2) ((w2.alloc (valObj (rawVal c.w) (.slice la2 ln2 lc2)))).drew) := ⟨heap_drew CB.out, heap_drew BK1.out, LT1.out.below (Below.refl _ _).drew, heap_drew BK2.out, LT2.out.below (Below.refl _ _).drew⟩
    replace D := Lib.hid (D.out.below (Below.refl _ _).drew)
    have FT : Hid (Ft w ((w2.alloc (valObj (rawVal c.w) (.slice la2 ln2 lc2)))).drew) := Ft.of_below BZ.out.drew
    clear c0 c1 c2 c3 c4 c5 c6 c7 c8 c9
    have SRT := Lib.hid D.out.x.sorted
    have HAA := Lib.hid HA.out
    refine wp_sch (fun W => DS w.heap.size w1.heap.size w2.heap.size c (.slice va vn vc) (.slice wa wn wc) (rawVal c.v) (rawVal c.w) (.slice la1 ln1 lc1) (.slice la2 ln2 lc2) W) (.read 0 (.read 1 (.read 2 (.read 3 (.read 6 (.read 7 (.read 8 (.read 9 (.call 4 (.call 5 (.call 10 (.call 11 (.read 12 (.read 13 .done)))))))))))))) (by kernel_rfl) (by kernel_rfl) (fun _ _ _ _ _ h => h) ZS.out ?_
    refine wpSch_read rfl (Or.inl ⟨by rfl, fun W hS => by obtain ⟨s1, s2, s3, s4, s5⟩ := hS; obtain ⟨c0, c1, c2, c3, c4, c5, c6, c7, c8, c9⟩ := call_cells s1; obtain ⟨d0, d1, d2, d3⟩ := val_cells s2; obtain ⟨e0, e1, e2, e3⟩ := val_cells s4; clear s1 s2 s3 s4 s5; go_simp; try with_reducible rfl⟩) ?_
    go_simp
    refine wpSch_read rfl (Or.inl ⟨by rfl, fun W hS => by obtain ⟨s1, s2, s3, s4, s5⟩ := hS; obtain ⟨c0, c1, c2, c3, c4, c5, c6, c7, c8, c9⟩ := call_cells s1; obtain ⟨d0, d1, d2, d3⟩ := val_cells s2; obtain ⟨e0, e1, e2, e3⟩ := val_cells s4; clear s1 s2 s3 s4 s5; go_simp; try with_reducible rfl⟩) ?_
    go_simp
    refine wpSch_read rfl (Or.inl ⟨by rfl, fun W hS => by obtain ⟨s1, s2, s3, s4, s5⟩ := hS; obtain ⟨c0, c1, c2, c3, c4, c5, c6, c7, c8, c9⟩ := call_cells s1; obtain ⟨d0, d1, d2, d3⟩ := val_cells s2; obtain ⟨e0, e1, e2, e3⟩ := val_cells s4; clear s1 s2 s3 s4 s5; go_simp; try with_reducible rfl⟩) ?_
    go_simp
    refine wpSch_read rfl (Or.inl ⟨by rfl, fun W hS => by obtain ⟨s1, s2, s3, s4, s5⟩ := hS; obtain ⟨c0, c1, c2, c3, c4, c5, c6, c7, c8, c9⟩ := call_cells s1; obtain ⟨d0, d1, d2, d3⟩ := val_cells s2; obtain ⟨e0, e1, e2, e3⟩ := val_cells s4; clear s1 s2 s3 s4 s5; go_simp; try with_reducible rfl⟩) ?_
    go_simp
    refine wpSch_read rfl (Or.inl ⟨by rfl, fun W hS => by obtain ⟨s1, s2, s3, s4, s5⟩ := hS; obtain ⟨c0, c1, c2, c3, c4, c5, c6, c7, c8, c9⟩ := call_cells s1; obtain ⟨d0, d1, d2, d3⟩ := val_cells s2; obtain ⟨e0, e1, e2, e3⟩ := val_cells s4; clear s1 s2 s3 s4 s5; go_simp; try with_reducible rfl⟩) ?_
    go_simp
    refine wpSch_read rfl (Or.inl ⟨by rfl, fun W hS => by obtain ⟨s1, s2, s3, s4, s5⟩ := hS; obtain ⟨c0, c1, c2, c3, c4, c5, c6, c7, c8, c9⟩ := call_cells s1; obtain ⟨d0, d1, d2, d3⟩ := val_cells s2; obtain ⟨e0, e1, e2, e3⟩ := val_cells s4; clear s1 s2 s3 s4 s5; go_simp; try with_reducible rfl⟩) ?_
    go_simp
    refine wpSch_read rfl (Or.inl ⟨by rfl, fun W hS => by obtain ⟨s1, s2, s3, s4, s5⟩ := hS; obtain ⟨c0, c1, c2, c3, c4, c5, c6, c7, c8, c9⟩ := call_cells s1; obtain ⟨d0, d1, d2, d3⟩ := val_cells s2; obtain ⟨e0, e1, e2, e3⟩ := val_cells s4; clear s1 s2 s3 s4 s5; go_simp; try with_reducible rfl⟩) ?_
    go_simp
    refine wpSch_read rfl (Or.inl ⟨by rfl, fun W hS => by obtain ⟨s1, s2, s3, s4, s5⟩ := hS; obtain ⟨c0, c1, c2, c3, c4, c5, c6, c7, c8, c9⟩ := call_cells s1; obtain ⟨d0, d1, d2, d3⟩ := val_cells s2; obtain ⟨e0, e1, e2, e3⟩ := val_cells s4; clear s1 s2 s3 s4 s5; go_simp; try with_reducible rfl⟩) ?_
    go_simp
    refine wpSch_do rfl (fun K hK => ?_)
    go_simp
    refine (HI.out _).mono ?_
    rintro e q1 ⟨rfl, rfl⟩
    refine hK _ _ ZS.out ?_
    clear hK K 
    go_simp
    refine wpSch_do rfl (fun K hK => ?_)
    go_simp
    refine (dropX_any (rawVal c.v) _ (1 + pickZ c.id 9) _ (HT.out.below D.out.b) HZV.out.v (show IsVx _ (.agg #[.int .i64 (rawVal c.v).k, .int .i64 (rawVal c.v).n, .string (rawVal c.v).s, .slice la1 ln1 lc1]) (rawVal c.v) from ⟨_, rfl, ZS.out.vl⟩) D.out.x (by omega)).mono ?_
    intro e q2 hG
    obtain ⟨rfl, hx, hf⟩ := hG
    obtain ⟨dd, ff⟩ := D.out.stepX hx hf
    replace ZS := Lib.hid (ZS.out.ft ff)
    replace FT := Lib.hid (FT.out.trans ff)
    replace D := Lib.hid dd
    refine hK _ _ ZS.out ?_
    clear hK K dd ff hx hf
    go_simp
    refine wpSch_do rfl (fun K hK => ?_)
    go_simp
    refine (HI.out _).mono ?_
    rintro e q3 ⟨rfl, rfl⟩
    refine hK _ _ ZS.out ?_
    clear hK K 
    go_simp
    refine wpSch_do rfl (fun K hK => ?_)
    go_simp
    refine (refDrop_any (rawVal c.v) _ (1 + pickZ c.id 9) _ D.out.r SRT.out HAA.out HZV.out (show IsV _ (.agg #[.int .i64 (rawVal c.v).k, .int .i64 (rawVal c.v).n, .string (rawVal c.v).s, .slice la1 ln1 lc1]) (rawVal c.v) from ⟨_, rfl, ZS.out.vl.1⟩)).mono ?_
    intro e q4 hG
    obtain ⟨rfl, hx, hf⟩ := hG
    obtain ⟨dd, ff⟩ := D.out.stepR hx hf
    replace ZS := Lib.hid (ZS.out.ft ff)
    replace FT := Lib.hid (FT.out.trans ff)
    replace D := Lib.hid dd
    replace SRT := Lib.hid D.out.x.sorted
    replace HAA := Lib.hid (okAll_drop (V := (rawVal c.v)) (i := 1 + pickZ c.id 9) HAA.out)
    have HL4 := dropL_len (rawVal c.v) (1 + pickZ c.id 9) L
    refine hK _ _ ZS.out ?_
    clear hK K dd ff hx hf
    go_simp
    refine wpSch_read rfl (Or.inl ⟨by rfl, fun W hS => by obtain ⟨s1, s2, s3, s4, s5⟩ := hS; obtain ⟨c0, c1, c2, c3, c4, c5, c6, c7, c8, c9⟩ := call_cells s1; obtain ⟨d0, d1, d2, d3⟩ := val_cells s2; obtain ⟨e0, e1, e2, e3⟩ := val_cells s4; clear s1 s2 s3 s4 s5; go_simp; try with_reducible rfl⟩) ?_
    go_simp
    refine wpSch_read rfl (Or.inl ⟨by rfl, fun W hS => by obtain ⟨s1, s2, s3, s4, s5⟩ := hS; obtain ⟨c0, c1, c2, c3, c4, c5, c6, c7, c8, c9⟩ := call_cells s1; obtain ⟨d0, d1, d2, d3⟩ := val_cells s2; obtain ⟨e0, e1, e2, e3⟩ := val_cells s4; clear s1 s2 s3 s4 s5; go_simp; try with_reducible rfl⟩) ?_
    go_simp
    refine wpSch_done ?_
    go_wp2_with fail
    go_ret
    exact ⟨by simp, _, D.out, by omega, HAA.out, FT.out⟩
  have e2 : (km == 2) = false := beq_eq_false_iff_ne.2 k2
  by_cases k3 : km = 3
  · subst k3
    have e3 : ((3 : Int) == 3) = true := rfl
    have BZ := Lib.hid B0.out
    have CB : Hid ((w.alloc (callObj c (.slice va vn vc) (.slice wa wn wc))).heap[w.heap.size]? = some (callObj c (.slice va vn vc) (.slice wa wn wc))) := new_block w _ _ rfl
    have D := Lib.hid (HD.out.below B0.out)
    go_enter Tryd.func11, Tryd.ntmps11
    go_wp2_with fail
    refine (HVV.out _ (HV.out.below BZ.out)).mono ?_
    intro e w1 hG
    obtain ⟨vv, rfl, iv, bv⟩ := hG
    obtain ⟨sl1, rfl, il1⟩ := iv
    obtain ⟨la1, ln1, lc1, rfl⟩ := il1.1.slice
    have bz : Below (w.alloc (callObj c (.slice va vn vc) (.slice wa wn wc))).heap.size (w.alloc (callObj c (.slice va vn vc) (.slice wa wn wc))) (w1.alloc (valObj (rawVal c.v) (.slice la1 ln1 lc1))) := bv.alloc bv.size _
    replace CB : Hid (((w1.alloc (valObj (rawVal c.v) (.slice la1 ln1 lc1)))).heap[w.heap.size]? = some (callObj c (.slice va vn vc) (.slice wa wn wc))) := (bz.block _ (lt_of_some CB.out)).trans CB.out
    replace D := Lib.hid (D.out.below bz)
    have BK1 : Hid ((w1.alloc (valObj (rawVal c.v) (.slice la1 ln1 lc1))).heap[w1.heap.size]? = some (valObj (rawVal c.v) (.slice la1 ln1 lc1))) := new_block w1 _ _ rfl
    have LT1 : Hid (IsLt (w1.alloc (valObj (rawVal c.v) (.slice la1 ln1 lc1))) (.slice la1 ln1 lc1) (rawVal c.v).l) := il1.below ((Below.refl _ w1).alloc (Nat.le_refl _) _)
    replace BZ : Hid (Below w.heap.size w (w1.alloc (valObj (rawVal c.v) (.slice la1 ln1 lc1)))) := BZ.out.trans (bz.mono BZ.out.size)
    clear bz bv il1 
    obtain ⟨c0, c1, c2, c3, c4, c5, c6, c7, c8, c9⟩ := call_cells CB.out
    unfold valObj at c0 c1 c2 c3 c4 c5 c6 c7 c8 c9
    go_wp2_with fail
    refine (HWW.out _ (HW.out.below BZ.out)).mono ?_
    intro e w2 hG
    obtain ⟨vv, rfl, iv, bv⟩ := hG
    obtain ⟨sl2, rfl, il2⟩ := iv
    obtain ⟨la2, ln2, lc2, rfl⟩ := il2.1.slice
    have bz : Below ((w1.alloc (valObj (rawVal c.v) (.slice la1 ln1 lc1)))).heap.size ((w1.alloc (valObj (rawVal c.v) (.slice la1 ln1 lc1)))) (w2.alloc (valObj (rawVal c.w) (.slice la2 ln2 lc2))) := bv.alloc bv.size _
    replace CB : Hid (((w2.alloc (valObj (rawVal c.w) (.slice la2 ln2 lc2)))).heap[w.heap.size]? = some (callObj c (.slice va vn vc) (.slice wa wn wc))) := (bz.block _ (lt_of_some CB.out)).trans CB.out
    replace BK1 : Hid (((w2.alloc (valObj (rawVal c.w) (.slice la2 ln2 lc2)))).heap[w1.heap.size]? = some (valObj (rawVal c.v) (.slice la1 ln1 lc1))) := (bz.block _ (lt_of_some BK1.out)).trans BK1.out
    replace D := Lib.hid (D.out.below bz)
    replace LT1 := Lib.hid (LT1.out.below bz)
    have BK2 : Hid ((w2.alloc (valObj (rawVal c.w) (.slice la2 ln2 lc2))).heap[w2.heap.size]? = some (valObj (rawVal c.w) (.slice la2 ln2 lc2))) := new_block w2 _ _ rfl
    have LT2 : Hid (IsLt (w2.alloc (valObj (rawVal c.w) (.slice la2 ln2 lc2))) (.slice la2 ln2 lc2) (rawVal c.w).l) := il2.below ((Below.refl _ w2).alloc (Nat.le_refl _) _)
    replace BZ : Hid (Below w.heap.size w (w2.alloc (valObj (rawVal c.w) (.slice la2 ln2 lc2)))) := BZ.out.trans (bz.mono BZ.out.size)
    clear bz bv il2 c0 c1 c2 c3 c4 c5 c6 c7 c8 c9
    obtain ⟨c0, c1, c2, c3, c4, c5, c6, c7, c8, c9⟩ := call_cells CB.out
    unfold valObj at c0 c1 c2 c3 c4 c5 c6 c7 c8 c9
    go_wp2_with fail
    have hw0 := lt_of_some CB.out
    have ZS : Hid (DS w.heap.size w1.heap.size w2.heap.size c (.slice va vn vc) (.slice wa wn wc) (rawVal c.v) (rawVal c.w) (.slice la1 ln1 lc1) (.slice la2 ln2 lc2) ((w2.alloc (valObj (rawVal c.w) (.slice la2 ln2 lc2)))).drew) := ⟨heap_drew CB.out, heap_drew BK1.out, LT1.out.below (Below.refl _ _).drew, heap_drew BK2.out, LT2.out.below (Below.refl _ _).drew⟩
    replace D := Lib.hid (D.out.below (Below.refl _ _).drew)
    have FT : Hid (Ft w ((w2.alloc (valObj (rawVal c.w) (.slice la2 ln2 lc2)))).drew) := Ft.of_below BZ.out.drew
    clear c0 c1 c2 c3 c4 c5 c6 c7 c8 c9
    have SRT := Lib.hid D.out.x.sorted
    have HAA := Lib.hid HA.out
    refine wp_sch (fun W => DS w.heap.size w1.heap.size w2.heap.size c (.slice va vn vc) (.slice wa wn wc) (rawVal c.v) (rawVal c.w) (.slice la1 ln1 lc1) (.slice la2 ln2 lc2) W) (.read 0 (.read 1 (.read 3 (.read 4 (.call 2 (.call 5 (.call 6 (.read 7 .done)))))))) (by kernel_rfl) (by kernel_rfl) (fun _ _ _ _ _ h => h) ZS.out ?_
    refine wpSch_read rfl (Or.inl ⟨by rfl, fun W hS => by obtain ⟨s1, s2, s3, s4, s5⟩ := hS; obtain ⟨c0, c1, c2, c3, c4, c5, c6, c7, c8, c9⟩ := call_cells s1; obtain ⟨d0, d1, d2, d3⟩ := val_cells s2; obtain ⟨e0, e1, e2, e3⟩ := val_cells s4; clear s1 s2 s3 s4 s5; go_simp; try with_reducible rfl⟩) ?_
    go_simp
    refine wpSch_read rfl (Or.inl ⟨by rfl, fun W hS => by obtain ⟨s1, s2, s3, s4, s5⟩ := hS; obtain ⟨c0, c1, c2, c3, c4, c5, c6, c7, c8, c9⟩ := call_cells s1; obtain ⟨d0, d1, d2, d3⟩ := val_cells s2; obtain ⟨e0, e1, e2, e3⟩ := val_cells s4; clear s1 s2 s3 s4 s5; go_simp; try with_reducible rfl⟩) ?_
    go_simp
    refine wpSch_read rfl (Or.inl ⟨by rfl, fun W hS => by obtain ⟨s1, s2, s3, s4, s5⟩ := hS; obtain ⟨c0, c1, c2, c3, c4, c5, c6, c7, c8, c9⟩ := call_cells s1; obtain ⟨d0, d1, d2, d3⟩ := val_cells s2; obtain ⟨e0, e1, e2, e3⟩ := val_cells s4; clear s1 s2 s3 s4 s5; go_simp; try with_reducible rfl⟩) ?_
    go_simp
    refine wpSch_read rfl (Or.inl ⟨by rfl, fun W hS => by obtain ⟨s1, s2, s3, s4, s5⟩ := hS; obtain ⟨c0, c1, c2, c3, c4, c5, c6, c7, c8, c9⟩ := call_cells s1; obtain ⟨d0, d1, d2, d3⟩ := val_cells s2; obtain ⟨e0, e1, e2, e3⟩ := val_cells s4; clear s1 s2 s3 s4 s5; go_simp; try with_reducible rfl⟩) ?_
    go_simp
    refine wpSch_do rfl (fun K hK => ?_)
    go_simp
    refine (find_any (rawVal c.v) _ _ (HT.out.below D.out.b) HZV.out.v (show IsVx _ (.agg #[.int .i64 (rawVal c.v).k, .int .i64 (rawVal c.v).n, .string (rawVal c.v).s, .slice la1 ln1 lc1]) (rawVal c.v) from ⟨_, rfl, ZS.out.vl⟩) D.out.x (by omega)).mono ?_
    intro e q1 hG
    obtain ⟨vv, rfl, ii, bv⟩ := hG
    obtain ⟨ia1, ic1, rfl⟩ := ii.len
    have Ix := Lib.hid ii
    replace ZS := Lib.hid (ZS.out.ft (Ft.of_below bv))
    replace FT := Lib.hid (FT.out.trans (Ft.of_below bv))
    replace D := Lib.hid (D.out.below bv)
    refine hK _ _ ZS.out ?_
    clear hK K bv ii
    go_simp
    refine wpSch_do rfl (fun K hK => ?_)
    go_simp
    refine (refFind_any (rawVal c.v) _ _ D.out.r HZV.out (show IsVx _ (.agg #[.int .i64 (rawVal c.v).k, .int .i64 (rawVal c.v).n, .string (rawVal c.v).s, .slice la1 ln1 lc1]) (rawVal c.v) from ⟨_, rfl, ZS.out.vl⟩)).mono ?_
    intro e q2 hG
    obtain ⟨vv, rfl, ii, bv⟩ := hG
    obtain ⟨ia2, ic2, rfl⟩ := ii.len
    have Ir := Lib.hid ii
    replace Ix := Lib.hid (Ix.out.below bv)
    replace ZS := Lib.hid (ZS.out.ft (Ft.of_below bv))
    replace FT := Lib.hid (FT.out.trans (Ft.of_below bv))
    replace D := Lib.hid (D.out.below bv)
    refine hK _ _ ZS.out ?_
    clear hK K bv ii
    go_simp
    refine wpSch_do rfl (fun K hK => ?_)
    go_simp
    refine (same_true Ix.out Ir.out).mono ?_
    rintro e q3 ⟨rfl, bv⟩
    replace ZS := Lib.hid (ZS.out.ft (Ft.of_below bv))
    replace FT := Lib.hid (FT.out.trans (Ft.of_below bv))
    replace D := Lib.hid (D.out.below bv)
    refine hK _ _ ZS.out ?_
    clear hK K bv Ix Ir
    go_simp
    refine wpSch_read rfl (Or.inl ⟨by rfl, fun W hS => by obtain ⟨s1, s2, s3, s4, s5⟩ := hS; obtain ⟨c0, c1, c2, c3, c4, c5, c6, c7, c8, c9⟩ := call_cells s1; obtain ⟨d0, d1, d2, d3⟩ := val_cells s2; obtain ⟨e0, e1, e2, e3⟩ := val_cells s4; clear s1 s2 s3 s4 s5; go_simp; try with_reducible rfl⟩) ?_
    go_simp
    refine wpSch_done ?_
    go_wp2_with fail
    go_ret
    exact ⟨by simp, _, D.out, by omega, HAA.out, FT.out⟩
  have e3 : (km == 3) = false := beq_eq_false_iff_ne.2 k3
  by_cases k4 : km = 4
  · subst k4
    have e4 : ((4 : Int) == 4) = true := rfl
    have BZ := Lib.hid B0.out
    have CB : Hid ((w.alloc (callObj c (.slice va vn vc) (.slice wa wn wc))).heap[w.heap.size]? = some (callObj c (.slice va vn vc) (.slice wa wn wc))) := new_block w _ _ rfl
    have D := Lib.hid (HD.out.below B0.out)
    go_enter Tryd.func11, Tryd.ntmps11
    go_wp2_with fail
    refine (HVV.out _ (HV.out.below BZ.out)).mono ?_
    intro e w1 hG
    obtain ⟨vv, rfl, iv, bv⟩ := hG
    obtain ⟨sl1, rfl, il1⟩ := iv
    obtain ⟨la1, ln1, lc1, rfl⟩ := il1.1.slice
    have bz : Below (w.alloc (callObj c (.slice va vn vc) (.slice wa wn wc))).heap.size (w.alloc (callObj c (.slice va vn vc) (.slice wa wn wc))) (w1.alloc (valObj (rawVal c.v) (.slice la1 ln1 lc1))) := bv.alloc bv.size _
    replace CB : Hid (((w1.alloc (valObj (rawVal c.v) (.slice la1 ln1 lc1)))).heap[w.heap.size]? = some (callObj c (.slice va vn vc) (.slice wa wn wc))) := (bz.block _ (lt_of_some CB.out)).trans CB.out
    replace D := Lib.hid (D.out.below bz)
    have BK1 : Hid ((w1.alloc (valObj (rawVal c.v) (.slice la1 ln1 lc1))).heap[w1.heap.size]? = some (valObj (rawVal c.v) (.slice la1 ln1 lc1))) := new_block w1 _ _ rfl
    have LT1 : Hid (IsLt (w1.alloc (valObj (rawVal c.v) (.slice la1 ln1 lc1))) (.slice la1 ln1 lc1) (rawVal c.v).l) := il1.below ((Below.refl _ w1).alloc (Nat.le_refl _) _)
    replace BZ : Hid (Below w.heap.size w (w1.alloc (valObj (rawVal c.v) (.slice la1 ln1 lc1)))) := BZ.out.trans (bz.mono BZ.out.size)
    clear bz bv il1 
    obtain ⟨c0, c1, c2, c3, c4, c5, c6, c7, c8, c9⟩ := call_cells CB.out
    unfold valObj at c0 c1 c2 c3 c4 c5 c6 c7 c8 c9
    go_wp2_with fail
    refine (HWW.out _ (HW.out.below BZ.out)).mono ?_
    intro e w2 hG
    obtain ⟨vv, rfl, iv, bv⟩ := hG
    obtain ⟨sl2, rfl, il2⟩ := iv
    obtain ⟨la2, ln2, lc2, rfl⟩ := il2.1.slice
    have bz : Below ((w1.alloc (valObj (rawVal c.v) (.slice la1 ln1 lc1)))).heap.size ((w1.alloc (valObj (rawVal c.v) (.slice la1 ln1 lc1)))) (w2.alloc (valObj (rawVal c.w) (.slice la2 ln2 lc2))) := bv.alloc bv.size _
    replace CB : Hid (((w2.alloc (valObj (rawVal c.w) (.slice la2 ln2 lc2)))).heap[w.heap.size]? = some (callObj c (.slice va vn vc) (.slice wa wn wc))) := (bz.block _ (lt_of_some CB.out)).trans CB.out
    replace BK1 : Hid (((w2.alloc (valObj (rawVal c.w) (.slice la2 ln2 lc2)))).heap[w1.heap.size]? = some (valObj (rawVal c.v) (.slice la1 ln1 lc1))) := (bz.block _ (lt_of_some BK1.out)).trans BK1.out
    replace D := Lib.hid (D.out.below bz)
    replace LT1 := Lib.hid (LT1.out.below bz)
    have BK2 : Hid ((w2.alloc (valObj (rawVal c.w) (.slice la2 ln2 lc2))).heap[w2.heap.size]? = some (valObj (rawVal c.w) (.slice la2 ln2 lc2))) := new_block w2 _ _ rfl
    have LT2 : Hid (IsLt (w2.alloc (valObj (rawVal c.w) (.slice la2 ln2 lc2))) (.slice la2 ln2 lc2) (rawVal c.w).l) := il2.below ((Below.refl _ w2).alloc (Nat.le_refl _) _)
    replace BZ : Hid (Below w.heap.size w (w2.alloc (valObj (rawVal c.w) (.slice la2 ln2 lc2)))) := BZ.out.trans (bz.mono BZ.out.size)
    clear bz bv il2 c0 c1 c2 c3 c4 c5 c6 c7 c8 c9
    obtain ⟨c0, c1, c2, c3, c4, c5, c6, c7, c8, c9⟩ := call_cells CB.out
    unfold valObj at c0 c1 c2 c3 c4 c5 c6 c7 c8 c9
    go_wp2_with fail
    have hw0 := lt_of_some CB.out
    have ZS : Hid (DS w.heap.size w1.heap.size w2.heap.size c (.slice va vn vc) (.slice wa wn wc) (rawVal c.v) (rawVal c.w) (.slice la1 ln1 lc1) (.slice la2 ln2 lc2) ((w2.alloc (valObj (rawVal c.w) (.slice la2 ln2 lc2)))).drew) := ⟨heap_drew CB.out, heap_drew BK1.out, LT1.out.below (Below.refl _ _).drew, heap_drew BK2.out, LT2.out.below (Below.refl _ _).drew⟩
    replace D := Lib.hid (D.out.below (Below.refl _ _).drew)
    have FT : Hid (Ft w ((w2.alloc (valObj (rawVal c.w) (.slice la2 ln2 lc2)))).drew) := Ft.of_below BZ.out.drew
    clear c0 c1 c2 c3 c4 c5 c6 c7 c8 c9
    have SRT := Lib.hid D.out.x.sorted
    have HAA := Lib.hid HA.out
    refine wp_sch (fun W => DS w.heap.size w1.heap.size w2.heap.size c (.slice va vn vc) (.slice wa wn wc) (rawVal c.v) (rawVal c.w) (.slice la1 ln1 lc1) (.slice la2 ln2 lc2) W) (.read 0 (.read 1 (.read 2 (.read 4 (.read 5 (.read 6 (.call 3 (.call 7 (.call 8 (.read 9 .done)))))))))) (by kernel_rfl) (by kernel_rfl) (fun _ _ _ _ _ h => h) ZS.out ?_
    refine wpSch_read rfl (Or.inl ⟨by rfl, fun W hS => by obtain ⟨s1, s2, s3, s4, s5⟩ := hS; obtain ⟨c0, c1, c2, c3, c4, c5, c6, c7, c8, c9⟩ := call_cells s1; obtain ⟨d0, d1, d2, d3⟩ := val_cells s2; obtain ⟨e0, e1, e2, e3⟩ := val_cells s4; clear s1 s2 s3 s4 s5; go_simp; try with_reducible rfl⟩) ?_
    go_simp
    refine wpSch_read rfl (Or.inl ⟨by rfl, fun W hS => by obtain ⟨s1, s2, s3, s4, s5⟩ := hS; obtain ⟨c0, c1, c2, c3, c4, c5, c6, c7, c8, c9⟩ := call_cells s1; obtain ⟨d0, d1, d2, d3⟩ := val_cells s2; obtain ⟨e0, e1, e2, e3⟩ := val_cells s4; clear s1 s2 s3 s4 s5; go_simp; try with_reducible rfl⟩) ?_
    go_simp
    refine wpSch_read rfl (Or.inl ⟨by rfl, fun W hS => by obtain ⟨s1, s2, s3, s4, s5⟩ := hS; obtain ⟨c0, c1, c2, c3, c4, c5, c6, c7, c8, c9⟩ := call_cells s1; obtain ⟨d0, d1, d2, d3⟩ := val_cells s2; obtain ⟨e0, e1, e2, e3⟩ := val_cells s4; clear s1 s2 s3 s4 s5; go_simp; try with_reducible rfl⟩) ?_
    go_simp
    refine wpSch_read rfl (Or.inl ⟨by rfl, fun W hS => by obtain ⟨s1, s2, s3, s4, s5⟩ := hS; obtain ⟨c0, c1, c2, c3, c4, c5, c6, c7, c8, c9⟩ := call_cells s1; obtain ⟨d0, d1, d2, d3⟩ := val_cells s2; obtain ⟨e0, e1, e2, e3⟩ := val_cells s4; clear s1 s2 s3 s4 s5; go_simp; try with_reducible rfl⟩) ?_
    go_simp
    refine wpSch_read rfl (Or.inl ⟨by rfl, fun W hS => by obtain ⟨s1, s2, s3, s4, s5⟩ := hS; obtain ⟨c0, c1, c2, c3, c4, c5, c6, c7, c8, c9⟩ := call_cells s1; obtain ⟨d0, d1, d2, d3⟩ := val_cells s2; obtain ⟨e0, e1, e2, e3⟩ := val_cells s4; clear s1 s2 s3 s4 s5; go_simp; try with_reducible rfl⟩) ?_
    go_simp
    refine wpSch_read rfl (Or.inl ⟨by rfl, fun W hS => by obtain ⟨s1, s2, s3, s4, s5⟩ := hS; obtain ⟨c0, c1, c2, c3, c4, c5, c6, c7, c8, c9⟩ := call_cells s1; obtain ⟨d0, d1, d2, d3⟩ := val_cells s2; obtain ⟨e0, e1, e2, e3⟩ := val_cells s4; clear s1 s2 s3 s4 s5; go_simp; try with_reducible rfl⟩) ?_
    go_simp
    refine wpSch_do rfl (fun K hK => ?_)
    go_simp
    refine (range_any (rawVal c.v) (rawVal c.w) _ _ _ (HT.out.below D.out.b) HZV.out.v HZW.out.v (show IsVx _ (.agg #[.int .i64 (rawVal c.v).k, .int .i64 (rawVal c.v).n, .string (rawVal c.v).s, .slice la1 ln1 lc1]) (rawVal c.v) from ⟨_, rfl, ZS.out.vl⟩) (show IsVx _ (.agg #[.int .i64 (rawVal c.w).k, .int .i64 (rawVal c.w).n, .string (rawVal c.w).s, .slice la2 ln2 lc2]) (rawVal c.w) from ⟨_, rfl, ZS.out.ul⟩) D.out.x (by omega)).mono ?_
    intro e q1 hG
    obtain ⟨vv, rfl, ii, bv⟩ := hG
    obtain ⟨ia1, ic1, rfl⟩ := ii.len
    have Ix := Lib.hid ii
    replace ZS := Lib.hid (ZS.out.ft (Ft.of_below bv))
    replace FT := Lib.hid (FT.out.trans (Ft.of_below bv))
    replace D := Lib.hid (D.out.below bv)
    refine hK _ _ ZS.out ?_
    clear hK K bv ii
    go_simp
    refine wpSch_do rfl (fun K hK => ?_)
    go_simp
    refine (refRange_any (rawVal c.v) (rawVal c.w) _ _ _ D.out.r HZV.out HZW.out (show IsVx _ (.agg #[.int .i64 (rawVal c.v).k, .int .i64 (rawVal c.v).n, .string (rawVal c.v).s, .slice la1 ln1 lc1]) (rawVal c.v) from ⟨_, rfl, ZS.out.vl⟩) (show IsVx _ (.agg #[.int .i64 (rawVal c.w).k, .int .i64 (rawVal c.w).n, .string (rawVal c.w).s, .slice la2 ln2 lc2]) (rawVal c.w) from ⟨_, rfl, ZS.out.ul⟩)).mono ?_
    intro e q2 hG
    obtain ⟨vv, rfl, ii, bv⟩ := hG
    obtain ⟨ia2, ic2, rfl⟩ := ii.len
    have Ir := Lib.hid ii
    replace Ix := Lib.hid (Ix.out.below bv)
    replace ZS := Lib.hid (ZS.out.ft (Ft.of_below bv))
    replace FT := Lib.hid (FT.out.trans (Ft.of_below bv))
    replace D := Lib.hid (D.out.below bv)
    refine hK _ _ ZS.out ?_
    clear hK K bv ii
    go_simp
    refine wpSch_do rfl (fun K hK => ?_)
    go_simp
    refine (same_true Ix.out Ir.out).mono ?_
    rintro e q3 ⟨rfl, bv⟩
    replace ZS := Lib.hid (ZS.out.ft (Ft.of_below bv))
    replace FT := Lib.hid (FT.out.trans (Ft.of_below bv))
    replace D := Lib.hid (D.out.below bv)
    refine hK _ _ ZS.out ?_
    clear hK K bv Ix Ir
    go_simp
    refine wpSch_read rfl (Or.inl ⟨by rfl, fun W hS => by obtain ⟨s1, s2, s3, s4, s5⟩ := hS; obtain ⟨c0, c1, c2, c3, c4, c5, c6, c7, c8, c9⟩ := call_cells s1; obtain ⟨d0, d1, d2, d3⟩ := val_cells s2; obtain ⟨e0, e1, e2, e3⟩ := val_cells s4; clear s1 s2 s3 s4 s5; go_simp; try with_reducible rfl⟩) ?_
    go_simp
    refine wpSch_done ?_
    go_wp2_with fail
    go_ret
    exact ⟨by simp, _, D.out, by omega, HAA.out, FT.out⟩
  have e4 : (km == 4) = false := beq_eq_false_iff_ne.2 k4
  by_cases k5 : km = 5
  · subst k5
    have e5 : ((5 : Int) == 5) = true := rfl
    have BZ := Lib.hid B0.out
    have CB : Hid ((w.alloc (callObj c (.slice va vn vc) (.slice wa wn wc))).heap[w.heap.size]? = some (callObj c (.slice va vn vc) (.slice wa wn wc))) := new_block w _ _ rfl
    have D := Lib.hid (HD.out.below B0.out)
    go_enter Tryd.func11, Tryd.ntmps11
    go_wp2_with fail
    refine (HVV.out _ (HV.out.below BZ.out)).mono ?_
    intro e w1 hG
    obtain ⟨vv, rfl, iv, bv⟩ := hG
    obtain ⟨sl1, rfl, il1⟩ := iv
    obtain ⟨la1, ln1, lc1, rfl⟩ := il1.1.slice
    have bz : Below (w.alloc (callObj c (.slice va vn vc) (.slice wa wn wc))).heap.size (w.alloc (callObj c (.slice va vn vc) (.slice wa wn wc))) (w1.alloc (valObj (rawVal c.v) (.slice la1 ln1 lc1))) := bv.alloc bv.size _
    replace CB : Hid (((w1.alloc (valObj (rawVal c.v) (.slice la1 ln1 lc1)))).heap[w.heap.size]? = some (callObj c (.slice va vn vc) (.slice wa wn wc))) := (bz.block _ (lt_of_some CB.out)).trans CB.out
    replace D := Lib.hid (D.out.below bz)
    have BK1 : Hid ((w1.alloc (valObj (rawVal c.v) (.slice la1 ln1 lc1))).heap[w1.heap.size]? = some (valObj (rawVal c.v) (.slice la1 ln1 lc1))) := new_block w1 _ _ rfl
    have LT1 : Hid (IsLt (w1.alloc (valObj (rawVal c.v) (.slice la1 ln1 lc1))) (.slice la1 ln1 lc1) (rawVal c.v).l) := il1.below ((Below.refl _ w1).alloc (Nat.le_refl _) _)
    replace BZ : Hid (Below w.heap.size w (w1.alloc (valObj (rawVal c.v) (.slice la1 ln1 lc1)))) := BZ.out.trans (bz.mono BZ.out.size)
    clear bz bv il1 
    obtain ⟨c0, c1, c2, c3, c4, c5, c6, c7, c8, c9⟩ := call_cells CB.out
    unfold valObj at c0 c1 c2 c3 c4 c5 c6 c7 c8 c9
    go_wp2_with fail
    refine (HWW.out _ (HW.out.below BZ.out)).mono ?_
    intro e w2 hG
    obtain ⟨vv, rfl, iv, bv⟩ := hG
    obtain ⟨sl2, rfl, il2⟩ := iv
    obtain ⟨la2, ln2, lc2, rfl⟩ := il2.1.slice
    have bz : Below ((w1.alloc (valObj (rawVal c.v) (.slice la1 ln1 lc1)))).heap.size ((w1.alloc (valObj (rawVal c.v) (.slice la1 ln1 lc1)))) (w2.alloc (valObj (rawVal c.w) (.slice la2 ln2 lc2))) := bv.alloc bv.size _
    replace CB : Hid (((w2.alloc (valObj (rawVal c.w) (.slice la2 ln2 lc2)))).heap[w.heap.size]? = some (callObj c (.slice va vn vc) (.slice wa wn wc))) := (bz.block _ (lt_of_some CB.out)).trans CB.out
    replace BK1 : Hid (((w2.alloc (valObj (rawVal c.w) (.slice la2 ln2 lc2)))).heap[w1.heap.size]? = some (valObj (rawVal c.v) (.slice la1 ln1 lc1))) := (bz.block _ (lt_of_some BK1.out)).trans BK1.out
    replace D := Lib.hid (D.out.below bz)
    replace LT1 := Lib.hid (LT1.out.below bz)
    have BK2 : Hid ((w2.alloc (valObj (rawVal c.w) (.slice la2 ln2 lc2))).heap[w2.heap.size]? = some (valObj (rawVal c.w) (.slice la2 ln2 lc2))) := new_block w2 _ _ rfl
    have LT2 : Hid (IsLt (w2.alloc (valObj (rawVal c.w) (.slice la2 ln2 lc2))) (.slice la2 ln2 lc2) (rawVal c.w).l) := il2.below ((Below.refl _ w2).alloc (Nat.le_refl _) _)
    replace BZ : Hid (Below w.heap.size w (w2.alloc (valObj (rawVal c.w) (.slice la2 ln2 lc2)))) := BZ.out.trans (bz.mono BZ.out.size)
    clear bz bv il2 c0 c1 c2 c3 c4 c5 c6 c7 c8 c9
    obtain ⟨c0, c1, c2, c3, c4, c5, c6, c7, c8, c9⟩ := call_cells CB.out
    unfold valObj at c0 c1 c2 c3 c4 c5 c6 c7 c8 c9
    go_wp2_with fail
    refine (HOV.out _ (HV.out.below BZ.out)).mono ?_
    intro e w3 hG
    obtain ⟨vv, rfl, iv, bv⟩ := hG
    obtain ⟨sl3, rfl, il3⟩ := iv
    obtain ⟨la3, ln3, lc3, rfl⟩ := il3.1.slice
    have bz : Below ((w2.alloc (valObj (rawVal c.w) (.slice la2 ln2 lc2)))).heap.size ((w2.alloc (valObj (rawVal c.w) (.slice la2 ln2 lc2)))) (w3.alloc (valObj (oddVal c.v) (.slice la3 ln3 lc3))) := bv.alloc bv.size _
    replace CB : Hid (((w3.alloc (valObj (oddVal c.v) (.slice la3 ln3 lc3)))).heap[w.heap.size]? = some (callObj c (.slice va vn vc) (.slice wa wn wc))) := (bz.block _ (lt_of_some CB.out)).trans CB.out
    replace BK1 : Hid (((w3.alloc (valObj (oddVal c.v) (.slice la3 ln3 lc3)))).heap[w1.heap.size]? = some (valObj (rawVal c.v) (.slice la1 ln1 lc1))) := (bz.block _ (lt_of_some BK1.out)).trans BK1.out
    replace BK2 : Hid (((w3.alloc (valObj (oddVal c.v) (.slice la3 ln3 lc3)))).heap[w2.heap.size]? = some (valObj (rawVal c.w) (.slice la2 ln2 lc2))) := (bz.block _ (lt_of_some BK2.out)).trans BK2.out
    replace D := Lib.hid (D.out.below bz)
    replace LT1 := Lib.hid (LT1.out.below bz)
    replace LT2 := Lib.hid (LT2.out.below bz)
    have BK3 : Hid ((w3.alloc (valObj (oddVal c.v) (.slice la3 ln3 lc3))).heap[w3.heap.size]? = some (valObj (oddVal c.v) (.slice la3 ln3 lc3))) := new_block w3 _ _ rfl
    have LT3 : Hid (IsLt (w3.alloc (valObj (oddVal c.v) (.slice la3 ln3 lc3))) (.slice la3 ln3 lc3) (oddVal c.v).l) := il3.below ((Below.refl _ w3).alloc (Nat.le_refl _) _)
    replace BZ : Hid (Below w.heap.size w (w3.alloc (valObj (oddVal c.v) (.slice la3 ln3 lc3)))) := BZ.out.trans (bz.mono BZ.out.size)
    clear bz bv il3 c0 c1 c2 c3 c4 c5 c6 c7 c8 c9
    obtain ⟨c0, c1, c2, c3, c4, c5, c6, c7, c8, c9⟩ := call_cells CB.out
    unfold valObj at c0 c1 c2 c3 c4 c5 c6 c7 c8 c9
    go_wp2_with fail
    refine (HOW.out _ (HW.out.below BZ.out)).mono ?_
    intro e w4 hG
    obtain ⟨vv, rfl, iv, bv⟩ := hG
    obtain ⟨sl4, rfl, il4⟩ := iv
    obtain ⟨la4, ln4, lc4, rfl⟩ := il4.1.slice
    have bz : Below ((w3.alloc (valObj (oddVal c.v) (.slice la3 ln3 lc3)))).heap.size ((w3.alloc (valObj (oddVal c.v) (.slice la3 ln3 lc3)))) (w4.alloc (valObj (oddVal c.w) (.slice la4 ln4 lc4))) := bv.alloc bv.size _
    replace CB : Hid (((w4.alloc (valObj (oddVal c.w) (.slice la4 ln4 lc4)))).heap[w.heap.size]? = some (callObj c (.slice va vn vc) (.slice wa wn wc))) := (bz.block _ (lt_of_some CB.out)).trans CB.out
    replace BK1 : Hid (((w4.alloc (valObj (oddVal c.w) (.slice la4 ln4 lc4)))).heap[w1.heap.size]? = some (valObj (rawVal c.v) (.slice la1 ln1 lc1))) := (bz.block _ (lt_of_some BK1.out)).trans BK1.out
    replace BK2 : Hid (((w4.alloc (valObj (oddVal c.w) (.slice la4 ln4 lc4)))).heap[w2.heap.size]? = some (valObj (rawVal c.w) (.slice la2 ln2 lc2))) := (bz.block _ (lt_of_some BK2.out)).trans BK2.out
    replace BK3 : Hid (((w4.alloc (valObj (oddVal c.w) (.slice la4 ln4 lc4)))).heap[w3.heap.size]? = some (valObj (oddVal c.v) (.slice la3 ln3 lc3))) := (bz.block _ (lt_of_some BK3.out)).trans BK3.out
    replace D := Lib.hid (D.out.below bz)
    replace LT1 := Lib.hid (LT1.out.below bz)
    replace LT2 := Lib.hid (LT2.out.below bz)
    replace LT3 := Lib.hid (LT3.out.below bz)
    have BK4 : Hid ((w4.alloc (valObj (oddVal c.w) (.slice la4 ln4 lc4))).heap[w4.heap.size]? = some (valObj (oddVal c.w) (.slice la4 ln4 lc4))) := new_block w4 _ _ rfl
    have LT4 : Hid (IsLt (w4.alloc (valObj (oddVal c.w) (.slice la4 ln4 lc4))) (.slice la4 ln4 lc4) (oddVal c.w).l) := il4.below ((Below.refl _ w4).alloc (Nat.le_refl _) _)
    replace BZ : Hid (Below w.heap.size w (w4.alloc (valObj (oddVal c.w) (.slice la4 ln4 lc4)))) := BZ.out.trans (bz.mono BZ.out.size)
    clear bz bv il4 c0 c1 c2 c3 c4 c5 c6 c7 c8 c9
    obtain ⟨c0, c1, c2, c3, c4, c5, c6, c7, c8, c9⟩ := call_cells CB.out
    unfold valObj at c0 c1 c2 c3 c4 c5 c6 c7 c8 c9
    go_wp2_with fail
    have HZ3 := Lib.hid (szW_odd c.v)
    have HZ4 := Lib.hid (szW_odd c.w)
    have hw0 := lt_of_some CB.out
    have ZS : Hid (DS w.heap.size w3.heap.size w4.heap.size c (.slice va vn vc) (.slice wa wn wc) (oddVal c.v) (oddVal c.w) (.slice la3 ln3 lc3) (.slice la4 ln4 lc4) ((w4.alloc (valObj (oddVal c.w) (.slice la4 ln4 lc4)))).drew) := ⟨heap_drew CB.out, heap_drew BK3.out, LT3.out.below (Below.refl _ _).drew, heap_drew BK4.out, LT4.out.below (Below.refl _ _).drew⟩
    replace D := Lib.hid (D.out.below (Below.refl _ _).drew)
    have FT : Hid (Ft w ((w4.alloc (valObj (oddVal c.w) (.slice la4 ln4 lc4)))).drew) := Ft.of_below BZ.out.drew
    clear c0 c1 c2 c3 c4 c5 c6 c7 c8 c9
    have SRT := Lib.hid D.out.x.sorted
    have HAA := Lib.hid HA.out
    refine wp_sch (fun W => DS w.heap.size w3.heap.size w4.heap.size c (.slice va vn vc) (.slice wa wn wc) (oddVal c.v) (oddVal c.w) (.slice la3 ln3 lc3) (.slice la4 ln4 lc4) W) (.read 0 (.read 1 (.read 2 (.read 3 (.read 5 (.read 6 (.read 7 (.read 8 (.call 4 (.call 9 (.read 10 (.read 11 (.read 12 (.read 13 (.read 14 (.read 15 (.read 17 (.read 18 (.read 19 (.read 20 (.call 16 (.call 21 (.read 22 (.read 23 (.read 24 (.read 25 (.read 26 (.read 28 (.read 29 (.call 27 (.call 30 (.call 31 (.read 32 (.read 33 (.read 34 (.read 35 (.read 36 (.read 38 (.read 39 (.read 40 (.call 37 (.call 41 (.call 42 (.read 43 (.read 44 .done))))))))))))))))))))))))))))))))))))))))))))) (by kernel_rfl) (by kernel_rfl) (fun _ _ _ _ _ h => h) ZS.out ?_
    refine wpSch_read rfl (Or.inl ⟨by rfl, fun W hS => by obtain ⟨s1, s2, s3, s4, s5⟩ := hS; obtain ⟨c0, c1, c2, c3, c4, c5, c6, c7, c8, c9⟩ := call_cells s1; obtain ⟨d0, d1, d2, d3⟩ := val_cells s2; obtain ⟨e0, e1, e2, e3⟩ := val_cells s4; clear s1 s2 s3 s4 s5; go_simp; try with_reducible rfl⟩) ?_
    go_simp
    refine wpSch_read rfl (Or.inl ⟨by rfl, fun W hS => by obtain ⟨s1, s2, s3, s4, s5⟩ := hS; obtain ⟨c0, c1, c2, c3, c4, c5, c6, c7, c8, c9⟩ := call_cells s1; obtain ⟨d0, d1, d2, d3⟩ := val_cells s2; obtain ⟨e0, e1, e2, e3⟩ := val_cells s4; clear s1 s2 s3 s4 s5; go_simp; try with_reducible rfl⟩) ?_
    go_simp
    refine wpSch_read rfl (Or.inl ⟨by rfl, fun W hS => by obtain ⟨s1, s2, s3, s4, s5⟩ := hS; obtain ⟨c0, c1, c2, c3, c4, c5, c6, c7, c8, c9⟩ := call_cells s1; obtain ⟨d0, d1, d2, d3⟩ := val_cells s2; obtain ⟨e0, e1, e2, e3⟩ := val_cells s4; clear s1 s2 s3 s4 s5; go_simp; try with_reducible rfl⟩) ?_
    go_simp
    refine wpSch_read rfl (Or.inl ⟨by rfl, fun W hS => by obtain ⟨s1, s2, s3, s4, s5⟩ := hS; obtain ⟨c0, c1, c2, c3, c4, c5, c6, c7, c8, c9⟩ := call_cells s1; obtain ⟨d0, d1, d2, d3⟩ := val_cells s2; obtain ⟨e0, e1, e2, e3⟩ := val_cells s4; clear s1 s2 s3 s4 s5; go_simp; try with_reducible rfl⟩) ?_
    go_simp
    refine wpSch_read rfl (Or.inl ⟨by rfl, fun W hS => by obtain ⟨s1, s2, s3, s4, s5⟩ := hS; obtain ⟨c0, c1, c2, c3, c4, c5, c6, c7, c8, c9⟩ := call_cells s1; obtain ⟨d0, d1, d2, d3⟩ := val_cells s2; obtain ⟨e0, e1, e2, e3⟩ := val_cells s4; clear s1 s2 s3 s4 s5; go_simp; try with_reducible rfl⟩) ?_
    go_simp
    refine wpSch_read rfl (Or.inl ⟨by rfl, fun W hS => by obtain ⟨s1, s2, s3, s4, s5⟩ := hS; obtain ⟨c0, c1, c2, c3, c4, c5, c6, c7, c8, c9⟩ := call_cells s1; obtain ⟨d0, d1, d2, d3⟩ := val_cells s2; obtain ⟨e0, e1, e2, e3⟩ := val_cells s4; clear s1 s2 s3 s4 s5; go_simp; try with_reducible rfl⟩) ?_
    go_simp
    refine wpSch_read rfl (Or.inl ⟨by rfl, fun W hS => by obtain ⟨s1, s2, s3, s4, s5⟩ := hS; obtain ⟨c0, c1, c2, c3, c4, c5, c6, c7, c8, c9⟩ := call_cells s1; obtain ⟨d0, d1, d2, d3⟩ := val_cells s2; obtain ⟨e0, e1, e2, e3⟩ := val_cells s4; clear s1 s2 s3 s4 s5; go_simp; try with_reducible rfl⟩) ?_
    go_simp
    refine wpSch_read rfl (Or.inl ⟨by rfl, fun W hS => by obtain ⟨s1, s2, s3, s4, s5⟩ := hS; obtain ⟨c0, c1, c2, c3, c4, c5, c6, c7, c8, c9⟩ := call_cells s1; obtain ⟨d0, d1, d2, d3⟩ := val_cells s2; obtain ⟨e0, e1, e2, e3⟩ := val_cells s4; clear s1 s2 s3 s4 s5; go_simp; try with_reducible rfl⟩) ?_
    go_simp
    refine wpSch_do rfl (fun K hK => ?_)
    go_simp
    refine (putX_any (oddVal c.v) _ (c.id) _ (HT.out.below D.out.b) HZ3.out.v (show IsVx _ (.agg #[.int .i64 (oddVal c.v).k, .int .i64 (oddVal c.v).n, .string (oddVal c.v).s, .slice la3 ln3 lc3]) (oddVal c.v) from ⟨_, rfl, ZS.out.vl⟩) D.out.x (by omega)).mono ?_
    intro e q1 hG
    obtain ⟨rfl, hx, hf⟩ := hG
    obtain ⟨dd, ff⟩ := D.out.stepX hx hf
    replace ZS := Lib.hid (ZS.out.ft ff)
    replace FT := Lib.hid (FT.out.trans ff)
    replace D := Lib.hid dd
    refine hK _ _ ZS.out ?_
    clear hK K dd ff hx hf
    go_simp
    refine wpSch_do rfl (fun K hK => ?_)
    go_simp
    refine (refPut_any (oddVal c.v) _ (c.id) _ D.out.r (by omega) SRT.out HZ3.out (show IsVx _ (.agg #[.int .i64 (oddVal c.v).k, .int .i64 (oddVal c.v).n, .string (oddVal c.v).s, .slice la3 ln3 lc3]) (oddVal c.v) from ⟨_, rfl, ZS.out.vl⟩)).mono ?_
    intro e q2 hG
    obtain ⟨rfl, hx, hf⟩ := hG
    obtain ⟨dd, ff⟩ := D.out.stepR hx hf
    replace ZS := Lib.hid (ZS.out.ft ff)
    replace FT := Lib.hid (FT.out.trans ff)
    replace D := Lib.hid dd
    replace SRT := Lib.hid D.out.x.sorted
    replace HAA := Lib.hid (okAll_put (V := (oddVal c.v)) (i := c.id) HAA.out)
    have HL2 := putL_len (oddVal c.v) (c.id) L
    refine hK _ _ ZS.out ?_
    clear hK K dd ff hx hf
    go_simp
    refine wpSch_read rfl (Or.inl ⟨by rfl, fun W hS => by obtain ⟨s1, s2, s3, s4, s5⟩ := hS; obtain ⟨c0, c1, c2, c3, c4, c5, c6, c7, c8, c9⟩ := call_cells s1; obtain ⟨d0, d1, d2, d3⟩ := val_cells s2; obtain ⟨e0, e1, e2, e3⟩ := val_cells s4; clear s1 s2 s3 s4 s5; go_simp; try with_reducible rfl⟩) ?_
    go_simp
    refine wpSch_read rfl (Or.inl ⟨by rfl, fun W hS => by obtain ⟨s1, s2, s3, s4, s5⟩ := hS; obtain ⟨c0, c1, c2, c3, c4, c5, c6, c7, c8, c9⟩ := call_cells s1; obtain ⟨d0, d1, d2, d3⟩ := val_cells s2; obtain ⟨e0, e1, e2, e3⟩ := val_cells s4; clear s1 s2 s3 s4 s5; go_simp; try with_reducible rfl⟩) ?_
    go_simp
    refine wpSch_read rfl (Or.inl ⟨by rfl, fun W hS => by obtain ⟨s1, s2, s3, s4, s5⟩ := hS; obtain ⟨c0, c1, c2, c3, c4, c5, c6, c7, c8, c9⟩ := call_cells s1; obtain ⟨d0, d1, d2, d3⟩ := val_cells s2; obtain ⟨e0, e1, e2, e3⟩ := val_cells s4; clear s1 s2 s3 s4 s5; go_simp; try with_reducible rfl⟩) ?_
    go_simp
    refine wpSch_read rfl (Or.inl ⟨by rfl, fun W hS => by obtain ⟨s1, s2, s3, s4, s5⟩ := hS; obtain ⟨c0, c1, c2, c3, c4, c5, c6, c7, c8, c9⟩ := call_cells s1; obtain ⟨d0, d1, d2, d3⟩ := val_cells s2; obtain ⟨e0, e1, e2, e3⟩ := val_cells s4; clear s1 s2 s3 s4 s5; go_simp; try with_reducible rfl⟩) ?_
    go_simp
    refine wpSch_read rfl (Or.inl ⟨by rfl, fun W hS => by obtain ⟨s1, s2, s3, s4, s5⟩ := hS; obtain ⟨c0, c1, c2, c3, c4, c5, c6, c7, c8, c9⟩ := call_cells s1; obtain ⟨d0, d1, d2, d3⟩ := val_cells s2; obtain ⟨e0, e1, e2, e3⟩ := val_cells s4; clear s1 s2 s3 s4 s5; go_simp; try with_reducible rfl⟩) ?_
    go_simp
    refine wpSch_read rfl (Or.inl ⟨by rfl, fun W hS => by obtain ⟨s1, s2, s3, s4, s5⟩ := hS; obtain ⟨c0, c1, c2, c3, c4, c5, c6, c7, c8, c9⟩ := call_cells s1; obtain ⟨d0, d1, d2, d3⟩ := val_cells s2; obtain ⟨e0, e1, e2, e3⟩ := val_cells s4; clear s1 s2 s3 s4 s5; go_simp; try with_reducible rfl⟩) ?_
    go_simp
    refine wpSch_read rfl (Or.inl ⟨by rfl, fun W hS => by obtain ⟨s1, s2, s3, s4, s5⟩ := hS; obtain ⟨c0, c1, c2, c3, c4, c5, c6, c7, c8, c9⟩ := call_cells s1; obtain ⟨d0, d1, d2, d3⟩ := val_cells s2; obtain ⟨e0, e1, e2, e3⟩ := val_cells s4; clear s1 s2 s3 s4 s5; go_simp; try with_reducible rfl⟩) ?_
    go_simp
    refine wpSch_read rfl (Or.inl ⟨by rfl, fun W hS => by obtain ⟨s1, s2, s3, s4, s5⟩ := hS; obtain ⟨c0, c1, c2, c3, c4, c5, c6, c7, c8, c9⟩ := call_cells s1; obtain ⟨d0, d1, d2, d3⟩ := val_cells s2; obtain ⟨e0, e1, e2, e3⟩ := val_cells s4; clear s1 s2 s3 s4 s5; go_simp; try with_reducible rfl⟩) ?_
    go_simp
    refine wpSch_read rfl (Or.inl ⟨by rfl, fun W hS => by obtain ⟨s1, s2, s3, s4, s5⟩ := hS; obtain ⟨c0, c1, c2, c3, c4, c5, c6, c7, c8, c9⟩ := call_cells s1; obtain ⟨d0, d1, d2, d3⟩ := val_cells s2; obtain ⟨e0, e1, e2, e3⟩ := val_cells s4; clear s1 s2 s3 s4 s5; go_simp; try with_reducible rfl⟩) ?_
    go_simp
    refine wpSch_read rfl (Or.inl ⟨by rfl, fun W hS => by obtain ⟨s1, s2, s3, s4, s5⟩ := hS; obtain ⟨c0, c1, c2, c3, c4, c5, c6, c7, c8, c9⟩ := call_cells s1; obtain ⟨d0, d1, d2, d3⟩ := val_cells s2; obtain ⟨e0, e1, e2, e3⟩ := val_cells s4; clear s1 s2 s3 s4 s5; go_simp; try with_reducible rfl⟩) ?_
    go_simp
    refine wpSch_do rfl (fun K hK => ?_)
    go_simp
    refine (dropX_any (oddVal c.w) _ (c.id) _ (HT.out.below D.out.b) HZ4.out.v (show IsVx _ (.agg #[.int .i64 (oddVal c.w).k, .int .i64 (oddVal c.w).n, .string (oddVal c.w).s, .slice la4 ln4 lc4]) (oddVal c.w) from ⟨_, rfl, ZS.out.ul⟩) D.out.x (by omega)).mono ?_
    intro e q3 hG
    obtain ⟨rfl, hx, hf⟩ := hG
    obtain ⟨dd, ff⟩ := D.out.stepX hx hf
    replace ZS := Lib.hid (ZS.out.ft ff)
    replace FT := Lib.hid (FT.out.trans ff)
    replace D := Lib.hid dd
    refine hK _ _ ZS.out ?_
    clear hK K dd ff hx hf
    go_simp
    refine wpSch_do rfl (fun K hK => ?_)
    go_simp
    refine (refDrop_any (oddVal c.w) _ (c.id) _ D.out.r SRT.out HAA.out HZ4.out (show IsV _ (.agg #[.int .i64 (oddVal c.w).k, .int .i64 (oddVal c.w).n, .string (oddVal c.w).s, .slice la4 ln4 lc4]) (oddVal c.w) from ⟨_, rfl, ZS.out.ul.1⟩)).mono ?_
    intro e q4 hG
    obtain ⟨rfl, hx, hf⟩ := hG
    obtain ⟨dd, ff⟩ := D.out.stepR hx hf
    replace ZS := Lib.hid (ZS.out.ft ff)
    replace FT := Lib.hid (FT.out.trans ff)
    replace D := Lib.hid dd
    replace SRT := Lib.hid D.out.x.sorted
    replace HAA := Lib.hid (okAll_drop (V := (oddVal c.w)) (i := c.id) HAA.out)
    have HL4 := dropL_len (oddVal c.w) (c.id) (putL (oddVal c.v) (c.id) L)
    refine hK _ _ ZS.out ?_
    clear hK K dd ff hx hf
    go_simp
    refine wpSch_read rfl (Or.inl ⟨by rfl, fun W hS => by obtain ⟨s1, s2, s3, s4, s5⟩ := hS; obtain ⟨c0, c1, c2, c3, c4, c5, c6, c7, c8, c9⟩ := call_cells s1; obtain ⟨d0, d1, d2, d3⟩ := val_cells s2; obtain ⟨e0, e1, e2, e3⟩ := val_cells s4; clear s1 s2 s3 s4 s5; go_simp; try with_reducible rfl⟩) ?_
    go_simp
    refine wpSch_read rfl (Or.inl ⟨by rfl, fun W hS => by obtain ⟨s1, s2, s3, s4, s5⟩ := hS; obtain ⟨c0, c1, c2, c3, c4, c5, c6, c7, c8, c9⟩ := call_cells s1; obtain ⟨d0, d1, d2, d3⟩ := val_cells s2; obtain ⟨e0, e1, e2, e3⟩ := val_cells s4; clear s1 s2 s3 s4 s5; go_simp; try with_reducible rfl⟩) ?_
    go_simp
    refine wpSch_read rfl (Or.inl ⟨by rfl, fun W hS => by obtain ⟨s1, s2, s3, s4, s5⟩ := hS; obtain ⟨c0, c1, c2, c3, c4, c5, c6, c7, c8, c9⟩ := call_cells s1; obtain ⟨d0, d1, d2, d3⟩ := val_cells s2; obtain ⟨e0, e1, e2, e3⟩ := val_cells s4; clear s1 s2 s3 s4 s5; go_simp; try with_reducible rfl⟩) ?_
    go_simp
    refine wpSch_read rfl (Or.inl ⟨by rfl, fun W hS => by obtain ⟨s1, s2, s3, s4, s5⟩ := hS; obtain ⟨c0, c1, c2, c3, c4, c5, c6, c7, c8, c9⟩ := call_cells s1; obtain ⟨d0, d1, d2, d3⟩ := val_cells s2; obtain ⟨e0, e1, e2, e3⟩ := val_cells s4; clear s1 s2 s3 s4 s5; go_simp; try with_reducible rfl⟩) ?_
    go_simp
    refine wpSch_read rfl (Or.inl ⟨by rfl, fun W hS => by obtain ⟨s1, s2, s3, s4, s5⟩ := hS; obtain ⟨c0, c1, c2, c3, c4, c5, c6, c7, c8, c9⟩ := call_cells s1; obtain ⟨d0, d1, d2, d3⟩ := val_cells s2; obtain ⟨e0, e1, e2, e3⟩ := val_cells s4; clear s1 s2 s3 s4 s5; go_simp; try with_reducible rfl⟩) ?_
    go_simp
    refine wpSch_read rfl (Or.inl ⟨by rfl, fun W hS => by obtain ⟨s1, s2, s3, s4, s5⟩ := hS; obtain ⟨c0, c1, c2, c3, c4, c5, c6, c7, c8, c9⟩ := call_cells s1; obtain ⟨d0, d1, d2, d3⟩ := val_cells s2; obtain ⟨e0, e1, e2, e3⟩ := val_cells s4; clear s1 s2 s3 s4 s5; go_simp; try with_reducible rfl⟩) ?_
    go_simp
    refine wpSch_read rfl (Or.inl ⟨by rfl, fun W hS => by obtain ⟨s1, s2, s3, s4, s5⟩ := hS; obtain ⟨c0, c1, c2, c3, c4, c5, c6, c7, c8, c9⟩ := call_cells s1; obtain ⟨d0, d1, d2, d3⟩ := val_cells s2; obtain ⟨e0, e1, e2, e3⟩ := val_cells s4; clear s1 s2 s3 s4 s5; go_simp; try with_reducible rfl⟩) ?_
    go_simp
    refine wpSch_do rfl (fun K hK => ?_)
    go_simp
    refine (find_any (oddVal c.v) _ _ (HT.out.below D.out.b) HZ3.out.v (show IsVx _ (.agg #[.int .i64 (oddVal c.v).k, .int .i64 (oddVal c.v).n, .string (oddVal c.v).s, .slice la3 ln3 lc3]) (oddVal c.v) from ⟨_, rfl, ZS.out.vl⟩) D.out.x (by omega)).mono ?_
    intro e q5 hG
    obtain ⟨vv, rfl, ii, bv⟩ := hG
    obtain ⟨ia5, ic5, rfl⟩ := ii.len
    have Ix := Lib.hid ii
    replace ZS := Lib.hid (ZS.out.ft (Ft.of_below bv))
    replace FT := Lib.hid (FT.out.trans (Ft.of_below bv))
    replace D := Lib.hid (D.out.below bv)
    refine hK _ _ ZS.out ?_
    clear hK K bv ii
    go_simp
    refine wpSch_do rfl (fun K hK => ?_)
    go_simp
    refine (refFind_any (oddVal c.v) _ _ D.out.r HZ3.out (show IsVx _ (.agg #[.int .i64 (oddVal c.v).k, .int .i64 (oddVal c.v).n, .string (oddVal c.v).s, .slice la3 ln3 lc3]) (oddVal c.v) from ⟨_, rfl, ZS.out.vl⟩)).mono ?_
    intro e q6 hG
    obtain ⟨vv, rfl, ii, bv⟩ := hG
    obtain ⟨ia6, ic6, rfl⟩ := ii.len
    have Ir := Lib.hid ii
    replace Ix := Lib.hid (Ix.out.below bv)
    replace ZS := Lib.hid (ZS.out.ft (Ft.of_below bv))
    replace FT := Lib.hid (FT.out.trans (Ft.of_below bv))
    replace D := Lib.hid (D.out.below bv)
    refine hK _ _ ZS.out ?_
    clear hK K bv ii
    go_simp
    refine wpSch_do rfl (fun K hK => ?_)
    go_simp
    refine (same_true Ix.out Ir.out).mono ?_
    rintro e q7 ⟨rfl, bv⟩
    replace ZS := Lib.hid (ZS.out.ft (Ft.of_below bv))
    replace FT := Lib.hid (FT.out.trans (Ft.of_below bv))
    replace D := Lib.hid (D.out.below bv)
    refine hK _ _ ZS.out ?_
    clear hK K bv Ix Ir
    go_simp
    refine wpSch_read rfl (Or.inl ⟨by rfl, fun W hS => by obtain ⟨s1, s2, s3, s4, s5⟩ := hS; obtain ⟨c0, c1, c2, c3, c4, c5, c6, c7, c8, c9⟩ := call_cells s1; obtain ⟨d0, d1, d2, d3⟩ := val_cells s2; obtain ⟨e0, e1, e2, e3⟩ := val_cells s4; clear s1 s2 s3 s4 s5; go_simp; try with_reducible rfl⟩) ?_
    go_simp
    refine wpSch_read rfl (Or.inl ⟨by rfl, fun W hS => by obtain ⟨s1, s2, s3, s4, s5⟩ := hS; obtain ⟨c0, c1, c2, c3, c4, c5, c6, c7, c8, c9⟩ := call_cells s1; obtain ⟨d0, d1, d2, d3⟩ := val_cells s2; obtain ⟨e0, e1, e2, e3⟩ := val_cells s4; clear s1 s2 s3 s4 s5; go_simp; try with_reducible rfl⟩) ?_
    go_simp
    refine wpSch_read rfl (Or.inl ⟨by rfl, fun W hS => by obtain ⟨s1, s2, s3, s4, s5⟩ := hS; obtain ⟨c0, c1, c2, c3, c4, c5, c6, c7, c8, c9⟩ := call_cells s1; obtain ⟨d0, d1, d2, d3⟩ := val_cells s2; obtain ⟨e0, e1, e2, e3⟩ := val_cells s4; clear s1 s2 s3 s4 s5; go_simp; try with_reducible rfl⟩) ?_
    go_simp
    refine wpSch_read rfl (Or.inl ⟨by rfl, fun W hS => by obtain ⟨s1, s2, s3, s4, s5⟩ := hS; obtain ⟨c0, c1, c2, c3, c4, c5, c6, c7, c8, c9⟩ := call_cells s1; obtain ⟨d0, d1, d2, d3⟩ := val_cells s2; obtain ⟨e0, e1, e2, e3⟩ := val_cells s4; clear s1 s2 s3 s4 s5; go_simp; try with_reducible rfl⟩) ?_
    go_simp
    refine wpSch_read rfl (Or.inl ⟨by rfl, fun W hS => by obtain ⟨s1, s2, s3, s4, s5⟩ := hS; obtain ⟨c0, c1, c2, c3, c4, c5, c6, c7, c8, c9⟩ := call_cells s1; obtain ⟨d0, d1, d2, d3⟩ := val_cells s2; obtain ⟨e0, e1, e2, e3⟩ := val_cells s4; clear s1 s2 s3 s4 s5; go_simp; try with_reducible rfl⟩) ?_
    go_simp
    refine wpSch_read rfl (Or.inl ⟨by rfl, fun W hS => by obtain ⟨s1, s2, s3, s4, s5⟩ := hS; obtain ⟨c0, c1, c2, c3, c4, c5, c6, c7, c8, c9⟩ := call_cells s1; obtain ⟨d0, d1, d2, d3⟩ := val_cells s2; obtain ⟨e0, e1, e2, e3⟩ := val_cells s4; clear s1 s2 s3 s4 s5; go_simp; try with_reducible rfl⟩) ?_
    go_simp
    refine wpSch_read rfl (Or.inl ⟨by rfl, fun W hS => by obtain ⟨s1, s2, s3, s4, s5⟩ := hS; obtain ⟨c0, c1, c2, c3, c4, c5, c6, c7, c8, c9⟩ := call_cells s1; obtain ⟨d0, d1, d2, d3⟩ := val_cells s2; obtain ⟨e0, e1, e2, e3⟩ := val_cells s4; clear s1 s2 s3 s4 s5; go_simp; try with_reducible rfl⟩) ?_
    go_simp
    refine wpSch_read rfl (Or.inl ⟨by rfl, fun W hS => by obtain ⟨s1, s2, s3, s4, s5⟩ := hS; obtain ⟨c0, c1, c2, c3, c4, c5, c6, c7, c8, c9⟩ := call_cells s1; obtain ⟨d0, d1, d2, d3⟩ := val_cells s2; obtain ⟨e0, e1, e2, e3⟩ := val_cells s4; clear s1 s2 s3 s4 s5; go_simp; try with_reducible rfl⟩) ?_
    go_simp
    refine wpSch_do rfl (fun K hK => ?_)
    go_simp
    refine (range_any (oddVal c.v) (oddVal c.w) _ _ _ (HT.out.below D.out.b) HZ3.out.v HZ4.out.v (show IsVx _ (.agg #[.int .i64 (oddVal c.v).k, .int .i64 (oddVal c.v).n, .string (oddVal c.v).s, .slice la3 ln3 lc3]) (oddVal c.v) from ⟨_, rfl, ZS.out.vl⟩) (show IsVx _ (.agg #[.int .i64 (oddVal c.w).k, .int .i64 (oddVal c.w).n, .string (oddVal c.w).s, .slice la4 ln4 lc4]) (oddVal c.w) from ⟨_, rfl, ZS.out.ul⟩) D.out.x (by omega)).mono ?_
    intro e q8 hG
    obtain ⟨vv, rfl, ii, bv⟩ := hG
    obtain ⟨ia8, ic8, rfl⟩ := ii.len
    have Ix := Lib.hid ii
    replace ZS := Lib.hid (ZS.out.ft (Ft.of_below bv))
    replace FT := Lib.hid (FT.out.trans (Ft.of_below bv))
    replace D := Lib.hid (D.out.below bv)
    refine hK _ _ ZS.out ?_
    clear hK K bv ii
    go_simp
    refine wpSch_do rfl (fun K hK => ?_)
    go_simp
    refine (refRange_any (oddVal c.v) (oddVal c.w) _ _ _ D.out.r HZ3.out HZ4.out (show IsVx _ (.agg #[.int .i64 (oddVal c.v).k, .int .i64 (oddVal c.v).n, .string (oddVal c.v).s, .slice la3 ln3 lc3]) (oddVal c.v) from ⟨_, rfl, ZS.out.vl⟩) (show IsVx _ (.agg #[.int .i64 (oddVal c.w).k, .int .i64 (oddVal c.w).n, .string (oddVal c.w).s, .slice la4 ln4 lc4]) (oddVal c.w) from ⟨_, rfl, ZS.out.ul⟩)).mono ?_
    intro e q9 hG
    obtain ⟨vv, rfl, ii, bv⟩ := hG
    obtain ⟨ia9, ic9, rfl⟩ := ii.len
    have Ir := Lib.hid ii
    replace Ix := Lib.hid (Ix.out.below bv)
    replace ZS := Lib.hid (ZS.out.ft (Ft.of_below bv))
    replace FT := Lib.hid (FT.out.trans (Ft.of_below bv))
    replace D := Lib.hid (D.out.below bv)
    refine hK _ _ ZS.out ?_
    clear hK K bv ii
    go_simp
    refine wpSch_do rfl (fun K hK => ?_)
    go_simp
    refine (same_true Ix.out Ir.out).mono ?_
    rintro e q10 ⟨rfl, bv⟩
    replace ZS := Lib.hid (ZS.out.ft (Ft.of_below bv))
    replace FT := Lib.hid (FT.out.trans (Ft.of_below bv))
    replace D := Lib.hid (D.out.below bv)
    refine hK _ _ ZS.out ?_
    clear hK K bv Ix Ir
    go_simp
    refine wpSch_read rfl (Or.inl ⟨by rfl, fun W hS => by obtain ⟨s1, s2, s3, s4, s5⟩ := hS; obtain ⟨c0, c1, c2, c3, c4, c5, c6, c7, c8, c9⟩ := call_cells s1; obtain ⟨d0, d1, d2, d3⟩ := val_cells s2; obtain ⟨e0, e1, e2, e3⟩ := val_cells s4; clear s1 s2 s3 s4 s5; go_simp; try with_reducible rfl⟩) ?_
    go_simp
    refine wpSch_read rfl (Or.inl ⟨by rfl, fun W hS => by obtain ⟨s1, s2, s3, s4, s5⟩ := hS; obtain ⟨c0, c1, c2, c3, c4, c5, c6, c7, c8, c9⟩ := call_cells s1; obtain ⟨d0, d1, d2, d3⟩ := val_cells s2; obtain ⟨e0, e1, e2, e3⟩ := val_cells s4; clear s1 s2 s3 s4 s5; go_simp; try with_reducible rfl⟩) ?_
    go_simp
    refine wpSch_done ?_
    go_wp2_with fail
    go_ret
    exact ⟨by simp, _, D.out, by omega, HAA.out, FT.out⟩
  have e5 : (km == 5) = false := beq_eq_false_iff_ne.2 k5
  have BZ := Lib.hid B0.out
  have CB : Hid ((w.alloc (callObj c (.slice va vn vc) (.slice wa wn wc))).heap[w.heap.size]? = some (callObj c (.slice va vn vc) (.slice wa wn wc))) := new_block w _ _ rfl
  have D := Lib.hid (HD.out.below B0.out)
  go_enter Tryd.func11, Tryd.ntmps11
  go_wp2_with fail
  refine (HVV.out _ (HV.out.below BZ.out)).mono ?_
  intro e w1 hG
  obtain ⟨vv, rfl, iv, bv⟩ := hG
  obtain ⟨sl1, rfl, il1⟩ := iv
  obtain ⟨la1, ln1, lc1, rfl⟩ := il1.1.slice
  have bz : Below (w.alloc (callObj c (.slice va vn vc) (.slice wa wn wc))).heap.size (w.alloc (callObj c (.slice va vn vc) (.slice wa wn wc))) (w1.alloc (valObj (rawVal c.v) (.slice la1 ln1 lc1))) := bv.alloc bv.size _
  replace CB : Hid (((w1.alloc (valObj (rawVal c.v) (.slice la1 ln1 lc1)))).heap[w.heap.size]? = some (callObj c (.slice va vn vc) (.slice wa wn wc))) := (bz.block _ (lt_of_some CB.out)).trans CB.out
  replace D := Lib.hid (D.out.below bz)
  have BK1 : Hid ((w1.alloc (valObj (rawVal c.v) (.slice la1 ln1 lc1))).heap[w1.heap.size]? = some (valObj (rawVal c.v) (.slice la1 ln1 lc1))) := new_block w1 _ _ rfl
  have LT1 : Hid (IsLt (w1.alloc (valObj (rawVal c.v) (.slice la1 ln1 lc1))) (.slice la1 ln1 lc1) (rawVal c.v).l) := il1.below ((Below.refl _ w1).alloc (Nat.le_refl _) _)
  replace BZ : Hid (Below w.heap.size w (w1.alloc (valObj (rawVal c.v) (.slice la1 ln1 lc1)))) := BZ.out.trans (bz.mono BZ.out.size)
  clear bz bv il1 
  obtain ⟨c0, c1, c2, c3, c4, c5, c6, c7, c8, c9⟩ := call_cells CB.out
  unfold valObj at c0 c1 c2 c3 c4 c5 c6 c7 c8 c9
  go_wp2_with fail
  refine (HWW.out _ (HW.out.below BZ.out)).mono ?_
  intro e w2 hG
  obtain ⟨vv, rfl, iv, bv⟩ := hG
  obtain ⟨sl2, rfl, il2⟩ := iv
  obtain ⟨la2, ln2, lc2, rfl⟩ := il2.1.slice
  have bz : Below ((w1.alloc (valObj (rawVal c.v) (.slice la1 ln1 lc1)))).heap.size ((w1.alloc (valObj (rawVal c.v) (.slice la1 ln1 lc1)))) (w2.alloc (valObj (rawVal c.w) (.slice la2 ln2 lc2))) := bv.alloc bv.size _
  replace CB : Hid (((w2.alloc (valObj (rawVal c.w) (.slice la2 ln2 lc2)))).heap[w.heap.size]? = some (callObj c (.slice va vn vc) (.slice wa wn wc))) := (bz.block _ (lt_of_some CB.out)).trans CB.out
  replace BK1 : Hid (((w2.alloc (valObj (rawVal c.w) (.slice la2 ln2 lc2)))).heap[w1.heap.size]? = some (valObj (rawVal c.v) (.slice la1 ln1 lc1))) := (bz.block _ (lt_of_some BK1.out)).trans BK1.out
  replace D := Lib.hid (D.out.below bz)
  replace LT1 := Lib.hid (LT1.out.below bz)
  have BK2 : Hid ((w2.alloc (valObj (rawVal c.w) (.slice la2 ln2 lc2))).heap[w2.heap.size]? = some (valObj (rawVal c.w) (.slice la2 ln2 lc2))) := new_block w2 _ _ rfl
  have LT2 : Hid (IsLt (w2.alloc (valObj (rawVal c.w) (.slice la2 ln2 lc2))) (.slice la2 ln2 lc2) (rawVal c.w).l) := il2.below ((Below.refl _ w2).alloc (Nat.le_refl _) _)
  replace BZ : Hid (Below w.heap.size w (w2.alloc (valObj (rawVal c.w) (.slice la2 ln2 lc2)))) := BZ.out.trans (bz.mono BZ.out.size)
  clear bz bv il2 c0 c1 c2 c3 c4 c5 c6 c7 c8 c9
  obtain ⟨c0, c1, c2, c3, c4, c5, c6, c7, c8, c9⟩ := call_cells CB.out
  unfold valObj at c0 c1 c2 c3 c4 c5 c6 c7 c8 c9
  go_wp2_with fail
  have hw0 := lt_of_some CB.out
  have ZS : Hid (DS w.heap.size w1.heap.size w2.heap.size c (.slice va vn vc) (.slice wa wn wc) (rawVal c.v) (rawVal c.w) (.slice la1 ln1 lc1) (.slice la2 ln2 lc2) ((w2.alloc (valObj (rawVal c.w) (.slice la2 ln2 lc2)))).drew) := ⟨heap_drew CB.out, heap_drew BK1.out, LT1.out.below (Below.refl _ _).drew, heap_drew BK2.out, LT2.out.below (Below.refl _ _).drew⟩
  replace D := Lib.hid (D.out.below (Below.refl _ _).drew)
  have FT : Hid (Ft w ((w2.alloc (valObj (rawVal c.w) (.slice la2 ln2 lc2)))).drew) := Ft.of_below BZ.out.drew
  clear c0 c1 c2 c3 c4 c5 c6 c7 c8 c9
  have SRT := Lib.hid D.out.x.sorted
  have HAA := Lib.hid HA.out
  refine wp_sch (fun W => DS w.heap.size w1.heap.size w2.heap.size c (.slice va vn vc) (.slice wa wn wc) (rawVal c.v) (rawVal c.w) (.slice la1 ln1 lc1) (.slice la2 ln2 lc2) W) (.read 0 (.read 1 (.read 2 (.read 3 (.read 6 (.read 7 (.read 8 (.read 9 (.call 4 (.call 5 (.call 10 (.call 11 (.read 12 (.read 13 .done)))))))))))))) (by kernel_rfl) (by kernel_rfl) (fun _ _ _ _ _ h => h) ZS.out ?_
  refine wpSch_read rfl (Or.inl ⟨by rfl, fun W hS => by obtain ⟨s1, s2, s3, s4, s5⟩ := hS; obtain ⟨c0, c1, c2, c3, c4, c5, c6, c7, c8, c9⟩ := call_cells s1; obtain ⟨d0, d1, d2, d3⟩ := val_cells s2; obtain ⟨e0, e1, e2, e3⟩ := val_cells s4; clear s1 s2 s3 s4 s5; go_simp; try with_reducible rfl⟩) ?_
  go_simp
  refine wpSch_read rfl (Or.inl ⟨by rfl, fun W hS => by obtain ⟨s1, s2, s3, s4, s5⟩ := hS; obtain ⟨c0, c1, c2, c3, c4, c5, c6, c7, c8, c9⟩ := call_cells s1; obtain ⟨d0, d1, d2, d3⟩ := val_cells s2; obtain ⟨e0, e1, e2, e3⟩ := val_cells s4; clear s1 s2 s3 s4 s5; go_simp; try with_reducible rfl⟩) ?_
  go_simp
  refine wpSch_read rfl (Or.inl ⟨by rfl, fun W hS => by obtain ⟨s1, s2, s3, s4, s5⟩ := hS; obtain ⟨c0, c1, c2, c3, c4, c5, c6, c7, c8, c9⟩ := call_cells s1; obtain ⟨d0, d1, d2, d3⟩ := val_cells s2; obtain ⟨e0, e1, e2, e3⟩ := val_cells s4; clear s1 s2 s3 s4 s5; go_simp; try with_reducible rfl⟩) ?_
  go_simp
  refine wpSch_read rfl (Or.inl ⟨by rfl, fun W hS => by obtain ⟨s1, s2, s3, s4, s5⟩ := hS; obtain ⟨c0, c1, c2, c3, c4, c5, c6, c7, c8, c9⟩ := call_cells s1; obtain ⟨d0, d1, d2, d3⟩ := val_cells s2; obtain ⟨e0, e1, e2, e3⟩ := val_cells s4; clear s1 s2 s3 s4 s5; go_simp; try with_reducible rfl⟩) ?_
  go_simp
  refine wpSch_read rfl (Or.inl ⟨by rfl, fun W hS => by obtain ⟨s1, s2, s3, s4, s5⟩ := hS; obtain ⟨c0, c1, c2, c3, c4, c5, c6, c7, c8, c9⟩ := call_cells s1; obtain ⟨d0, d1, d2, d3⟩ := val_cells s2; obtain ⟨e0, e1, e2, e3⟩ := val_cells s4; clear s1 s2 s3 s4 s5; go_simp; try with_reducible rfl⟩) ?_
  go_simp
  refine wpSch_read rfl (Or.inl ⟨by rfl, fun W hS => by obtain ⟨s1, s2, s3, s4, s5⟩ := hS; obtain ⟨c0, c1, c2, c3, c4, c5, c6, c7, c8, c9⟩ := call_cells s1; obtain ⟨d0, d1, d2, d3⟩ := val_cells s2; obtain ⟨e0, e1, e2, e3⟩ := val_cells s4; clear s1 s2 s3 s4 s5; go_simp; try with_reducible rfl⟩) ?_
  go_simp
  refine wpSch_read rfl (Or.inl ⟨by rfl, fun W hS => by obtain ⟨s1, s2, s3, s4, s5⟩ := hS; obtain ⟨c0, c1, c2, c3, c4, c5, c6, c7, c8, c9⟩ := call_cells s1; obtain ⟨d0, d1, d2, d3⟩ := val_cells s2; obtain ⟨e0, e1, e2, e3⟩ := val_cells s4; clear s1 s2 s3 s4 s5; go_simp; try with_reducible rfl⟩) ?_
  go_simp
  refine wpSch_read rfl (Or.inl ⟨by rfl, fun W hS => by obtain ⟨s1, s2, s3, s4, s5⟩ := hS; obtain ⟨c0, c1, c2, c3, c4, c5, c6, c7, c8, c9⟩ := call_cells s1; obtain ⟨d0, d1, d2, d3⟩ := val_cells s2; obtain ⟨e0, e1, e2, e3⟩ := val_cells s4; clear s1 s2 s3 s4 s5; go_simp; try with_reducible rfl⟩) ?_
  go_simp
  refine wpSch_do rfl (fun K hK => ?_)
  go_simp
  refine (HI.out _).mono ?_
  rintro e q1 ⟨rfl, rfl⟩
  refine hK _ _ ZS.out ?_
  clear hK K 
  go_simp
  refine wpSch_do rfl (fun K hK => ?_)
  go_simp
  refine (putX_any (rawVal c.v) _ (1 + pickZ c.id 9) _ (HT.out.below D.out.b) HZV.out.v (show IsVx _ (.agg #[.int .i64 (rawVal c.v).k, .int .i64 (rawVal c.v).n, .string (rawVal c.v).s, .slice la1 ln1 lc1]) (rawVal c.v) from ⟨_, rfl, ZS.out.vl⟩) D.out.x (by omega)).mono ?_
  intro e q2 hG
  obtain ⟨rfl, hx, hf⟩ := hG
  obtain ⟨dd, ff⟩ := D.out.stepX hx hf
  replace ZS := Lib.hid (ZS.out.ft ff)
  replace FT := Lib.hid (FT.out.trans ff)
  replace D := Lib.hid dd
  refine hK _ _ ZS.out ?_
  clear hK K dd ff hx hf
  go_simp
  refine wpSch_do rfl (fun K hK => ?_)
  go_simp
  refine (HI.out _).mono ?_
  rintro e q3 ⟨rfl, rfl⟩
  refine hK _ _ ZS.out ?_
  clear hK K 
  go_simp
  refine wpSch_do rfl (fun K hK => ?_)
  go_simp
  refine (refPut_any (rawVal c.v) _ (1 + pickZ c.id 9) _ D.out.r (by omega) SRT.out HZV.out (show IsVx _ (.agg #[.int .i64 (rawVal c.v).k, .int .i64 (rawVal c.v).n, .string (rawVal c.v).s, .slice la1 ln1 lc1]) (rawVal c.v) from ⟨_, rfl, ZS.out.vl⟩)).mono ?_
  intro e q4 hG
  obtain ⟨rfl, hx, hf⟩ := hG
  obtain ⟨dd, ff⟩ := D.out.stepR hx hf
  replace ZS := Lib.hid (ZS.out.ft ff)
  replace FT := Lib.hid (FT.out.trans ff)
  replace D := Lib.hid dd
  replace SRT := Lib.hid D.out.x.sorted
  replace HAA := Lib.hid (okAll_put (V := (rawVal c.v)) (i := 1 + pickZ c.id 9) HAA.out)
  have HL4 := putL_len (rawVal c.v) (1 + pickZ c.id 9) L
  refine hK _ _ ZS.out ?_
  clear hK K dd ff hx hf
  go_simp
  refine wpSch_read rfl (Or.inl ⟨by rfl, fun W hS => by obtain ⟨s1, s2, s3, s4, s5⟩ := hS; obtain ⟨c0, c1, c2, c3, c4, c5, c6, c7, c8, c9⟩ := call_cells s1; obtain ⟨d0, d1, d2, d3⟩ := val_cells s2; obtain ⟨e0, e1, e2, e3⟩ := val_cells s4; clear s1 s2 s3 s4 s5; go_simp; try with_reducible rfl⟩) ?_
  go_simp
  refine wpSch_read rfl (Or.inl ⟨by rfl, fun W hS => by obtain ⟨s1, s2, s3, s4, s5⟩ := hS; obtain ⟨c0, c1, c2, c3, c4, c5, c6, c7, c8, c9⟩ := call_cells s1; obtain ⟨d0, d1, d2, d3⟩ := val_cells s2; obtain ⟨e0, e1, e2, e3⟩ := val_cells s4; clear s1 s2 s3 s4 s5; go_simp; try with_reducible rfl⟩) ?_
  go_simp
  refine wpSch_done ?_
  go_wp2_with fail
  go_ret
  exact ⟨by simp, _, D.out, by omega, HAA.out, FT.out⟩
end Go.Proofs.YtifaaacbbjlffaaDoor
