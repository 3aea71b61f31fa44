/- The contract of the law's Val. -/
import Derived.Test.YtifaaacbbjlffaaDoorLawValL
namespace Go.Proofs.YtifaaacbbjlffaaDoor
open Go.RowKit Mor

set_option maxHeartbeats 2000000 in
theorem val_any (r : RawD) (sl : Value) (w : World) (h : RawOk w r sl) : Calls Tryd.prog 15 #[rawV r sl] w (GivesV (rawVal r) w) := by
  obtain ⟨la, lc, hsl, hlen, hj⟩ := h.l.2
  subst hsl
  have HN := Lib.hid h.n
  have HB := Lib.hid (fun (o o' : Obj) => ((Below.refl w.heap.size w).alloc (Nat.le_refl _) o).alloc (by simp) o')
  unfold rawV rawVal
  have b7 := pickZ_bd r.k 7 (by decide)
  have HPK := Lib.hid (fun W => pick_any r.k 7 h.k (by decide) (by decide) W)
  generalize pickZ r.k 7 = pk at *
  by_cases k0 : pk = 0
  · subst k0
    rw [if_pos rfl]
    clear hj h
    go_enter Tryd.func15, Tryd.ntmps15
    go_wp2_with fail
    refine (HPK.out _).mono ?_
    rintro e w1 ⟨rfl, rfl⟩
    go_wp2_with fail
    exact bodyPost_ret (v := .agg #[.int .i64 0, .int .i64 0, .string ⟨#[]⟩, .slice none 0 0]) (by simp [results, Tryd.results15, go_sem]) rfl ⟨_, rfl, isVx_bare _ _ _ _, HB.out _ _⟩
  rw [if_neg k0]
  have e0 : (pk == 0) = false := beq_eq_false_iff_ne.2 k0
  by_cases k1 : pk = 1
  · subst k1
    rw [if_pos rfl]
    clear hj h k0 
    have HPN := Lib.hid (fun W => pick_any r.n 12 HN.out (by decide) (by decide) W)
    have hb := pickZ_bd r.n 12 (by decide)
    generalize pickZ r.n 12 = z at *
    obtain ⟨z1, z2⟩ := hb
    go_enter Tryd.func15, Tryd.ntmps15
    go_wp2_with fail
    refine (HPK.out _).mono ?_
    rintro e w1 ⟨rfl, rfl⟩
    go_wp2_with fail
    refine (HPN.out _).mono ?_
    rintro e w1 ⟨rfl, rfl⟩
    go_wp2_with fail
    exact bodyPost_ret (v := .agg #[.int .i64 1, .int .i64 (z - 4), .string ⟨#[]⟩, .slice none 0 0]) (by simp [results, Tryd.results15, go_sem]) rfl ⟨_, rfl, isVx_bare _ _ _ _, HB.out _ _⟩
  rw [if_neg k1]
  have e1 : (pk == 1) = false := beq_eq_false_iff_ne.2 k1
  by_cases k2 : pk = 2
  · subst k2
    rw [if_pos rfl]
    clear hj h k0 k1
    have HPN := Lib.hid (fun W => pick_any r.n 12 HN.out (by decide) (by decide) W)
    have hb := pickZ_bd r.n 12 (by decide)
    generalize pickZ r.n 12 = z at *
    obtain ⟨z1, z2⟩ := hb
    go_enter Tryd.func15, Tryd.ntmps15
    go_wp2_with fail
    refine (HPK.out _).mono ?_
    rintro e w1 ⟨rfl, rfl⟩
    go_wp2_with fail
    refine (HPN.out _).mono ?_
    rintro e w1 ⟨rfl, rfl⟩
    go_wp2_with fail
    exact bodyPost_ret (v := .agg #[.int .i64 1, .int .i64 (z - 4), .string ⟨#[]⟩, .slice none 0 0]) (by simp [results, Tryd.results15, go_sem]) rfl ⟨_, rfl, isVx_bare _ _ _ _, HB.out _ _⟩
  rw [if_neg k2]
  have e2 : (pk == 2) = false := beq_eq_false_iff_ne.2 k2
  by_cases k3 : pk = 3
  · subst k3
    rw [if_pos rfl]
    clear hj h k0 k1 k2
    have HPN := Lib.hid (fun W => pick_any r.n 5 HN.out (by decide) (by decide) W)
    have hb := pickZ_bd r.n 5 (by decide)
    generalize pickZ r.n 5 = z at *
    obtain ⟨z1, z2⟩ := hb
    have hz : z = 0 ∨ z = 1 ∨ z = 2 ∨ z = 3 ∨ z = 4 := by omega
    clear z1 z2
    rcases hz with rfl | rfl | rfl | rfl | rfl
    · go_enter Tryd.func15, Tryd.ntmps15
      go_wp2_with fail
      refine (HPK.out _).mono ?_
      rintro e w1 ⟨rfl, rfl⟩
      go_wp2_with fail
      refine (HPN.out _).mono ?_
      rintro e w1 ⟨rfl, rfl⟩
      go_wp2_with fail
      exact bodyPost_ret (v := .agg #[.int .i64 2, .int .i64 0, .string ⟨#[]⟩, .slice none 0 0]) (by simp [results, Tryd.results15, go_sem]) rfl ⟨_, rfl, isVx_bare _ _ _ _, (HB.out _ _).alloc (by simp; omega) _⟩
    · go_enter Tryd.func15, Tryd.ntmps15
      go_wp2_with fail
      refine (HPK.out _).mono ?_
      rintro e w1 ⟨rfl, rfl⟩
      go_wp2_with fail
      refine (HPN.out _).mono ?_
      rintro e w1 ⟨rfl, rfl⟩
      go_wp2_with fail
      exact bodyPost_ret (v := .agg #[.int .i64 2, .int .i64 0, .string ⟨#[97]⟩, .slice none 0 0]) (by simp [results, Tryd.results15, go_sem]) rfl ⟨_, rfl, isVx_bare _ _ _ _, (HB.out _ _).alloc (by simp; omega) _⟩
    · go_enter Tryd.func15, Tryd.ntmps15
      go_wp2_with fail
      refine (HPK.out _).mono ?_
      rintro e w1 ⟨rfl, rfl⟩
      go_wp2_with fail
      refine (HPN.out _).mono ?_
      rintro e w1 ⟨rfl, rfl⟩
      go_wp2_with fail
      exact bodyPost_ret (v := .agg #[.int .i64 2, .int .i64 0, .string ⟨#[98]⟩, .slice none 0 0]) (by simp [results, Tryd.results15, go_sem]) rfl ⟨_, rfl, isVx_bare _ _ _ _, (HB.out _ _).alloc (by simp; omega) _⟩
    · go_enter Tryd.func15, Tryd.ntmps15
      go_wp2_with fail
      refine (HPK.out _).mono ?_
      rintro e w1 ⟨rfl, rfl⟩
      go_wp2_with fail
      refine (HPN.out _).mono ?_
      rintro e w1 ⟨rfl, rfl⟩
      go_wp2_with fail
      exact bodyPost_ret (v := .agg #[.int .i64 2, .int .i64 0, .string ⟨#[97, 98]⟩, .slice none 0 0]) (by simp [results, Tryd.results15, go_sem]) rfl ⟨_, rfl, isVx_bare _ _ _ _, (HB.out _ _).alloc (by simp; omega) _⟩
    · go_enter Tryd.func15, Tryd.ntmps15
      go_wp2_with fail
      refine (HPK.out _).mono ?_
      rintro e w1 ⟨rfl, rfl⟩
      go_wp2_with fail
      refine (HPN.out _).mono ?_
      rintro e w1 ⟨rfl, rfl⟩
      go_wp2_with fail
      exact bodyPost_ret (v := .agg #[.int .i64 2, .int .i64 0, .string ⟨#[195, 169]⟩, .slice none 0 0]) (by simp [results, Tryd.results15, go_sem]) rfl ⟨_, rfl, isVx_bare _ _ _ _, (HB.out _ _).alloc (by simp; omega) _⟩
  rw [if_neg k3]
  have e3 : (pk == 3) = false := beq_eq_false_iff_ne.2 k3
  by_cases k4 : pk = 4
  · subst k4
    rw [if_pos rfl]
    clear hj h k0 k1 k2 k3
    have HPN := Lib.hid (fun W => pick_any r.n 5 HN.out (by decide) (by decide) W)
    have hb := pickZ_bd r.n 5 (by decide)
    generalize pickZ r.n 5 = z at *
    obtain ⟨z1, z2⟩ := hb
    go_enter Tryd.func15, Tryd.ntmps15
    go_wp2_with fail
    refine (HPK.out _).mono ?_
    rintro e w1 ⟨rfl, rfl⟩
    go_wp2_with fail
    refine (HPN.out _).mono ?_
    rintro e w1 ⟨rfl, rfl⟩
    go_wp2_with fail
    exact bodyPost_ret (v := .agg #[.int .i64 3, .int .i64 (1 + z), .string ⟨#[]⟩, .slice none 0 0]) (by simp [results, Tryd.results15, go_sem]) rfl ⟨_, rfl, isVx_bare _ _ _ _, HB.out _ _⟩
  rw [if_neg k4]
  have e4 : (pk == 4) = false := beq_eq_false_iff_ne.2 k4
  by_cases k5 : pk = 5
  · subst k5
    rw [if_pos rfl]
    clear hj h k0 k1 k2 k3 k4
    have HPN := Lib.hid (fun W => pick_any r.n 3 HN.out (by decide) (by decide) W)
    have hb := pickZ_bd r.n 3 (by decide)
    generalize pickZ r.n 3 = z at *
    obtain ⟨z1, z2⟩ := hb
    go_enter Tryd.func15, Tryd.ntmps15
    go_wp2_with fail
    refine (HPK.out _).mono ?_
    rintro e w1 ⟨rfl, rfl⟩
    go_wp2_with fail
    refine (HPN.out _).mono ?_
    rintro e w1 ⟨rfl, rfl⟩
    go_wp2_with fail
    exact bodyPost_ret (v := .agg #[.int .i64 4, .int .i64 (1 + z), .string ⟨#[]⟩, .slice none 0 0]) (by simp [results, Tryd.results15, go_sem]) rfl ⟨_, rfl, isVx_bare _ _ _ _, HB.out _ _⟩
  rw [if_neg k5]
  have e5 : (pk == 5) = false := beq_eq_false_iff_ne.2 k5
  have hk6 : pk = 6 := by omega
  exact val_list r _ w h hk6 HPK.out
end Go.Proofs.YtifaaacbbjlffaaDoor
