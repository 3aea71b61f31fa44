/- moraineref03.Sign at a first byte from 128 on, a class of bytes at a time. -/
import Derived.Test.YtifaaacbbjlffaaDoorTextPlain
import Derived.BigGuardPart
import Derived.Control
namespace Go.Proofs.YtifaaacbbjlffaaDoor
open Go.RowKit Mor

theorem by_at (s : ByteArray) (i : Nat) (h : i < s.size) : by_ s.data.toList i = s[i].toNat := by
  unfold by_
  have : s.data.toList[i]? = some s[i] := by
    rw [List.getElem?_eq_getElem (by simpa using h)]; rfl
  simp [List.getD, this]

set_option maxHeartbeats 2000000 in
theorem sign_c0 (s : ByteArray) (hs : s.size ≤ 9223372036854775807) (p0 : 0 < s.size) (k1 : 128 ≤ s[0].toNat) (k2 : s[0].toNat ≤ 193) (w : World) : Calls Tryd.prog 55 #[.string s] w fun e w' => e = .returned (.int .i64 (signL s.data.toList)) ∧ w = w' := by
  have hl : s.data.toList.length = s.size := by simp
  have e0 := by_at s 0 p0
  have nd : needN s[0].toNat = 0 := by unfold needN; repeat (first | rw [if_pos (by omega)] | rw [if_neg (by omega)])
  · have E := Lib.hid (show signL s.data.toList = 0 by
      unfold signL signN
      rw [hl, e0, if_neg (by omega), if_neg (by omega), nd, if_pos rfl])
    rw [E.out]
    have hz : ((s.size : Int) == 0) = false := beq_eq_false_iff_ne.2 (by omega)
    have i0 : (0 : Int) < (s.size : Int) := by omega
    obtain ⟨x0, z0⟩ : ∃ x : Int, (s[0].toNat : Int) = x := ⟨_, rfl⟩
    have f1 : (128 : Int) ≤ x0 := by omega
    have f2 : x0 ≤ 193 := by omega
    have g224 : (x0 == 224) = false := beq_eq_false_iff_ne.2 (by omega)
    have g237 : (x0 == 237) = false := beq_eq_false_iff_ne.2 (by omega)
    have g240 : (x0 == 240) = false := beq_eq_false_iff_ne.2 (by omega)
    have g244 : (x0 == 244) = false := beq_eq_false_iff_ne.2 (by omega)
    have c128 : decide (x0 < 128) = false := decide_eq_false (by omega)
    have c194 : decide (194 ≤ x0) = false := decide_eq_false (by omega)
    have c224 : decide (224 ≤ x0) = false := decide_eq_false (by omega)
    have c240 : decide (240 ≤ x0) = false := decide_eq_false (by omega)
    have c223 : decide (x0 ≤ 223) = true := decide_eq_true (by omega)
    have c239 : decide (x0 ≤ 239) = true := decide_eq_true (by omega)
    have c244 : decide (x0 ≤ 244) = true := decide_eq_true (by omega)
    clear E hl nd k1 k2 e0
    go_enter Tryd.func55, Tryd.ntmps55
    go_wp2_with fail
    go_ret
    exact ⟨rfl, rfl⟩

set_option maxHeartbeats 2000000 in
theorem sign_c2 (s : ByteArray) (hs : s.size ≤ 9223372036854775807) (p0 : 0 < s.size) (k1 : 194 ≤ s[0].toNat) (k2 : s[0].toNat ≤ 223) (w : World) : Calls Tryd.prog 55 #[.string s] w fun e w' => e = .returned (.int .i64 (signL s.data.toList)) ∧ w = w' := by
  have hl : s.data.toList.length = s.size := by simp
  have e0 := by_at s 0 p0
  have nd : needN s[0].toNat = 2 := by unfold needN; repeat (first | rw [if_pos (by omega)] | rw [if_neg (by omega)])
  have lw : loN s[0].toNat = 128 := by unfold loN; repeat (first | rw [if_pos (by omega)] | rw [if_neg (by omega)])
  have hg : hiN s[0].toNat = 191 := by unfold hiN; repeat (first | rw [if_pos (by omega)] | rw [if_neg (by omega)])
  by_cases hn : s.size < 2
  · have E := Lib.hid (show signL s.data.toList = 0 by
      unfold signL signN
      rw [hl, e0, if_neg (by omega), if_neg (by omega), nd, if_neg (by omega), if_pos hn])
    rw [E.out]
    have hz : ((s.size : Int) == 0) = false := beq_eq_false_iff_ne.2 (by omega)
    have i0 : (0 : Int) < (s.size : Int) := by omega
    obtain ⟨x0, z0⟩ : ∃ x : Int, (s[0].toNat : Int) = x := ⟨_, rfl⟩
    have f1 : (194 : Int) ≤ x0 := by omega
    have f2 : x0 ≤ 223 := by omega
    have g224 : (x0 == 224) = false := beq_eq_false_iff_ne.2 (by omega)
    have g237 : (x0 == 237) = false := beq_eq_false_iff_ne.2 (by omega)
    have g240 : (x0 == 240) = false := beq_eq_false_iff_ne.2 (by omega)
    have g244 : (x0 == 244) = false := beq_eq_false_iff_ne.2 (by omega)
    have c128 : decide (x0 < 128) = false := decide_eq_false (by omega)
    have c194 : decide (194 ≤ x0) = true := decide_eq_true (by omega)
    have c224 : decide (224 ≤ x0) = false := decide_eq_false (by omega)
    have c240 : decide (240 ≤ x0) = false := decide_eq_false (by omega)
    have c223 : decide (x0 ≤ 223) = true := decide_eq_true (by omega)
    have c239 : decide (x0 ≤ 239) = true := decide_eq_true (by omega)
    have c244 : decide (x0 ≤ 244) = true := decide_eq_true (by omega)
    have t0 : (s.size : Int) < 2 := by omega
    clear E hl nd k1 k2 lw hg e0 hn
    go_enter Tryd.func55, Tryd.ntmps55
    go_wp2_with fail
    go_ret
    exact ⟨rfl, rfl⟩
  have p1 : 1 < s.size := by omega
  have e1 := by_at s 1 p1
  have u1 := UInt8.toNat_lt s[1]
  by_cases h1 : s[1].toNat < 128
  · have E := Lib.hid (show signL s.data.toList = 0 by
      unfold signL signN
      rw [hl, e0, if_neg (by omega), if_neg (by omega), nd, if_neg (by omega), if_neg hn, e1, lw, hg, if_pos (by omega)])
    rw [E.out]
    have hz : ((s.size : Int) == 0) = false := beq_eq_false_iff_ne.2 (by omega)
    have i0 : (0 : Int) < (s.size : Int) := by omega
    have i1 : (1 : Int) < (s.size : Int) := by omega
    obtain ⟨x0, z0⟩ : ∃ x : Int, (s[0].toNat : Int) = x := ⟨_, rfl⟩
    obtain ⟨x1, z1⟩ : ∃ x : Int, (s[1].toNat : Int) = x := ⟨_, rfl⟩
    have f1 : (194 : Int) ≤ x0 := by omega
    have f2 : x0 ≤ 223 := by omega
    have g224 : (x0 == 224) = false := beq_eq_false_iff_ne.2 (by omega)
    have g237 : (x0 == 237) = false := beq_eq_false_iff_ne.2 (by omega)
    have g240 : (x0 == 240) = false := beq_eq_false_iff_ne.2 (by omega)
    have g244 : (x0 == 244) = false := beq_eq_false_iff_ne.2 (by omega)
    have c128 : decide (x0 < 128) = false := decide_eq_false (by omega)
    have c194 : decide (194 ≤ x0) = true := decide_eq_true (by omega)
    have c224 : decide (224 ≤ x0) = false := decide_eq_false (by omega)
    have c240 : decide (240 ≤ x0) = false := decide_eq_false (by omega)
    have c223 : decide (x0 ≤ 223) = true := decide_eq_true (by omega)
    have c239 : decide (x0 ≤ 239) = true := decide_eq_true (by omega)
    have c244 : decide (x0 ≤ 244) = true := decide_eq_true (by omega)
    have t0 : ¬ (s.size : Int) < 2 := by omega
    have t1 : x1 < 128 := by omega
    have v1 : 0 ≤ x1 := by omega
    have v1' : x1 ≤ 255 := by omega
    clear E hl nd k1 k2 lw hg e0 e1 u1 hn h1
    go_enter Tryd.func55, Tryd.ntmps55
    go_wp2_with fail
    go_ret
    exact ⟨rfl, rfl⟩
  by_cases h2 : 191 < s[1].toNat
  · have E := Lib.hid (show signL s.data.toList = 0 by
      unfold signL signN
      rw [hl, e0, if_neg (by omega), if_neg (by omega), nd, if_neg (by omega), if_neg hn, e1, lw, hg, if_pos (by omega)])
    rw [E.out]
    have hz : ((s.size : Int) == 0) = false := beq_eq_false_iff_ne.2 (by omega)
    have i0 : (0 : Int) < (s.size : Int) := by omega
    have i1 : (1 : Int) < (s.size : Int) := by omega
    obtain ⟨x0, z0⟩ : ∃ x : Int, (s[0].toNat : Int) = x := ⟨_, rfl⟩
    obtain ⟨x1, z1⟩ : ∃ x : Int, (s[1].toNat : Int) = x := ⟨_, rfl⟩
    have f1 : (194 : Int) ≤ x0 := by omega
    have f2 : x0 ≤ 223 := by omega
    have g224 : (x0 == 224) = false := beq_eq_false_iff_ne.2 (by omega)
    have g237 : (x0 == 237) = false := beq_eq_false_iff_ne.2 (by omega)
    have g240 : (x0 == 240) = false := beq_eq_false_iff_ne.2 (by omega)
    have g244 : (x0 == 244) = false := beq_eq_false_iff_ne.2 (by omega)
    have c128 : decide (x0 < 128) = false := decide_eq_false (by omega)
    have c194 : decide (194 ≤ x0) = true := decide_eq_true (by omega)
    have c224 : decide (224 ≤ x0) = false := decide_eq_false (by omega)
    have c240 : decide (240 ≤ x0) = false := decide_eq_false (by omega)
    have c223 : decide (x0 ≤ 223) = true := decide_eq_true (by omega)
    have c239 : decide (x0 ≤ 239) = true := decide_eq_true (by omega)
    have c244 : decide (x0 ≤ 244) = true := decide_eq_true (by omega)
    have t0 : ¬ (s.size : Int) < 2 := by omega
    have t1 : ¬ x1 < 128 := by omega
    have d1 : decide (x1 < 128) = false := decide_eq_false (by omega)
    have t2 : 191 < x1 := by omega
    have v1 : 0 ≤ x1 := by omega
    have v1' : x1 ≤ 255 := by omega
    clear E hl nd k1 k2 lw hg e0 e1 u1 hn h1 h2
    go_enter Tryd.func55, Tryd.ntmps55
    go_wp2_with fail
    go_ret
    exact ⟨rfl, rfl⟩
  · have E := Lib.hid (show signL s.data.toList = 2 by
      unfold signL signN
      rw [hl, e0, if_neg (by omega), if_neg (by omega), nd, if_neg (by omega), if_neg hn, e1, lw, hg, if_neg (by omega), if_neg (by unfold midB; omega), if_neg (by unfold midB; omega)])
    rw [E.out]
    have hz : ((s.size : Int) == 0) = false := beq_eq_false_iff_ne.2 (by omega)
    have i0 : (0 : Int) < (s.size : Int) := by omega
    have i1 : (1 : Int) < (s.size : Int) := by omega
    obtain ⟨x0, z0⟩ : ∃ x : Int, (s[0].toNat : Int) = x := ⟨_, rfl⟩
    obtain ⟨x1, z1⟩ : ∃ x : Int, (s[1].toNat : Int) = x := ⟨_, rfl⟩
    have f1 : (194 : Int) ≤ x0 := by omega
    have f2 : x0 ≤ 223 := by omega
    have g224 : (x0 == 224) = false := beq_eq_false_iff_ne.2 (by omega)
    have g237 : (x0 == 237) = false := beq_eq_false_iff_ne.2 (by omega)
    have g240 : (x0 == 240) = false := beq_eq_false_iff_ne.2 (by omega)
    have g244 : (x0 == 244) = false := beq_eq_false_iff_ne.2 (by omega)
    have c128 : decide (x0 < 128) = false := decide_eq_false (by omega)
    have c194 : decide (194 ≤ x0) = true := decide_eq_true (by omega)
    have c224 : decide (224 ≤ x0) = false := decide_eq_false (by omega)
    have c240 : decide (240 ≤ x0) = false := decide_eq_false (by omega)
    have c223 : decide (x0 ≤ 223) = true := decide_eq_true (by omega)
    have c239 : decide (x0 ≤ 239) = true := decide_eq_true (by omega)
    have c244 : decide (x0 ≤ 244) = true := decide_eq_true (by omega)
    have t0 : ¬ (s.size : Int) < 2 := by omega
    have t1 : ¬ x1 < 128 := by omega
    have d1 : decide (x1 < 128) = false := decide_eq_false (by omega)
    have t2 : ¬ 191 < x1 := by omega
    have d2 : decide (191 < x1) = false := decide_eq_false (by omega)
    have v1 : 0 ≤ x1 := by omega
    have v1' : x1 ≤ 255 := by omega
    clear E hl nd k1 k2 lw hg e0 e1 u1 hn h1 h2
    go_enter Tryd.func55, Tryd.ntmps55
    go_wp2_with fail
    refine wp_loop_rounds 1 ?_
    rw [rounds_succ]
    go_wp2_with fail
    go_ret
    exact ⟨rfl, rfl⟩

set_option maxHeartbeats 2000000 in
theorem sign_c3a (s : ByteArray) (hs : s.size ≤ 9223372036854775807) (p0 : 0 < s.size) (k1 : 224 ≤ s[0].toNat) (k2 : s[0].toNat ≤ 224) (w : World) : Calls Tryd.prog 55 #[.string s] w fun e w' => e = .returned (.int .i64 (signL s.data.toList)) ∧ w = w' := by
  have hl : s.data.toList.length = s.size := by simp
  have e0 := by_at s 0 p0
  have nd : needN s[0].toNat = 3 := by unfold needN; repeat (first | rw [if_pos (by omega)] | rw [if_neg (by omega)])
  have lw : loN s[0].toNat = 160 := by unfold loN; repeat (first | rw [if_pos (by omega)] | rw [if_neg (by omega)])
  have hg : hiN s[0].toNat = 191 := by unfold hiN; repeat (first | rw [if_pos (by omega)] | rw [if_neg (by omega)])
  by_cases hn : s.size < 3
  · have E := Lib.hid (show signL s.data.toList = 0 by
      unfold signL signN
      rw [hl, e0, if_neg (by omega), if_neg (by omega), nd, if_neg (by omega), if_pos hn])
    rw [E.out]
    have hz : ((s.size : Int) == 0) = false := beq_eq_false_iff_ne.2 (by omega)
    have i0 : (0 : Int) < (s.size : Int) := by omega
    obtain ⟨x0, z0⟩ : ∃ x : Int, (s[0].toNat : Int) = x := ⟨_, rfl⟩
    obtain rfl : x0 = 224 := by omega
    have t0 : (s.size : Int) < 3 := by omega
    clear E hl nd k1 k2 lw hg e0 hn
    go_enter Tryd.func55, Tryd.ntmps55
    go_wp2_with fail
    go_ret
    exact ⟨rfl, rfl⟩
  have p1 : 1 < s.size := by omega
  have e1 := by_at s 1 p1
  have u1 := UInt8.toNat_lt s[1]
  by_cases h1 : s[1].toNat < 160
  · have E := Lib.hid (show signL s.data.toList = 0 by
      unfold signL signN
      rw [hl, e0, if_neg (by omega), if_neg (by omega), nd, if_neg (by omega), if_neg hn, e1, lw, hg, if_pos (by omega)])
    rw [E.out]
    have hz : ((s.size : Int) == 0) = false := beq_eq_false_iff_ne.2 (by omega)
    have i0 : (0 : Int) < (s.size : Int) := by omega
    have i1 : (1 : Int) < (s.size : Int) := by omega
    obtain ⟨x0, z0⟩ : ∃ x : Int, (s[0].toNat : Int) = x := ⟨_, rfl⟩
    obtain ⟨x1, z1⟩ : ∃ x : Int, (s[1].toNat : Int) = x := ⟨_, rfl⟩
    obtain rfl : x0 = 224 := by omega
    have t0 : ¬ (s.size : Int) < 3 := by omega
    have t1 : x1 < 160 := by omega
    have v1 : 0 ≤ x1 := by omega
    have v1' : x1 ≤ 255 := by omega
    clear E hl nd k1 k2 lw hg e0 e1 u1 hn h1
    go_enter Tryd.func55, Tryd.ntmps55
    go_wp2_with fail
    go_ret
    exact ⟨rfl, rfl⟩
  by_cases h2 : 191 < s[1].toNat
  · have E := Lib.hid (show signL s.data.toList = 0 by
      unfold signL signN
      rw [hl, e0, if_neg (by omega), if_neg (by omega), nd, if_neg (by omega), if_neg hn, e1, lw, hg, if_pos (by omega)])
    rw [E.out]
    have hz : ((s.size : Int) == 0) = false := beq_eq_false_iff_ne.2 (by omega)
    have i0 : (0 : Int) < (s.size : Int) := by omega
    have i1 : (1 : Int) < (s.size : Int) := by omega
    obtain ⟨x0, z0⟩ : ∃ x : Int, (s[0].toNat : Int) = x := ⟨_, rfl⟩
    obtain ⟨x1, z1⟩ : ∃ x : Int, (s[1].toNat : Int) = x := ⟨_, rfl⟩
    obtain rfl : x0 = 224 := by omega
    have t0 : ¬ (s.size : Int) < 3 := by omega
    have t1 : ¬ x1 < 160 := by omega
    have d1 : decide (x1 < 160) = false := decide_eq_false (by omega)
    have t2 : 191 < x1 := by omega
    have v1 : 0 ≤ x1 := by omega
    have v1' : x1 ≤ 255 := by omega
    clear E hl nd k1 k2 lw hg e0 e1 u1 hn h1 h2
    go_enter Tryd.func55, Tryd.ntmps55
    go_wp2_with fail
    go_ret
    exact ⟨rfl, rfl⟩
  have p2 : 2 < s.size := by omega
  have e2 := by_at s 2 p2
  have u2 := UInt8.toNat_lt s[2]
  by_cases l2 : s[2].toNat < 128
  · have E := Lib.hid (show signL s.data.toList = 0 by
      unfold signL signN
      rw [hl, e0, if_neg (by omega), if_neg (by omega), nd, if_neg (by omega), if_neg hn, e1, e2, lw, hg, if_neg (by omega), if_pos (by unfold midB; omega)])
    rw [E.out]
    have hz : ((s.size : Int) == 0) = false := beq_eq_false_iff_ne.2 (by omega)
    have i0 : (0 : Int) < (s.size : Int) := by omega
    have i1 : (1 : Int) < (s.size : Int) := by omega
    have i2 : (2 : Int) < (s.size : Int) := by omega
    obtain ⟨x0, z0⟩ : ∃ x : Int, (s[0].toNat : Int) = x := ⟨_, rfl⟩
    obtain ⟨x1, z1⟩ : ∃ x : Int, (s[1].toNat : Int) = x := ⟨_, rfl⟩
    obtain ⟨x2, z2⟩ : ∃ x : Int, (s[2].toNat : Int) = x := ⟨_, rfl⟩
    obtain rfl : x0 = 224 := by omega
    have t0 : ¬ (s.size : Int) < 3 := by omega
    have t1 : ¬ x1 < 160 := by omega
    have d1 : decide (x1 < 160) = false := decide_eq_false (by omega)
    have t2 : ¬ 191 < x1 := by omega
    have d2 : decide (191 < x1) = false := decide_eq_false (by omega)
    have t3 : x2 < 128 := by omega
    have v1 : 0 ≤ x1 := by omega
    have v1' : x1 ≤ 255 := by omega
    have v2 : 0 ≤ x2 := by omega
    have v2' : x2 ≤ 255 := by omega
    clear E hl nd k1 k2 lw hg e0 e1 e2 u1 u2 hn h1 h2 l2
    go_enter Tryd.func55, Tryd.ntmps55
    go_wp2_with fail
    refine wp_loop_rounds 1 ?_
    rw [rounds_succ]
    go_wp2_with fail
    go_ret
    exact ⟨rfl, rfl⟩
  by_cases r2 : 191 < s[2].toNat
  · have E := Lib.hid (show signL s.data.toList = 0 by
      unfold signL signN
      rw [hl, e0, if_neg (by omega), if_neg (by omega), nd, if_neg (by omega), if_neg hn, e1, e2, lw, hg, if_neg (by omega), if_pos (by unfold midB; omega)])
    rw [E.out]
    have hz : ((s.size : Int) == 0) = false := beq_eq_false_iff_ne.2 (by omega)
    have i0 : (0 : Int) < (s.size : Int) := by omega
    have i1 : (1 : Int) < (s.size : Int) := by omega
    have i2 : (2 : Int) < (s.size : Int) := by omega
    obtain ⟨x0, z0⟩ : ∃ x : Int, (s[0].toNat : Int) = x := ⟨_, rfl⟩
    obtain ⟨x1, z1⟩ : ∃ x : Int, (s[1].toNat : Int) = x := ⟨_, rfl⟩
    obtain ⟨x2, z2⟩ : ∃ x : Int, (s[2].toNat : Int) = x := ⟨_, rfl⟩
    obtain rfl : x0 = 224 := by omega
    have t0 : ¬ (s.size : Int) < 3 := by omega
    have t1 : ¬ x1 < 160 := by omega
    have d1 : decide (x1 < 160) = false := decide_eq_false (by omega)
    have t2 : ¬ 191 < x1 := by omega
    have d2 : decide (191 < x1) = false := decide_eq_false (by omega)
    have t3 : ¬ x2 < 128 := by omega
    have d3 : decide (x2 < 128) = false := decide_eq_false (by omega)
    have t4 : 191 < x2 := by omega
    have v1 : 0 ≤ x1 := by omega
    have v1' : x1 ≤ 255 := by omega
    have v2 : 0 ≤ x2 := by omega
    have v2' : x2 ≤ 255 := by omega
    clear E hl nd k1 k2 lw hg e0 e1 e2 u1 u2 hn h1 h2 l2 r2
    go_enter Tryd.func55, Tryd.ntmps55
    go_wp2_with fail
    refine wp_loop_rounds 1 ?_
    rw [rounds_succ]
    go_wp2_with fail
    go_ret
    exact ⟨rfl, rfl⟩
  · have E := Lib.hid (show signL s.data.toList = 3 by
      unfold signL signN
      rw [hl, e0, if_neg (by omega), if_neg (by omega), nd, if_neg (by omega), if_neg hn, e1, e2, lw, hg, if_neg (by omega), if_neg (by unfold midB; omega), if_neg (by unfold midB; omega)])
    rw [E.out]
    have hz : ((s.size : Int) == 0) = false := beq_eq_false_iff_ne.2 (by omega)
    have i0 : (0 : Int) < (s.size : Int) := by omega
    have i1 : (1 : Int) < (s.size : Int) := by omega
    have i2 : (2 : Int) < (s.size : Int) := by omega
    obtain ⟨x0, z0⟩ : ∃ x : Int, (s[0].toNat : Int) = x := ⟨_, rfl⟩
    obtain ⟨x1, z1⟩ : ∃ x : Int, (s[1].toNat : Int) = x := ⟨_, rfl⟩
    obtain ⟨x2, z2⟩ : ∃ x : Int, (s[2].toNat : Int) = x := ⟨_, rfl⟩
    obtain rfl : x0 = 224 := by omega
    have t0 : ¬ (s.size : Int) < 3 := by omega
    have t1 : ¬ x1 < 160 := by omega
    have d1 : decide (x1 < 160) = false := decide_eq_false (by omega)
    have t2 : ¬ 191 < x1 := by omega
    have d2 : decide (191 < x1) = false := decide_eq_false (by omega)
    have t3 : ¬ x2 < 128 := by omega
    have d3 : decide (x2 < 128) = false := decide_eq_false (by omega)
    have t4 : ¬ 191 < x2 := by omega
    have d4 : decide (191 < x2) = false := decide_eq_false (by omega)
    have v1 : 0 ≤ x1 := by omega
    have v1' : x1 ≤ 255 := by omega
    have v2 : 0 ≤ x2 := by omega
    have v2' : x2 ≤ 255 := by omega
    clear E hl nd k1 k2 lw hg e0 e1 e2 u1 u2 hn h1 h2 l2 r2
    go_enter Tryd.func55, Tryd.ntmps55
    go_wp2_with fail
    refine wp_loop_rounds 2 ?_
    rw [rounds_succ]
    go_wp2_with fail
    rw [rounds_succ]
    go_wp2_with fail
    go_ret
    exact ⟨rfl, rfl⟩

set_option maxHeartbeats 2000000 in
theorem sign_c3b (s : ByteArray) (hs : s.size ≤ 9223372036854775807) (p0 : 0 < s.size) (k1 : 225 ≤ s[0].toNat) (k2 : s[0].toNat ≤ 236) (w : World) : Calls Tryd.prog 55 #[.string s] w fun e w' => e = .returned (.int .i64 (signL s.data.toList)) ∧ w = w' := by
  have hl : s.data.toList.length = s.size := by simp
  have e0 := by_at s 0 p0
  have nd : needN s[0].toNat = 3 := by unfold needN; repeat (first | rw [if_pos (by omega)] | rw [if_neg (by omega)])
  have lw : loN s[0].toNat = 128 := by unfold loN; repeat (first | rw [if_pos (by omega)] | rw [if_neg (by omega)])
  have hg : hiN s[0].toNat = 191 := by unfold hiN; repeat (first | rw [if_pos (by omega)] | rw [if_neg (by omega)])
  by_cases hn : s.size < 3
  · have E := Lib.hid (show signL s.data.toList = 0 by
      unfold signL signN
      rw [hl, e0, if_neg (by omega), if_neg (by omega), nd, if_neg (by omega), if_pos hn])
    rw [E.out]
    have hz : ((s.size : Int) == 0) = false := beq_eq_false_iff_ne.2 (by omega)
    have i0 : (0 : Int) < (s.size : Int) := by omega
    obtain ⟨x0, z0⟩ : ∃ x : Int, (s[0].toNat : Int) = x := ⟨_, rfl⟩
    have f1 : (225 : Int) ≤ x0 := by omega
    have f2 : x0 ≤ 236 := by omega
    have g224 : (x0 == 224) = false := beq_eq_false_iff_ne.2 (by omega)
    have g237 : (x0 == 237) = false := beq_eq_false_iff_ne.2 (by omega)
    have g240 : (x0 == 240) = false := beq_eq_false_iff_ne.2 (by omega)
    have g244 : (x0 == 244) = false := beq_eq_false_iff_ne.2 (by omega)
    have c128 : decide (x0 < 128) = false := decide_eq_false (by omega)
    have c194 : decide (194 ≤ x0) = true := decide_eq_true (by omega)
    have c224 : decide (224 ≤ x0) = true := decide_eq_true (by omega)
    have c240 : decide (240 ≤ x0) = false := decide_eq_false (by omega)
    have c223 : decide (x0 ≤ 223) = false := decide_eq_false (by omega)
    have c239 : decide (x0 ≤ 239) = true := decide_eq_true (by omega)
    have c244 : decide (x0 ≤ 244) = true := decide_eq_true (by omega)
    have t0 : (s.size : Int) < 3 := by omega
    clear E hl nd k1 k2 lw hg e0 hn
    go_enter Tryd.func55, Tryd.ntmps55
    go_wp2_with fail
    go_ret
    exact ⟨rfl, rfl⟩
  have p1 : 1 < s.size := by omega
  have e1 := by_at s 1 p1
  have u1 := UInt8.toNat_lt s[1]
  by_cases h1 : s[1].toNat < 128
  · have E := Lib.hid (show signL s.data.toList = 0 by
      unfold signL signN
      rw [hl, e0, if_neg (by omega), if_neg (by omega), nd, if_neg (by omega), if_neg hn, e1, lw, hg, if_pos (by omega)])
    rw [E.out]
    have hz : ((s.size : Int) == 0) = false := beq_eq_false_iff_ne.2 (by omega)
    have i0 : (0 : Int) < (s.size : Int) := by omega
    have i1 : (1 : Int) < (s.size : Int) := by omega
    obtain ⟨x0, z0⟩ : ∃ x : Int, (s[0].toNat : Int) = x := ⟨_, rfl⟩
    obtain ⟨x1, z1⟩ : ∃ x : Int, (s[1].toNat : Int) = x := ⟨_, rfl⟩
    have f1 : (225 : Int) ≤ x0 := by omega
    have f2 : x0 ≤ 236 := by omega
    have g224 : (x0 == 224) = false := beq_eq_false_iff_ne.2 (by omega)
    have g237 : (x0 == 237) = false := beq_eq_false_iff_ne.2 (by omega)
    have g240 : (x0 == 240) = false := beq_eq_false_iff_ne.2 (by omega)
    have g244 : (x0 == 244) = false := beq_eq_false_iff_ne.2 (by omega)
    have c128 : decide (x0 < 128) = false := decide_eq_false (by omega)
    have c194 : decide (194 ≤ x0) = true := decide_eq_true (by omega)
    have c224 : decide (224 ≤ x0) = true := decide_eq_true (by omega)
    have c240 : decide (240 ≤ x0) = false := decide_eq_false (by omega)
    have c223 : decide (x0 ≤ 223) = false := decide_eq_false (by omega)
    have c239 : decide (x0 ≤ 239) = true := decide_eq_true (by omega)
    have c244 : decide (x0 ≤ 244) = true := decide_eq_true (by omega)
    have t0 : ¬ (s.size : Int) < 3 := by omega
    have t1 : x1 < 128 := by omega
    have v1 : 0 ≤ x1 := by omega
    have v1' : x1 ≤ 255 := by omega
    clear E hl nd k1 k2 lw hg e0 e1 u1 hn h1
    go_enter Tryd.func55, Tryd.ntmps55
    go_wp2_with fail
    go_ret
    exact ⟨rfl, rfl⟩
  by_cases h2 : 191 < s[1].toNat
  · have E := Lib.hid (show signL s.data.toList = 0 by
      unfold signL signN
      rw [hl, e0, if_neg (by omega), if_neg (by omega), nd, if_neg (by omega), if_neg hn, e1, lw, hg, if_pos (by omega)])
    rw [E.out]
    have hz : ((s.size : Int) == 0) = false := beq_eq_false_iff_ne.2 (by omega)
    have i0 : (0 : Int) < (s.size : Int) := by omega
    have i1 : (1 : Int) < (s.size : Int) := by omega
    obtain ⟨x0, z0⟩ : ∃ x : Int, (s[0].toNat : Int) = x := ⟨_, rfl⟩
    obtain ⟨x1, z1⟩ : ∃ x : Int, (s[1].toNat : Int) = x := ⟨_, rfl⟩
    have f1 : (225 : Int) ≤ x0 := by omega
    have f2 : x0 ≤ 236 := by omega
    have g224 : (x0 == 224) = false := beq_eq_false_iff_ne.2 (by omega)
    have g237 : (x0 == 237) = false := beq_eq_false_iff_ne.2 (by omega)
    have g240 : (x0 == 240) = false := beq_eq_false_iff_ne.2 (by omega)
    have g244 : (x0 == 244) = false := beq_eq_false_iff_ne.2 (by omega)
    have c128 : decide (x0 < 128) = false := decide_eq_false (by omega)
    have c194 : decide (194 ≤ x0) = true := decide_eq_true (by omega)
    have c224 : decide (224 ≤ x0) = true := decide_eq_true (by omega)
    have c240 : decide (240 ≤ x0) = false := decide_eq_false (by omega)
    have c223 : decide (x0 ≤ 223) = false := decide_eq_false (by omega)
    have c239 : decide (x0 ≤ 239) = true := decide_eq_true (by omega)
    have c244 : decide (x0 ≤ 244) = true := decide_eq_true (by omega)
    have t0 : ¬ (s.size : Int) < 3 := by omega
    have t1 : ¬ x1 < 128 := by omega
    have d1 : decide (x1 < 128) = false := decide_eq_false (by omega)
    have t2 : 191 < x1 := by omega
    have v1 : 0 ≤ x1 := by omega
    have v1' : x1 ≤ 255 := by omega
    clear E hl nd k1 k2 lw hg e0 e1 u1 hn h1 h2
    go_enter Tryd.func55, Tryd.ntmps55
    go_wp2_with fail
    go_ret
    exact ⟨rfl, rfl⟩
  have p2 : 2 < s.size := by omega
  have e2 := by_at s 2 p2
  have u2 := UInt8.toNat_lt s[2]
  by_cases l2 : s[2].toNat < 128
  · have E := Lib.hid (show signL s.data.toList = 0 by
      unfold signL signN
      rw [hl, e0, if_neg (by omega), if_neg (by omega), nd, if_neg (by omega), if_neg hn, e1, e2, lw, hg, if_neg (by omega), if_pos (by unfold midB; omega)])
    rw [E.out]
    have hz : ((s.size : Int) == 0) = false := beq_eq_false_iff_ne.2 (by omega)
    have i0 : (0 : Int) < (s.size : Int) := by omega
    have i1 : (1 : Int) < (s.size : Int) := by omega
    have i2 : (2 : Int) < (s.size : Int) := by omega
    obtain ⟨x0, z0⟩ : ∃ x : Int, (s[0].toNat : Int) = x := ⟨_, rfl⟩
    obtain ⟨x1, z1⟩ : ∃ x : Int, (s[1].toNat : Int) = x := ⟨_, rfl⟩
    obtain ⟨x2, z2⟩ : ∃ x : Int, (s[2].toNat : Int) = x := ⟨_, rfl⟩
    have f1 : (225 : Int) ≤ x0 := by omega
    have f2 : x0 ≤ 236 := by omega
    have g224 : (x0 == 224) = false := beq_eq_false_iff_ne.2 (by omega)
    have g237 : (x0 == 237) = false := beq_eq_false_iff_ne.2 (by omega)
    have g240 : (x0 == 240) = false := beq_eq_false_iff_ne.2 (by omega)
    have g244 : (x0 == 244) = false := beq_eq_false_iff_ne.2 (by omega)
    have c128 : decide (x0 < 128) = false := decide_eq_false (by omega)
    have c194 : decide (194 ≤ x0) = true := decide_eq_true (by omega)
    have c224 : decide (224 ≤ x0) = true := decide_eq_true (by omega)
    have c240 : decide (240 ≤ x0) = false := decide_eq_false (by omega)
    have c223 : decide (x0 ≤ 223) = false := decide_eq_false (by omega)
    have c239 : decide (x0 ≤ 239) = true := decide_eq_true (by omega)
    have c244 : decide (x0 ≤ 244) = true := decide_eq_true (by omega)
    have t0 : ¬ (s.size : Int) < 3 := by omega
    have t1 : ¬ x1 < 128 := by omega
    have d1 : decide (x1 < 128) = false := decide_eq_false (by omega)
    have t2 : ¬ 191 < x1 := by omega
    have d2 : decide (191 < x1) = false := decide_eq_false (by omega)
    have t3 : x2 < 128 := by omega
    have v1 : 0 ≤ x1 := by omega
    have v1' : x1 ≤ 255 := by omega
    have v2 : 0 ≤ x2 := by omega
    have v2' : x2 ≤ 255 := by omega
    clear E hl nd k1 k2 lw hg e0 e1 e2 u1 u2 hn h1 h2 l2
    go_enter Tryd.func55, Tryd.ntmps55
    go_wp2_with fail
    refine wp_loop_rounds 1 ?_
    rw [rounds_succ]
    go_wp2_with fail
    go_ret
    exact ⟨rfl, rfl⟩
  by_cases r2 : 191 < s[2].toNat
  · have E := Lib.hid (show signL s.data.toList = 0 by
      unfold signL signN
      rw [hl, e0, if_neg (by omega), if_neg (by omega), nd, if_neg (by omega), if_neg hn, e1, e2, lw, hg, if_neg (by omega), if_pos (by unfold midB; omega)])
    rw [E.out]
    have hz : ((s.size : Int) == 0) = false := beq_eq_false_iff_ne.2 (by omega)
    have i0 : (0 : Int) < (s.size : Int) := by omega
    have i1 : (1 : Int) < (s.size : Int) := by omega
    have i2 : (2 : Int) < (s.size : Int) := by omega
    obtain ⟨x0, z0⟩ : ∃ x : Int, (s[0].toNat : Int) = x := ⟨_, rfl⟩
    obtain ⟨x1, z1⟩ : ∃ x : Int, (s[1].toNat : Int) = x := ⟨_, rfl⟩
    obtain ⟨x2, z2⟩ : ∃ x : Int, (s[2].toNat : Int) = x := ⟨_, rfl⟩
    have f1 : (225 : Int) ≤ x0 := by omega
    have f2 : x0 ≤ 236 := by omega
    have g224 : (x0 == 224) = false := beq_eq_false_iff_ne.2 (by omega)
    have g237 : (x0 == 237) = false := beq_eq_false_iff_ne.2 (by omega)
    have g240 : (x0 == 240) = false := beq_eq_false_iff_ne.2 (by omega)
    have g244 : (x0 == 244) = false := beq_eq_false_iff_ne.2 (by omega)
    have c128 : decide (x0 < 128) = false := decide_eq_false (by omega)
    have c194 : decide (194 ≤ x0) = true := decide_eq_true (by omega)
    have c224 : decide (224 ≤ x0) = true := decide_eq_true (by omega)
    have c240 : decide (240 ≤ x0) = false := decide_eq_false (by omega)
    have c223 : decide (x0 ≤ 223) = false := decide_eq_false (by omega)
    have c239 : decide (x0 ≤ 239) = true := decide_eq_true (by omega)
    have c244 : decide (x0 ≤ 244) = true := decide_eq_true (by omega)
    have t0 : ¬ (s.size : Int) < 3 := by omega
    have t1 : ¬ x1 < 128 := by omega
    have d1 : decide (x1 < 128) = false := decide_eq_false (by omega)
    have t2 : ¬ 191 < x1 := by omega
    have d2 : decide (191 < x1) = false := decide_eq_false (by omega)
    have t3 : ¬ x2 < 128 := by omega
    have d3 : decide (x2 < 128) = false := decide_eq_false (by omega)
    have t4 : 191 < x2 := by omega
    have v1 : 0 ≤ x1 := by omega
    have v1' : x1 ≤ 255 := by omega
    have v2 : 0 ≤ x2 := by omega
    have v2' : x2 ≤ 255 := by omega
    clear E hl nd k1 k2 lw hg e0 e1 e2 u1 u2 hn h1 h2 l2 r2
    go_enter Tryd.func55, Tryd.ntmps55
    go_wp2_with fail
    refine wp_loop_rounds 1 ?_
    rw [rounds_succ]
    go_wp2_with fail
    go_ret
    exact ⟨rfl, rfl⟩
  · have E := Lib.hid (show signL s.data.toList = 3 by
      unfold signL signN
      rw [hl, e0, if_neg (by omega), if_neg (by omega), nd, if_neg (by omega), if_neg hn, e1, e2, lw, hg, if_neg (by omega), if_neg (by unfold midB; omega), if_neg (by unfold midB; omega)])
    rw [E.out]
    have hz : ((s.size : Int) == 0) = false := beq_eq_false_iff_ne.2 (by omega)
    have i0 : (0 : Int) < (s.size : Int) := by omega
    have i1 : (1 : Int) < (s.size : Int) := by omega
    have i2 : (2 : Int) < (s.size : Int) := by omega
    obtain ⟨x0, z0⟩ : ∃ x : Int, (s[0].toNat : Int) = x := ⟨_, rfl⟩
    obtain ⟨x1, z1⟩ : ∃ x : Int, (s[1].toNat : Int) = x := ⟨_, rfl⟩
    obtain ⟨x2, z2⟩ : ∃ x : Int, (s[2].toNat : Int) = x := ⟨_, rfl⟩
    have f1 : (225 : Int) ≤ x0 := by omega
    have f2 : x0 ≤ 236 := by omega
    have g224 : (x0 == 224) = false := beq_eq_false_iff_ne.2 (by omega)
    have g237 : (x0 == 237) = false := beq_eq_false_iff_ne.2 (by omega)
    have g240 : (x0 == 240) = false := beq_eq_false_iff_ne.2 (by omega)
    have g244 : (x0 == 244) = false := beq_eq_false_iff_ne.2 (by omega)
    have c128 : decide (x0 < 128) = false := decide_eq_false (by omega)
    have c194 : decide (194 ≤ x0) = true := decide_eq_true (by omega)
    have c224 : decide (224 ≤ x0) = true := decide_eq_true (by omega)
    have c240 : decide (240 ≤ x0) = false := decide_eq_false (by omega)
    have c223 : decide (x0 ≤ 223) = false := decide_eq_false (by omega)
    have c239 : decide (x0 ≤ 239) = true := decide_eq_true (by omega)
    have c244 : decide (x0 ≤ 244) = true := decide_eq_true (by omega)
    have t0 : ¬ (s.size : Int) < 3 := by omega
    have t1 : ¬ x1 < 128 := by omega
    have d1 : decide (x1 < 128) = false := decide_eq_false (by omega)
    have t2 : ¬ 191 < x1 := by omega
    have d2 : decide (191 < x1) = false := decide_eq_false (by omega)
    have t3 : ¬ x2 < 128 := by omega
    have d3 : decide (x2 < 128) = false := decide_eq_false (by omega)
    have t4 : ¬ 191 < x2 := by omega
    have d4 : decide (191 < x2) = false := decide_eq_false (by omega)
    have v1 : 0 ≤ x1 := by omega
    have v1' : x1 ≤ 255 := by omega
    have v2 : 0 ≤ x2 := by omega
    have v2' : x2 ≤ 255 := by omega
    clear E hl nd k1 k2 lw hg e0 e1 e2 u1 u2 hn h1 h2 l2 r2
    go_enter Tryd.func55, Tryd.ntmps55
    go_wp2_with fail
    refine wp_loop_rounds 2 ?_
    rw [rounds_succ]
    go_wp2_with fail
    rw [rounds_succ]
    go_wp2_with fail
    go_ret
    exact ⟨rfl, rfl⟩

set_option maxHeartbeats 2000000 in
theorem sign_c3c (s : ByteArray) (hs : s.size ≤ 9223372036854775807) (p0 : 0 < s.size) (k1 : 237 ≤ s[0].toNat) (k2 : s[0].toNat ≤ 237) (w : World) : Calls Tryd.prog 55 #[.string s] w fun e w' => e = .returned (.int .i64 (signL s.data.toList)) ∧ w = w' := by
  have hl : s.data.toList.length = s.size := by simp
  have e0 := by_at s 0 p0
  have nd : needN s[0].toNat = 3 := by unfold needN; repeat (first | rw [if_pos (by omega)] | rw [if_neg (by omega)])
  have lw : loN s[0].toNat = 128 := by unfold loN; repeat (first | rw [if_pos (by omega)] | rw [if_neg (by omega)])
  have hg : hiN s[0].toNat = 159 := by unfold hiN; repeat (first | rw [if_pos (by omega)] | rw [if_neg (by omega)])
  by_cases hn : s.size < 3
  · have E := Lib.hid (show signL s.data.toList = 0 by
      unfold signL signN
      rw [hl, e0, if_neg (by omega), if_neg (by omega), nd, if_neg (by omega), if_pos hn])
    rw [E.out]
    have hz : ((s.size : Int) == 0) = false := beq_eq_false_iff_ne.2 (by omega)
    have i0 : (0 : Int) < (s.size : Int) := by omega
    obtain ⟨x0, z0⟩ : ∃ x : Int, (s[0].toNat : Int) = x := ⟨_, rfl⟩
    obtain rfl : x0 = 237 := by omega
    have t0 : (s.size : Int) < 3 := by omega
    clear E hl nd k1 k2 lw hg e0 hn
    go_enter Tryd.func55, Tryd.ntmps55
    go_wp2_with fail
    go_ret
    exact ⟨rfl, rfl⟩
  have p1 : 1 < s.size := by omega
  have e1 := by_at s 1 p1
  have u1 := UInt8.toNat_lt s[1]
  by_cases h1 : s[1].toNat < 128
  · have E := Lib.hid (show signL s.data.toList = 0 by
      unfold signL signN
      rw [hl, e0, if_neg (by omega), if_neg (by omega), nd, if_neg (by omega), if_neg hn, e1, lw, hg, if_pos (by omega)])
    rw [E.out]
    have hz : ((s.size : Int) == 0) = false := beq_eq_false_iff_ne.2 (by omega)
    have i0 : (0 : Int) < (s.size : Int) := by omega
    have i1 : (1 : Int) < (s.size : Int) := by omega
    obtain ⟨x0, z0⟩ : ∃ x : Int, (s[0].toNat : Int) = x := ⟨_, rfl⟩
    obtain ⟨x1, z1⟩ : ∃ x : Int, (s[1].toNat : Int) = x := ⟨_, rfl⟩
    obtain rfl : x0 = 237 := by omega
    have t0 : ¬ (s.size : Int) < 3 := by omega
    have t1 : x1 < 128 := by omega
    have v1 : 0 ≤ x1 := by omega
    have v1' : x1 ≤ 255 := by omega
    clear E hl nd k1 k2 lw hg e0 e1 u1 hn h1
    go_enter Tryd.func55, Tryd.ntmps55
    go_wp2_with fail
    go_ret
    exact ⟨rfl, rfl⟩
  by_cases h2 : 159 < s[1].toNat
  · have E := Lib.hid (show signL s.data.toList = 0 by
      unfold signL signN
      rw [hl, e0, if_neg (by omega), if_neg (by omega), nd, if_neg (by omega), if_neg hn, e1, lw, hg, if_pos (by omega)])
    rw [E.out]
    have hz : ((s.size : Int) == 0) = false := beq_eq_false_iff_ne.2 (by omega)
    have i0 : (0 : Int) < (s.size : Int) := by omega
    have i1 : (1 : Int) < (s.size : Int) := by omega
    obtain ⟨x0, z0⟩ : ∃ x : Int, (s[0].toNat : Int) = x := ⟨_, rfl⟩
    obtain ⟨x1, z1⟩ : ∃ x : Int, (s[1].toNat : Int) = x := ⟨_, rfl⟩
    obtain rfl : x0 = 237 := by omega
    have t0 : ¬ (s.size : Int) < 3 := by omega
    have t1 : ¬ x1 < 128 := by omega
    have d1 : decide (x1 < 128) = false := decide_eq_false (by omega)
    have t2 : 159 < x1 := by omega
    have v1 : 0 ≤ x1 := by omega
    have v1' : x1 ≤ 255 := by omega
    clear E hl nd k1 k2 lw hg e0 e1 u1 hn h1 h2
    go_enter Tryd.func55, Tryd.ntmps55
    go_wp2_with fail
    go_ret
    exact ⟨rfl, rfl⟩
  have p2 : 2 < s.size := by omega
  have e2 := by_at s 2 p2
  have u2 := UInt8.toNat_lt s[2]
  by_cases l2 : s[2].toNat < 128
  · have E := Lib.hid (show signL s.data.toList = 0 by
      unfold signL signN
      rw [hl, e0, if_neg (by omega), if_neg (by omega), nd, if_neg (by omega), if_neg hn, e1, e2, lw, hg, if_neg (by omega), if_pos (by unfold midB; omega)])
    rw [E.out]
    have hz : ((s.size : Int) == 0) = false := beq_eq_false_iff_ne.2 (by omega)
    have i0 : (0 : Int) < (s.size : Int) := by omega
    have i1 : (1 : Int) < (s.size : Int) := by omega
    have i2 : (2 : Int) < (s.size : Int) := by omega
    obtain ⟨x0, z0⟩ : ∃ x : Int, (s[0].toNat : Int) = x := ⟨_, rfl⟩
    obtain ⟨x1, z1⟩ : ∃ x : Int, (s[1].toNat : Int) = x := ⟨_, rfl⟩
    obtain ⟨x2, z2⟩ : ∃ x : Int, (s[2].toNat : Int) = x := ⟨_, rfl⟩
    obtain rfl : x0 = 237 := by omega
    have t0 : ¬ (s.size : Int) < 3 := by omega
    have t1 : ¬ x1 < 128 := by omega
    have d1 : decide (x1 < 128) = false := decide_eq_false (by omega)
    have t2 : ¬ 159 < x1 := by omega
    have d2 : decide (159 < x1) = false := decide_eq_false (by omega)
    have t3 : x2 < 128 := by omega
    have v1 : 0 ≤ x1 := by omega
    have v1' : x1 ≤ 255 := by omega
    have v2 : 0 ≤ x2 := by omega
    have v2' : x2 ≤ 255 := by omega
    clear E hl nd k1 k2 lw hg e0 e1 e2 u1 u2 hn h1 h2 l2
    go_enter Tryd.func55, Tryd.ntmps55
    go_wp2_with fail
    refine wp_loop_rounds 1 ?_
    rw [rounds_succ]
    go_wp2_with fail
    go_ret
    exact ⟨rfl, rfl⟩
  by_cases r2 : 191 < s[2].toNat
  · have E := Lib.hid (show signL s.data.toList = 0 by
      unfold signL signN
      rw [hl, e0, if_neg (by omega), if_neg (by omega), nd, if_neg (by omega), if_neg hn, e1, e2, lw, hg, if_neg (by omega), if_pos (by unfold midB; omega)])
    rw [E.out]
    have hz : ((s.size : Int) == 0) = false := beq_eq_false_iff_ne.2 (by omega)
    have i0 : (0 : Int) < (s.size : Int) := by omega
    have i1 : (1 : Int) < (s.size : Int) := by omega
    have i2 : (2 : Int) < (s.size : Int) := by omega
    obtain ⟨x0, z0⟩ : ∃ x : Int, (s[0].toNat : Int) = x := ⟨_, rfl⟩
    obtain ⟨x1, z1⟩ : ∃ x : Int, (s[1].toNat : Int) = x := ⟨_, rfl⟩
    obtain ⟨x2, z2⟩ : ∃ x : Int, (s[2].toNat : Int) = x := ⟨_, rfl⟩
    obtain rfl : x0 = 237 := by omega
    have t0 : ¬ (s.size : Int) < 3 := by omega
    have t1 : ¬ x1 < 128 := by omega
    have d1 : decide (x1 < 128) = false := decide_eq_false (by omega)
    have t2 : ¬ 159 < x1 := by omega
    have d2 : decide (159 < x1) = false := decide_eq_false (by omega)
    have t3 : ¬ x2 < 128 := by omega
    have d3 : decide (x2 < 128) = false := decide_eq_false (by omega)
    have t4 : 191 < x2 := by omega
    have v1 : 0 ≤ x1 := by omega
    have v1' : x1 ≤ 255 := by omega
    have v2 : 0 ≤ x2 := by omega
    have v2' : x2 ≤ 255 := by omega
    clear E hl nd k1 k2 lw hg e0 e1 e2 u1 u2 hn h1 h2 l2 r2
    go_enter Tryd.func55, Tryd.ntmps55
    go_wp2_with fail
    refine wp_loop_rounds 1 ?_
    rw [rounds_succ]
    go_wp2_with fail
    go_ret
    exact ⟨rfl, rfl⟩
  · have E := Lib.hid (show signL s.data.toList = 3 by
      unfold signL signN
      rw [hl, e0, if_neg (by omega), if_neg (by omega), nd, if_neg (by omega), if_neg hn, e1, e2, lw, hg, if_neg (by omega), if_neg (by unfold midB; omega), if_neg (by unfold midB; omega)])
    rw [E.out]
    have hz : ((s.size : Int) == 0) = false := beq_eq_false_iff_ne.2 (by omega)
    have i0 : (0 : Int) < (s.size : Int) := by omega
    have i1 : (1 : Int) < (s.size : Int) := by omega
    have i2 : (2 : Int) < (s.size : Int) := by omega
    obtain ⟨x0, z0⟩ : ∃ x : Int, (s[0].toNat : Int) = x := ⟨_, rfl⟩
    obtain ⟨x1, z1⟩ : ∃ x : Int, (s[1].toNat : Int) = x := ⟨_, rfl⟩
    obtain ⟨x2, z2⟩ : ∃ x : Int, (s[2].toNat : Int) = x := ⟨_, rfl⟩
    obtain rfl : x0 = 237 := by omega
    have t0 : ¬ (s.size : Int) < 3 := by omega
    have t1 : ¬ x1 < 128 := by omega
    have d1 : decide (x1 < 128) = false := decide_eq_false (by omega)
    have t2 : ¬ 159 < x1 := by omega
    have d2 : decide (159 < x1) = false := decide_eq_false (by omega)
    have t3 : ¬ x2 < 128 := by omega
    have d3 : decide (x2 < 128) = false := decide_eq_false (by omega)
    have t4 : ¬ 191 < x2 := by omega
    have d4 : decide (191 < x2) = false := decide_eq_false (by omega)
    have v1 : 0 ≤ x1 := by omega
    have v1' : x1 ≤ 255 := by omega
    have v2 : 0 ≤ x2 := by omega
    have v2' : x2 ≤ 255 := by omega
    clear E hl nd k1 k2 lw hg e0 e1 e2 u1 u2 hn h1 h2 l2 r2
    go_enter Tryd.func55, Tryd.ntmps55
    go_wp2_with fail
    refine wp_loop_rounds 2 ?_
    rw [rounds_succ]
    go_wp2_with fail
    rw [rounds_succ]
    go_wp2_with fail
    go_ret
    exact ⟨rfl, rfl⟩

set_option maxHeartbeats 2000000 in
theorem sign_c3d (s : ByteArray) (hs : s.size ≤ 9223372036854775807) (p0 : 0 < s.size) (k1 : 238 ≤ s[0].toNat) (k2 : s[0].toNat ≤ 239) (w : World) : Calls Tryd.prog 55 #[.string s] w fun e w' => e = .returned (.int .i64 (signL s.data.toList)) ∧ w = w' := by
  have hl : s.data.toList.length = s.size := by simp
  have e0 := by_at s 0 p0
  have nd : needN s[0].toNat = 3 := by unfold needN; repeat (first | rw [if_pos (by omega)] | rw [if_neg (by omega)])
  have lw : loN s[0].toNat = 128 := by unfold loN; repeat (first | rw [if_pos (by omega)] | rw [if_neg (by omega)])
  have hg : hiN s[0].toNat = 191 := by unfold hiN; repeat (first | rw [if_pos (by omega)] | rw [if_neg (by omega)])
  by_cases hn : s.size < 3
  · have E := Lib.hid (show signL s.data.toList = 0 by
      unfold signL signN
      rw [hl, e0, if_neg (by omega), if_neg (by omega), nd, if_neg (by omega), if_pos hn])
    rw [E.out]
    have hz : ((s.size : Int) == 0) = false := beq_eq_false_iff_ne.2 (by omega)
    have i0 : (0 : Int) < (s.size : Int) := by omega
    obtain ⟨x0, z0⟩ : ∃ x : Int, (s[0].toNat : Int) = x := ⟨_, rfl⟩
    have f1 : (238 : Int) ≤ x0 := by omega
    have f2 : x0 ≤ 239 := by omega
    have g224 : (x0 == 224) = false := beq_eq_false_iff_ne.2 (by omega)
    have g237 : (x0 == 237) = false := beq_eq_false_iff_ne.2 (by omega)
    have g240 : (x0 == 240) = false := beq_eq_false_iff_ne.2 (by omega)
    have g244 : (x0 == 244) = false := beq_eq_false_iff_ne.2 (by omega)
    have c128 : decide (x0 < 128) = false := decide_eq_false (by omega)
    have c194 : decide (194 ≤ x0) = true := decide_eq_true (by omega)
    have c224 : decide (224 ≤ x0) = true := decide_eq_true (by omega)
    have c240 : decide (240 ≤ x0) = false := decide_eq_false (by omega)
    have c223 : decide (x0 ≤ 223) = false := decide_eq_false (by omega)
    have c239 : decide (x0 ≤ 239) = true := decide_eq_true (by omega)
    have c244 : decide (x0 ≤ 244) = true := decide_eq_true (by omega)
    have t0 : (s.size : Int) < 3 := by omega
    clear E hl nd k1 k2 lw hg e0 hn
    go_enter Tryd.func55, Tryd.ntmps55
    go_wp2_with fail
    go_ret
    exact ⟨rfl, rfl⟩
  have p1 : 1 < s.size := by omega
  have e1 := by_at s 1 p1
  have u1 := UInt8.toNat_lt s[1]
  by_cases h1 : s[1].toNat < 128
  · have E := Lib.hid (show signL s.data.toList = 0 by
      unfold signL signN
      rw [hl, e0, if_neg (by omega), if_neg (by omega), nd, if_neg (by omega), if_neg hn, e1, lw, hg, if_pos (by omega)])
    rw [E.out]
    have hz : ((s.size : Int) == 0) = false := beq_eq_false_iff_ne.2 (by omega)
    have i0 : (0 : Int) < (s.size : Int) := by omega
    have i1 : (1 : Int) < (s.size : Int) := by omega
    obtain ⟨x0, z0⟩ : ∃ x : Int, (s[0].toNat : Int) = x := ⟨_, rfl⟩
    obtain ⟨x1, z1⟩ : ∃ x : Int, (s[1].toNat : Int) = x := ⟨_, rfl⟩
    have f1 : (238 : Int) ≤ x0 := by omega
    have f2 : x0 ≤ 239 := by omega
    have g224 : (x0 == 224) = false := beq_eq_false_iff_ne.2 (by omega)
    have g237 : (x0 == 237) = false := beq_eq_false_iff_ne.2 (by omega)
    have g240 : (x0 == 240) = false := beq_eq_false_iff_ne.2 (by omega)
    have g244 : (x0 == 244) = false := beq_eq_false_iff_ne.2 (by omega)
    have c128 : decide (x0 < 128) = false := decide_eq_false (by omega)
    have c194 : decide (194 ≤ x0) = true := decide_eq_true (by omega)
    have c224 : decide (224 ≤ x0) = true := decide_eq_true (by omega)
    have c240 : decide (240 ≤ x0) = false := decide_eq_false (by omega)
    have c223 : decide (x0 ≤ 223) = false := decide_eq_false (by omega)
    have c239 : decide (x0 ≤ 239) = true := decide_eq_true (by omega)
    have c244 : decide (x0 ≤ 244) = true := decide_eq_true (by omega)
    have t0 : ¬ (s.size : Int) < 3 := by omega
    have t1 : x1 < 128 := by omega
    have v1 : 0 ≤ x1 := by omega
    have v1' : x1 ≤ 255 := by omega
    clear E hl nd k1 k2 lw hg e0 e1 u1 hn h1
    go_enter Tryd.func55, Tryd.ntmps55
    go_wp2_with fail
    go_ret
    exact ⟨rfl, rfl⟩
  by_cases h2 : 191 < s[1].toNat
  · have E := Lib.hid (show signL s.data.toList = 0 by
      unfold signL signN
      rw [hl, e0, if_neg (by omega), if_neg (by omega), nd, if_neg (by omega), if_neg hn, e1, lw, hg, if_pos (by omega)])
    rw [E.out]
    have hz : ((s.size : Int) == 0) = false := beq_eq_false_iff_ne.2 (by omega)
    have i0 : (0 : Int) < (s.size : Int) := by omega
    have i1 : (1 : Int) < (s.size : Int) := by omega
    obtain ⟨x0, z0⟩ : ∃ x : Int, (s[0].toNat : Int) = x := ⟨_, rfl⟩
    obtain ⟨x1, z1⟩ : ∃ x : Int, (s[1].toNat : Int) = x := ⟨_, rfl⟩
    have f1 : (238 : Int) ≤ x0 := by omega
    have f2 : x0 ≤ 239 := by omega
    have g224 : (x0 == 224) = false := beq_eq_false_iff_ne.2 (by omega)
    have g237 : (x0 == 237) = false := beq_eq_false_iff_ne.2 (by omega)
    have g240 : (x0 == 240) = false := beq_eq_false_iff_ne.2 (by omega)
    have g244 : (x0 == 244) = false := beq_eq_false_iff_ne.2 (by omega)
    have c128 : decide (x0 < 128) = false := decide_eq_false (by omega)
    have c194 : decide (194 ≤ x0) = true := decide_eq_true (by omega)
    have c224 : decide (224 ≤ x0) = true := decide_eq_true (by omega)
    have c240 : decide (240 ≤ x0) = false := decide_eq_false (by omega)
    have c223 : decide (x0 ≤ 223) = false := decide_eq_false (by omega)
    have c239 : decide (x0 ≤ 239) = true := decide_eq_true (by omega)
    have c244 : decide (x0 ≤ 244) = true := decide_eq_true (by omega)
    have t0 : ¬ (s.size : Int) < 3 := by omega
    have t1 : ¬ x1 < 128 := by omega
    have d1 : decide (x1 < 128) = false := decide_eq_false (by omega)
    have t2 : 191 < x1 := by omega
    have v1 : 0 ≤ x1 := by omega
    have v1' : x1 ≤ 255 := by omega
    clear E hl nd k1 k2 lw hg e0 e1 u1 hn h1 h2
    go_enter Tryd.func55, Tryd.ntmps55
    go_wp2_with fail
    go_ret
    exact ⟨rfl, rfl⟩
  have p2 : 2 < s.size := by omega
  have e2 := by_at s 2 p2
  have u2 := UInt8.toNat_lt s[2]
  by_cases l2 : s[2].toNat < 128
  · have E := Lib.hid (show signL s.data.toList = 0 by
      unfold signL signN
      rw [hl, e0, if_neg (by omega), if_neg (by omega), nd, if_neg (by omega), if_neg hn, e1, e2, lw, hg, if_neg (by omega), if_pos (by unfold midB; omega)])
    rw [E.out]
    have hz : ((s.size : Int) == 0) = false := beq_eq_false_iff_ne.2 (by omega)
    have i0 : (0 : Int) < (s.size : Int) := by omega
    have i1 : (1 : Int) < (s.size : Int) := by omega
    have i2 : (2 : Int) < (s.size : Int) := by omega
    obtain ⟨x0, z0⟩ : ∃ x : Int, (s[0].toNat : Int) = x := ⟨_, rfl⟩
    obtain ⟨x1, z1⟩ : ∃ x : Int, (s[1].toNat : Int) = x := ⟨_, rfl⟩
    obtain ⟨x2, z2⟩ : ∃ x : Int, (s[2].toNat : Int) = x := ⟨_, rfl⟩
    have f1 : (238 : Int) ≤ x0 := by omega
    have f2 : x0 ≤ 239 := by omega
    have g224 : (x0 == 224) = false := beq_eq_false_iff_ne.2 (by omega)
    have g237 : (x0 == 237) = false := beq_eq_false_iff_ne.2 (by omega)
    have g240 : (x0 == 240) = false := beq_eq_false_iff_ne.2 (by omega)
    have g244 : (x0 == 244) = false := beq_eq_false_iff_ne.2 (by omega)
    have c128 : decide (x0 < 128) = false := decide_eq_false (by omega)
    have c194 : decide (194 ≤ x0) = true := decide_eq_true (by omega)
    have c224 : decide (224 ≤ x0) = true := decide_eq_true (by omega)
    have c240 : decide (240 ≤ x0) = false := decide_eq_false (by omega)
    have c223 : decide (x0 ≤ 223) = false := decide_eq_false (by omega)
    have c239 : decide (x0 ≤ 239) = true := decide_eq_true (by omega)
    have c244 : decide (x0 ≤ 244) = true := decide_eq_true (by omega)
    have t0 : ¬ (s.size : Int) < 3 := by omega
    have t1 : ¬ x1 < 128 := by omega
    have d1 : decide (x1 < 128) = false := decide_eq_false (by omega)
    have t2 : ¬ 191 < x1 := by omega
    have d2 : decide (191 < x1) = false := decide_eq_false (by omega)
    have t3 : x2 < 128 := by omega
    have v1 : 0 ≤ x1 := by omega
    have v1' : x1 ≤ 255 := by omega
    have v2 : 0 ≤ x2 := by omega
    have v2' : x2 ≤ 255 := by omega
    clear E hl nd k1 k2 lw hg e0 e1 e2 u1 u2 hn h1 h2 l2
    go_enter Tryd.func55, Tryd.ntmps55
    go_wp2_with fail
    refine wp_loop_rounds 1 ?_
    rw [rounds_succ]
    go_wp2_with fail
    go_ret
    exact ⟨rfl, rfl⟩
  by_cases r2 : 191 < s[2].toNat
  · have E := Lib.hid (show signL s.data.toList = 0 by
      unfold signL signN
      rw [hl, e0, if_neg (by omega), if_neg (by omega), nd, if_neg (by omega), if_neg hn, e1, e2, lw, hg, if_neg (by omega), if_pos (by unfold midB; omega)])
    rw [E.out]
    have hz : ((s.size : Int) == 0) = false := beq_eq_false_iff_ne.2 (by omega)
    have i0 : (0 : Int) < (s.size : Int) := by omega
    have i1 : (1 : Int) < (s.size : Int) := by omega
    have i2 : (2 : Int) < (s.size : Int) := by omega
    obtain ⟨x0, z0⟩ : ∃ x : Int, (s[0].toNat : Int) = x := ⟨_, rfl⟩
    obtain ⟨x1, z1⟩ : ∃ x : Int, (s[1].toNat : Int) = x := ⟨_, rfl⟩
    obtain ⟨x2, z2⟩ : ∃ x : Int, (s[2].toNat : Int) = x := ⟨_, rfl⟩
    have f1 : (238 : Int) ≤ x0 := by omega
    have f2 : x0 ≤ 239 := by omega
    have g224 : (x0 == 224) = false := beq_eq_false_iff_ne.2 (by omega)
    have g237 : (x0 == 237) = false := beq_eq_false_iff_ne.2 (by omega)
    have g240 : (x0 == 240) = false := beq_eq_false_iff_ne.2 (by omega)
    have g244 : (x0 == 244) = false := beq_eq_false_iff_ne.2 (by omega)
    have c128 : decide (x0 < 128) = false := decide_eq_false (by omega)
    have c194 : decide (194 ≤ x0) = true := decide_eq_true (by omega)
    have c224 : decide (224 ≤ x0) = true := decide_eq_true (by omega)
    have c240 : decide (240 ≤ x0) = false := decide_eq_false (by omega)
    have c223 : decide (x0 ≤ 223) = false := decide_eq_false (by omega)
    have c239 : decide (x0 ≤ 239) = true := decide_eq_true (by omega)
    have c244 : decide (x0 ≤ 244) = true := decide_eq_true (by omega)
    have t0 : ¬ (s.size : Int) < 3 := by omega
    have t1 : ¬ x1 < 128 := by omega
    have d1 : decide (x1 < 128) = false := decide_eq_false (by omega)
    have t2 : ¬ 191 < x1 := by omega
    have d2 : decide (191 < x1) = false := decide_eq_false (by omega)
    have t3 : ¬ x2 < 128 := by omega
    have d3 : decide (x2 < 128) = false := decide_eq_false (by omega)
    have t4 : 191 < x2 := by omega
    have v1 : 0 ≤ x1 := by omega
    have v1' : x1 ≤ 255 := by omega
    have v2 : 0 ≤ x2 := by omega
    have v2' : x2 ≤ 255 := by omega
    clear E hl nd k1 k2 lw hg e0 e1 e2 u1 u2 hn h1 h2 l2 r2
    go_enter Tryd.func55, Tryd.ntmps55
    go_wp2_with fail
    refine wp_loop_rounds 1 ?_
    rw [rounds_succ]
    go_wp2_with fail
    go_ret
    exact ⟨rfl, rfl⟩
  · have E := Lib.hid (show signL s.data.toList = 3 by
      unfold signL signN
      rw [hl, e0, if_neg (by omega), if_neg (by omega), nd, if_neg (by omega), if_neg hn, e1, e2, lw, hg, if_neg (by omega), if_neg (by unfold midB; omega), if_neg (by unfold midB; omega)])
    rw [E.out]
    have hz : ((s.size : Int) == 0) = false := beq_eq_false_iff_ne.2 (by omega)
    have i0 : (0 : Int) < (s.size : Int) := by omega
    have i1 : (1 : Int) < (s.size : Int) := by omega
    have i2 : (2 : Int) < (s.size : Int) := by omega
    obtain ⟨x0, z0⟩ : ∃ x : Int, (s[0].toNat : Int) = x := ⟨_, rfl⟩
    obtain ⟨x1, z1⟩ : ∃ x : Int, (s[1].toNat : Int) = x := ⟨_, rfl⟩
    obtain ⟨x2, z2⟩ : ∃ x : Int, (s[2].toNat : Int) = x := ⟨_, rfl⟩
    have f1 : (238 : Int) ≤ x0 := by omega
    have f2 : x0 ≤ 239 := by omega
    have g224 : (x0 == 224) = false := beq_eq_false_iff_ne.2 (by omega)
    have g237 : (x0 == 237) = false := beq_eq_false_iff_ne.2 (by omega)
    have g240 : (x0 == 240) = false := beq_eq_false_iff_ne.2 (by omega)
    have g244 : (x0 == 244) = false := beq_eq_false_iff_ne.2 (by omega)
    have c128 : decide (x0 < 128) = false := decide_eq_false (by omega)
    have c194 : decide (194 ≤ x0) = true := decide_eq_true (by omega)
    have c224 : decide (224 ≤ x0) = true := decide_eq_true (by omega)
    have c240 : decide (240 ≤ x0) = false := decide_eq_false (by omega)
    have c223 : decide (x0 ≤ 223) = false := decide_eq_false (by omega)
    have c239 : decide (x0 ≤ 239) = true := decide_eq_true (by omega)
    have c244 : decide (x0 ≤ 244) = true := decide_eq_true (by omega)
    have t0 : ¬ (s.size : Int) < 3 := by omega
    have t1 : ¬ x1 < 128 := by omega
    have d1 : decide (x1 < 128) = false := decide_eq_false (by omega)
    have t2 : ¬ 191 < x1 := by omega
    have d2 : decide (191 < x1) = false := decide_eq_false (by omega)
    have t3 : ¬ x2 < 128 := by omega
    have d3 : decide (x2 < 128) = false := decide_eq_false (by omega)
    have t4 : ¬ 191 < x2 := by omega
    have d4 : decide (191 < x2) = false := decide_eq_false (by omega)
    have v1 : 0 ≤ x1 := by omega
    have v1' : x1 ≤ 255 := by omega
    have v2 : 0 ≤ x2 := by omega
    have v2' : x2 ≤ 255 := by omega
    clear E hl nd k1 k2 lw hg e0 e1 e2 u1 u2 hn h1 h2 l2 r2
    go_enter Tryd.func55, Tryd.ntmps55
    go_wp2_with fail
    refine wp_loop_rounds 2 ?_
    rw [rounds_succ]
    go_wp2_with fail
    rw [rounds_succ]
    go_wp2_with fail
    go_ret
    exact ⟨rfl, rfl⟩

set_option maxHeartbeats 2000000 in
theorem sign_c4a (s : ByteArray) (hs : s.size ≤ 9223372036854775807) (p0 : 0 < s.size) (k1 : 240 ≤ s[0].toNat) (k2 : s[0].toNat ≤ 240) (w : World) : Calls Tryd.prog 55 #[.string s] w fun e w' => e = .returned (.int .i64 (signL s.data.toList)) ∧ w = w' := by
  have hl : s.data.toList.length = s.size := by simp
  have e0 := by_at s 0 p0
  have nd : needN s[0].toNat = 4 := by unfold needN; repeat (first | rw [if_pos (by omega)] | rw [if_neg (by omega)])
  have lw : loN s[0].toNat = 144 := by unfold loN; repeat (first | rw [if_pos (by omega)] | rw [if_neg (by omega)])
  have hg : hiN s[0].toNat = 191 := by unfold hiN; repeat (first | rw [if_pos (by omega)] | rw [if_neg (by omega)])
  by_cases hn : s.size < 4
  · have E := Lib.hid (show signL s.data.toList = 0 by
      unfold signL signN
      rw [hl, e0, if_neg (by omega), if_neg (by omega), nd, if_neg (by omega), if_pos hn])
    rw [E.out]
    have hz : ((s.size : Int) == 0) = false := beq_eq_false_iff_ne.2 (by omega)
    have i0 : (0 : Int) < (s.size : Int) := by omega
    obtain ⟨x0, z0⟩ : ∃ x : Int, (s[0].toNat : Int) = x := ⟨_, rfl⟩
    obtain rfl : x0 = 240 := by omega
    have t0 : (s.size : Int) < 4 := by omega
    clear E hl nd k1 k2 lw hg e0 hn
    go_enter Tryd.func55, Tryd.ntmps55
    go_wp2_with fail
    go_ret
    exact ⟨rfl, rfl⟩
  have p1 : 1 < s.size := by omega
  have e1 := by_at s 1 p1
  have u1 := UInt8.toNat_lt s[1]
  by_cases h1 : s[1].toNat < 144
  · have E := Lib.hid (show signL s.data.toList = 0 by
      unfold signL signN
      rw [hl, e0, if_neg (by omega), if_neg (by omega), nd, if_neg (by omega), if_neg hn, e1, lw, hg, if_pos (by omega)])
    rw [E.out]
    have hz : ((s.size : Int) == 0) = false := beq_eq_false_iff_ne.2 (by omega)
    have i0 : (0 : Int) < (s.size : Int) := by omega
    have i1 : (1 : Int) < (s.size : Int) := by omega
    obtain ⟨x0, z0⟩ : ∃ x : Int, (s[0].toNat : Int) = x := ⟨_, rfl⟩
    obtain ⟨x1, z1⟩ : ∃ x : Int, (s[1].toNat : Int) = x := ⟨_, rfl⟩
    obtain rfl : x0 = 240 := by omega
    have t0 : ¬ (s.size : Int) < 4 := by omega
    have t1 : x1 < 144 := by omega
    have v1 : 0 ≤ x1 := by omega
    have v1' : x1 ≤ 255 := by omega
    clear E hl nd k1 k2 lw hg e0 e1 u1 hn h1
    go_enter Tryd.func55, Tryd.ntmps55
    go_wp2_with fail
    go_ret
    exact ⟨rfl, rfl⟩
  by_cases h2 : 191 < s[1].toNat
  · have E := Lib.hid (show signL s.data.toList = 0 by
      unfold signL signN
      rw [hl, e0, if_neg (by omega), if_neg (by omega), nd, if_neg (by omega), if_neg hn, e1, lw, hg, if_pos (by omega)])
    rw [E.out]
    have hz : ((s.size : Int) == 0) = false := beq_eq_false_iff_ne.2 (by omega)
    have i0 : (0 : Int) < (s.size : Int) := by omega
    have i1 : (1 : Int) < (s.size : Int) := by omega
    obtain ⟨x0, z0⟩ : ∃ x : Int, (s[0].toNat : Int) = x := ⟨_, rfl⟩
    obtain ⟨x1, z1⟩ : ∃ x : Int, (s[1].toNat : Int) = x := ⟨_, rfl⟩
    obtain rfl : x0 = 240 := by omega
    have t0 : ¬ (s.size : Int) < 4 := by omega
    have t1 : ¬ x1 < 144 := by omega
    have d1 : decide (x1 < 144) = false := decide_eq_false (by omega)
    have t2 : 191 < x1 := by omega
    have v1 : 0 ≤ x1 := by omega
    have v1' : x1 ≤ 255 := by omega
    clear E hl nd k1 k2 lw hg e0 e1 u1 hn h1 h2
    go_enter Tryd.func55, Tryd.ntmps55
    go_wp2_with fail
    go_ret
    exact ⟨rfl, rfl⟩
  have p2 : 2 < s.size := by omega
  have e2 := by_at s 2 p2
  have u2 := UInt8.toNat_lt s[2]
  have p3 : 3 < s.size := by omega
  have e3 := by_at s 3 p3
  have u3 := UInt8.toNat_lt s[3]
  by_cases l2 : s[2].toNat < 128
  · have E := Lib.hid (show signL s.data.toList = 0 by
      unfold signL signN
      rw [hl, e0, if_neg (by omega), if_neg (by omega), nd, if_neg (by omega), if_neg hn, e1, e2, e3, lw, hg, if_neg (by omega), if_pos (by unfold midB; omega)])
    rw [E.out]
    have hz : ((s.size : Int) == 0) = false := beq_eq_false_iff_ne.2 (by omega)
    have i0 : (0 : Int) < (s.size : Int) := by omega
    have i1 : (1 : Int) < (s.size : Int) := by omega
    have i2 : (2 : Int) < (s.size : Int) := by omega
    have i3 : (3 : Int) < (s.size : Int) := by omega
    obtain ⟨x0, z0⟩ : ∃ x : Int, (s[0].toNat : Int) = x := ⟨_, rfl⟩
    obtain ⟨x1, z1⟩ : ∃ x : Int, (s[1].toNat : Int) = x := ⟨_, rfl⟩
    obtain ⟨x2, z2⟩ : ∃ x : Int, (s[2].toNat : Int) = x := ⟨_, rfl⟩
    obtain ⟨x3, z3⟩ : ∃ x : Int, (s[3].toNat : Int) = x := ⟨_, rfl⟩
    obtain rfl : x0 = 240 := by omega
    have t0 : ¬ (s.size : Int) < 4 := by omega
    have t1 : ¬ x1 < 144 := by omega
    have d1 : decide (x1 < 144) = false := decide_eq_false (by omega)
    have t2 : ¬ 191 < x1 := by omega
    have d2 : decide (191 < x1) = false := decide_eq_false (by omega)
    have t3 : x2 < 128 := by omega
    have v1 : 0 ≤ x1 := by omega
    have v1' : x1 ≤ 255 := by omega
    have v2 : 0 ≤ x2 := by omega
    have v2' : x2 ≤ 255 := by omega
    have v3 : 0 ≤ x3 := by omega
    have v3' : x3 ≤ 255 := by omega
    clear E hl nd k1 k2 lw hg e0 e1 e2 e3 u1 u2 u3 hn h1 h2 l2
    go_enter Tryd.func55, Tryd.ntmps55
    go_wp2_with fail
    refine wp_loop_rounds 1 ?_
    rw [rounds_succ]
    go_wp2_with fail
    go_ret
    exact ⟨rfl, rfl⟩
  by_cases r2 : 191 < s[2].toNat
  · have E := Lib.hid (show signL s.data.toList = 0 by
      unfold signL signN
      rw [hl, e0, if_neg (by omega), if_neg (by omega), nd, if_neg (by omega), if_neg hn, e1, e2, e3, lw, hg, if_neg (by omega), if_pos (by unfold midB; omega)])
    rw [E.out]
    have hz : ((s.size : Int) == 0) = false := beq_eq_false_iff_ne.2 (by omega)
    have i0 : (0 : Int) < (s.size : Int) := by omega
    have i1 : (1 : Int) < (s.size : Int) := by omega
    have i2 : (2 : Int) < (s.size : Int) := by omega
    have i3 : (3 : Int) < (s.size : Int) := by omega
    obtain ⟨x0, z0⟩ : ∃ x : Int, (s[0].toNat : Int) = x := ⟨_, rfl⟩
    obtain ⟨x1, z1⟩ : ∃ x : Int, (s[1].toNat : Int) = x := ⟨_, rfl⟩
    obtain ⟨x2, z2⟩ : ∃ x : Int, (s[2].toNat : Int) = x := ⟨_, rfl⟩
    obtain ⟨x3, z3⟩ : ∃ x : Int, (s[3].toNat : Int) = x := ⟨_, rfl⟩
    obtain rfl : x0 = 240 := by omega
    have t0 : ¬ (s.size : Int) < 4 := by omega
    have t1 : ¬ x1 < 144 := by omega
    have d1 : decide (x1 < 144) = false := decide_eq_false (by omega)
    have t2 : ¬ 191 < x1 := by omega
    have d2 : decide (191 < x1) = false := decide_eq_false (by omega)
    have t3 : ¬ x2 < 128 := by omega
    have d3 : decide (x2 < 128) = false := decide_eq_false (by omega)
    have t4 : 191 < x2 := by omega
    have v1 : 0 ≤ x1 := by omega
    have v1' : x1 ≤ 255 := by omega
    have v2 : 0 ≤ x2 := by omega
    have v2' : x2 ≤ 255 := by omega
    have v3 : 0 ≤ x3 := by omega
    have v3' : x3 ≤ 255 := by omega
    clear E hl nd k1 k2 lw hg e0 e1 e2 e3 u1 u2 u3 hn h1 h2 l2 r2
    go_enter Tryd.func55, Tryd.ntmps55
    go_wp2_with fail
    refine wp_loop_rounds 1 ?_
    rw [rounds_succ]
    go_wp2_with fail
    go_ret
    exact ⟨rfl, rfl⟩
  by_cases l3 : s[3].toNat < 128
  · have E := Lib.hid (show signL s.data.toList = 0 by
      unfold signL signN
      rw [hl, e0, if_neg (by omega), if_neg (by omega), nd, if_neg (by omega), if_neg hn, e1, e2, e3, lw, hg, if_neg (by omega), if_neg (by unfold midB; omega), if_pos (by unfold midB; omega)])
    rw [E.out]
    have hz : ((s.size : Int) == 0) = false := beq_eq_false_iff_ne.2 (by omega)
    have i0 : (0 : Int) < (s.size : Int) := by omega
    have i1 : (1 : Int) < (s.size : Int) := by omega
    have i2 : (2 : Int) < (s.size : Int) := by omega
    have i3 : (3 : Int) < (s.size : Int) := by omega
    obtain ⟨x0, z0⟩ : ∃ x : Int, (s[0].toNat : Int) = x := ⟨_, rfl⟩
    obtain ⟨x1, z1⟩ : ∃ x : Int, (s[1].toNat : Int) = x := ⟨_, rfl⟩
    obtain ⟨x2, z2⟩ : ∃ x : Int, (s[2].toNat : Int) = x := ⟨_, rfl⟩
    obtain ⟨x3, z3⟩ : ∃ x : Int, (s[3].toNat : Int) = x := ⟨_, rfl⟩
    obtain rfl : x0 = 240 := by omega
    have t0 : ¬ (s.size : Int) < 4 := by omega
    have t1 : ¬ x1 < 144 := by omega
    have d1 : decide (x1 < 144) = false := decide_eq_false (by omega)
    have t2 : ¬ 191 < x1 := by omega
    have d2 : decide (191 < x1) = false := decide_eq_false (by omega)
    have t3 : ¬ x2 < 128 := by omega
    have d3 : decide (x2 < 128) = false := decide_eq_false (by omega)
    have t4 : ¬ 191 < x2 := by omega
    have d4 : decide (191 < x2) = false := decide_eq_false (by omega)
    have t5 : x3 < 128 := by omega
    have v1 : 0 ≤ x1 := by omega
    have v1' : x1 ≤ 255 := by omega
    have v2 : 0 ≤ x2 := by omega
    have v2' : x2 ≤ 255 := by omega
    have v3 : 0 ≤ x3 := by omega
    have v3' : x3 ≤ 255 := by omega
    clear E hl nd k1 k2 lw hg e0 e1 e2 e3 u1 u2 u3 hn h1 h2 l2 r2 l3
    go_enter Tryd.func55, Tryd.ntmps55
    go_wp2_with fail
    refine wp_loop_rounds 2 ?_
    rw [rounds_succ]
    go_wp2_with fail
    rw [rounds_succ]
    go_wp2_with fail
    go_ret
    exact ⟨rfl, rfl⟩
  by_cases r3 : 191 < s[3].toNat
  · have E := Lib.hid (show signL s.data.toList = 0 by
      unfold signL signN
      rw [hl, e0, if_neg (by omega), if_neg (by omega), nd, if_neg (by omega), if_neg hn, e1, e2, e3, lw, hg, if_neg (by omega), if_neg (by unfold midB; omega), if_pos (by unfold midB; omega)])
    rw [E.out]
    have hz : ((s.size : Int) == 0) = false := beq_eq_false_iff_ne.2 (by omega)
    have i0 : (0 : Int) < (s.size : Int) := by omega
    have i1 : (1 : Int) < (s.size : Int) := by omega
    have i2 : (2 : Int) < (s.size : Int) := by omega
    have i3 : (3 : Int) < (s.size : Int) := by omega
    obtain ⟨x0, z0⟩ : ∃ x : Int, (s[0].toNat : Int) = x := ⟨_, rfl⟩
    obtain ⟨x1, z1⟩ : ∃ x : Int, (s[1].toNat : Int) = x := ⟨_, rfl⟩
    obtain ⟨x2, z2⟩ : ∃ x : Int, (s[2].toNat : Int) = x := ⟨_, rfl⟩
    obtain ⟨x3, z3⟩ : ∃ x : Int, (s[3].toNat : Int) = x := ⟨_, rfl⟩
    obtain rfl : x0 = 240 := by omega
    have t0 : ¬ (s.size : Int) < 4 := by omega
    have t1 : ¬ x1 < 144 := by omega
    have d1 : decide (x1 < 144) = false := decide_eq_false (by omega)
    have t2 : ¬ 191 < x1 := by omega
    have d2 : decide (191 < x1) = false := decide_eq_false (by omega)
    have t3 : ¬ x2 < 128 := by omega
    have d3 : decide (x2 < 128) = false := decide_eq_false (by omega)
    have t4 : ¬ 191 < x2 := by omega
    have d4 : decide (191 < x2) = false := decide_eq_false (by omega)
    have t5 : ¬ x3 < 128 := by omega
    have d5 : decide (x3 < 128) = false := decide_eq_false (by omega)
    have t6 : 191 < x3 := by omega
    have v1 : 0 ≤ x1 := by omega
    have v1' : x1 ≤ 255 := by omega
    have v2 : 0 ≤ x2 := by omega
    have v2' : x2 ≤ 255 := by omega
    have v3 : 0 ≤ x3 := by omega
    have v3' : x3 ≤ 255 := by omega
    clear E hl nd k1 k2 lw hg e0 e1 e2 e3 u1 u2 u3 hn h1 h2 l2 r2 l3 r3
    go_enter Tryd.func55, Tryd.ntmps55
    go_wp2_with fail
    refine wp_loop_rounds 2 ?_
    rw [rounds_succ]
    go_wp2_with fail
    rw [rounds_succ]
    go_wp2_with fail
    go_ret
    exact ⟨rfl, rfl⟩
  · have E := Lib.hid (show signL s.data.toList = 4 by
      unfold signL signN
      rw [hl, e0, if_neg (by omega), if_neg (by omega), nd, if_neg (by omega), if_neg hn, e1, e2, e3, lw, hg, if_neg (by omega), if_neg (by unfold midB; omega), if_neg (by unfold midB; omega)])
    rw [E.out]
    have hz : ((s.size : Int) == 0) = false := beq_eq_false_iff_ne.2 (by omega)
    have i0 : (0 : Int) < (s.size : Int) := by omega
    have i1 : (1 : Int) < (s.size : Int) := by omega
    have i2 : (2 : Int) < (s.size : Int) := by omega
    have i3 : (3 : Int) < (s.size : Int) := by omega
    obtain ⟨x0, z0⟩ : ∃ x : Int, (s[0].toNat : Int) = x := ⟨_, rfl⟩
    obtain ⟨x1, z1⟩ : ∃ x : Int, (s[1].toNat : Int) = x := ⟨_, rfl⟩
    obtain ⟨x2, z2⟩ : ∃ x : Int, (s[2].toNat : Int) = x := ⟨_, rfl⟩
    obtain ⟨x3, z3⟩ : ∃ x : Int, (s[3].toNat : Int) = x := ⟨_, rfl⟩
    obtain rfl : x0 = 240 := by omega
    have t0 : ¬ (s.size : Int) < 4 := by omega
    have t1 : ¬ x1 < 144 := by omega
    have d1 : decide (x1 < 144) = false := decide_eq_false (by omega)
    have t2 : ¬ 191 < x1 := by omega
    have d2 : decide (191 < x1) = false := decide_eq_false (by omega)
    have t3 : ¬ x2 < 128 := by omega
    have d3 : decide (x2 < 128) = false := decide_eq_false (by omega)
    have t4 : ¬ 191 < x2 := by omega
    have d4 : decide (191 < x2) = false := decide_eq_false (by omega)
    have t5 : ¬ x3 < 128 := by omega
    have d5 : decide (x3 < 128) = false := decide_eq_false (by omega)
    have t6 : ¬ 191 < x3 := by omega
    have d6 : decide (191 < x3) = false := decide_eq_false (by omega)
    have v1 : 0 ≤ x1 := by omega
    have v1' : x1 ≤ 255 := by omega
    have v2 : 0 ≤ x2 := by omega
    have v2' : x2 ≤ 255 := by omega
    have v3 : 0 ≤ x3 := by omega
    have v3' : x3 ≤ 255 := by omega
    clear E hl nd k1 k2 lw hg e0 e1 e2 e3 u1 u2 u3 hn h1 h2 l2 r2 l3 r3
    go_enter Tryd.func55, Tryd.ntmps55
    go_wp2_with fail
    refine wp_loop_rounds 3 ?_
    rw [rounds_succ]
    go_wp2_with fail
    rw [rounds_succ]
    go_wp2_with fail
    rw [rounds_succ]
    go_wp2_with fail
    go_ret
    exact ⟨rfl, rfl⟩

set_option maxHeartbeats 2000000 in
theorem sign_c4b (s : ByteArray) (hs : s.size ≤ 9223372036854775807) (p0 : 0 < s.size) (k1 : 241 ≤ s[0].toNat) (k2 : s[0].toNat ≤ 243) (w : World) : Calls Tryd.prog 55 #[.string s] w fun e w' => e = .returned (.int .i64 (signL s.data.toList)) ∧ w = w' := by
  have hl : s.data.toList.length = s.size := by simp
  have e0 := by_at s 0 p0
  have nd : needN s[0].toNat = 4 := by unfold needN; repeat (first | rw [if_pos (by omega)] | rw [if_neg (by omega)])
  have lw : loN s[0].toNat = 128 := by unfold loN; repeat (first | rw [if_pos (by omega)] | rw [if_neg (by omega)])
  have hg : hiN s[0].toNat = 191 := by unfold hiN; repeat (first | rw [if_pos (by omega)] | rw [if_neg (by omega)])
  by_cases hn : s.size < 4
  · have E := Lib.hid (show signL s.data.toList = 0 by
      unfold signL signN
      rw [hl, e0, if_neg (by omega), if_neg (by omega), nd, if_neg (by omega), if_pos hn])
    rw [E.out]
    have hz : ((s.size : Int) == 0) = false := beq_eq_false_iff_ne.2 (by omega)
    have i0 : (0 : Int) < (s.size : Int) := by omega
    obtain ⟨x0, z0⟩ : ∃ x : Int, (s[0].toNat : Int) = x := ⟨_, rfl⟩
    have f1 : (241 : Int) ≤ x0 := by omega
    have f2 : x0 ≤ 243 := by omega
    have g224 : (x0 == 224) = false := beq_eq_false_iff_ne.2 (by omega)
    have g237 : (x0 == 237) = false := beq_eq_false_iff_ne.2 (by omega)
    have g240 : (x0 == 240) = false := beq_eq_false_iff_ne.2 (by omega)
    have g244 : (x0 == 244) = false := beq_eq_false_iff_ne.2 (by omega)
    have c128 : decide (x0 < 128) = false := decide_eq_false (by omega)
    have c194 : decide (194 ≤ x0) = true := decide_eq_true (by omega)
    have c224 : decide (224 ≤ x0) = true := decide_eq_true (by omega)
    have c240 : decide (240 ≤ x0) = true := decide_eq_true (by omega)
    have c223 : decide (x0 ≤ 223) = false := decide_eq_false (by omega)
    have c239 : decide (x0 ≤ 239) = false := decide_eq_false (by omega)
    have c244 : decide (x0 ≤ 244) = true := decide_eq_true (by omega)
    have t0 : (s.size : Int) < 4 := by omega
    clear E hl nd k1 k2 lw hg e0 hn
    go_enter Tryd.func55, Tryd.ntmps55
    go_wp2_with fail
    go_ret
    exact ⟨rfl, rfl⟩
  have p1 : 1 < s.size := by omega
  have e1 := by_at s 1 p1
  have u1 := UInt8.toNat_lt s[1]
  by_cases h1 : s[1].toNat < 128
  · have E := Lib.hid (show signL s.data.toList = 0 by
      unfold signL signN
      rw [hl, e0, if_neg (by omega), if_neg (by omega), nd, if_neg (by omega), if_neg hn, e1, lw, hg, if_pos (by omega)])
    rw [E.out]
    have hz : ((s.size : Int) == 0) = false := beq_eq_false_iff_ne.2 (by omega)
    have i0 : (0 : Int) < (s.size : Int) := by omega
    have i1 : (1 : Int) < (s.size : Int) := by omega
    obtain ⟨x0, z0⟩ : ∃ x : Int, (s[0].toNat : Int) = x := ⟨_, rfl⟩
    obtain ⟨x1, z1⟩ : ∃ x : Int, (s[1].toNat : Int) = x := ⟨_, rfl⟩
    have f1 : (241 : Int) ≤ x0 := by omega
    have f2 : x0 ≤ 243 := by omega
    have g224 : (x0 == 224) = false := beq_eq_false_iff_ne.2 (by omega)
    have g237 : (x0 == 237) = false := beq_eq_false_iff_ne.2 (by omega)
    have g240 : (x0 == 240) = false := beq_eq_false_iff_ne.2 (by omega)
    have g244 : (x0 == 244) = false := beq_eq_false_iff_ne.2 (by omega)
    have c128 : decide (x0 < 128) = false := decide_eq_false (by omega)
    have c194 : decide (194 ≤ x0) = true := decide_eq_true (by omega)
    have c224 : decide (224 ≤ x0) = true := decide_eq_true (by omega)
    have c240 : decide (240 ≤ x0) = true := decide_eq_true (by omega)
    have c223 : decide (x0 ≤ 223) = false := decide_eq_false (by omega)
    have c239 : decide (x0 ≤ 239) = false := decide_eq_false (by omega)
    have c244 : decide (x0 ≤ 244) = true := decide_eq_true (by omega)
    have t0 : ¬ (s.size : Int) < 4 := by omega
    have t1 : x1 < 128 := by omega
    have v1 : 0 ≤ x1 := by omega
    have v1' : x1 ≤ 255 := by omega
    clear E hl nd k1 k2 lw hg e0 e1 u1 hn h1
    go_enter Tryd.func55, Tryd.ntmps55
    go_wp2_with fail
    go_ret
    exact ⟨rfl, rfl⟩
  by_cases h2 : 191 < s[1].toNat
  · have E := Lib.hid (show signL s.data.toList = 0 by
      unfold signL signN
      rw [hl, e0, if_neg (by omega), if_neg (by omega), nd, if_neg (by omega), if_neg hn, e1, lw, hg, if_pos (by omega)])
    rw [E.out]
    have hz : ((s.size : Int) == 0) = false := beq_eq_false_iff_ne.2 (by omega)
    have i0 : (0 : Int) < (s.size : Int) := by omega
    have i1 : (1 : Int) < (s.size : Int) := by omega
    obtain ⟨x0, z0⟩ : ∃ x : Int, (s[0].toNat : Int) = x := ⟨_, rfl⟩
    obtain ⟨x1, z1⟩ : ∃ x : Int, (s[1].toNat : Int) = x := ⟨_, rfl⟩
    have f1 : (241 : Int) ≤ x0 := by omega
    have f2 : x0 ≤ 243 := by omega
    have g224 : (x0 == 224) = false := beq_eq_false_iff_ne.2 (by omega)
    have g237 : (x0 == 237) = false := beq_eq_false_iff_ne.2 (by omega)
    have g240 : (x0 == 240) = false := beq_eq_false_iff_ne.2 (by omega)
    have g244 : (x0 == 244) = false := beq_eq_false_iff_ne.2 (by omega)
    have c128 : decide (x0 < 128) = false := decide_eq_false (by omega)
    have c194 : decide (194 ≤ x0) = true := decide_eq_true (by omega)
    have c224 : decide (224 ≤ x0) = true := decide_eq_true (by omega)
    have c240 : decide (240 ≤ x0) = true := decide_eq_true (by omega)
    have c223 : decide (x0 ≤ 223) = false := decide_eq_false (by omega)
    have c239 : decide (x0 ≤ 239) = false := decide_eq_false (by omega)
    have c244 : decide (x0 ≤ 244) = true := decide_eq_true (by omega)
    have t0 : ¬ (s.size : Int) < 4 := by omega
    have t1 : ¬ x1 < 128 := by omega
    have d1 : decide (x1 < 128) = false := decide_eq_false (by omega)
    have t2 : 191 < x1 := by omega
    have v1 : 0 ≤ x1 := by omega
    have v1' : x1 ≤ 255 := by omega
    clear E hl nd k1 k2 lw hg e0 e1 u1 hn h1 h2
    go_enter Tryd.func55, Tryd.ntmps55
    go_wp2_with fail
    go_ret
    exact ⟨rfl, rfl⟩
  have p2 : 2 < s.size := by omega
  have e2 := by_at s 2 p2
  have u2 := UInt8.toNat_lt s[2]
  have p3 : 3 < s.size := by omega
  have e3 := by_at s 3 p3
  have u3 := UInt8.toNat_lt s[3]
  by_cases l2 : s[2].toNat < 128
  · have E := Lib.hid (show signL s.data.toList = 0 by
      unfold signL signN
      rw [hl, e0, if_neg (by omega), if_neg (by omega), nd, if_neg (by omega), if_neg hn, e1, e2, e3, lw, hg, if_neg (by omega), if_pos (by unfold midB; omega)])
    rw [E.out]
    have hz : ((s.size : Int) == 0) = false := beq_eq_false_iff_ne.2 (by omega)
    have i0 : (0 : Int) < (s.size : Int) := by omega
    have i1 : (1 : Int) < (s.size : Int) := by omega
    have i2 : (2 : Int) < (s.size : Int) := by omega
    have i3 : (3 : Int) < (s.size : Int) := by omega
    obtain ⟨x0, z0⟩ : ∃ x : Int, (s[0].toNat : Int) = x := ⟨_, rfl⟩
    obtain ⟨x1, z1⟩ : ∃ x : Int, (s[1].toNat : Int) = x := ⟨_, rfl⟩
    obtain ⟨x2, z2⟩ : ∃ x : Int, (s[2].toNat : Int) = x := ⟨_, rfl⟩
    obtain ⟨x3, z3⟩ : ∃ x : Int, (s[3].toNat : Int) = x := ⟨_, rfl⟩
    have f1 : (241 : Int) ≤ x0 := by omega
    have f2 : x0 ≤ 243 := by omega
    have g224 : (x0 == 224) = false := beq_eq_false_iff_ne.2 (by omega)
    have g237 : (x0 == 237) = false := beq_eq_false_iff_ne.2 (by omega)
    have g240 : (x0 == 240) = false := beq_eq_false_iff_ne.2 (by omega)
    have g244 : (x0 == 244) = false := beq_eq_false_iff_ne.2 (by omega)
    have c128 : decide (x0 < 128) = false := decide_eq_false (by omega)
    have c194 : decide (194 ≤ x0) = true := decide_eq_true (by omega)
    have c224 : decide (224 ≤ x0) = true := decide_eq_true (by omega)
    have c240 : decide (240 ≤ x0) = true := decide_eq_true (by omega)
    have c223 : decide (x0 ≤ 223) = false := decide_eq_false (by omega)
    have c239 : decide (x0 ≤ 239) = false := decide_eq_false (by omega)
    have c244 : decide (x0 ≤ 244) = true := decide_eq_true (by omega)
    have t0 : ¬ (s.size : Int) < 4 := by omega
    have t1 : ¬ x1 < 128 := by omega
    have d1 : decide (x1 < 128) = false := decide_eq_false (by omega)
    have t2 : ¬ 191 < x1 := by omega
    have d2 : decide (191 < x1) = false := decide_eq_false (by omega)
    have t3 : x2 < 128 := by omega
    have v1 : 0 ≤ x1 := by omega
    have v1' : x1 ≤ 255 := by omega
    have v2 : 0 ≤ x2 := by omega
    have v2' : x2 ≤ 255 := by omega
    have v3 : 0 ≤ x3 := by omega
    have v3' : x3 ≤ 255 := by omega
    clear E hl nd k1 k2 lw hg e0 e1 e2 e3 u1 u2 u3 hn h1 h2 l2
    go_enter Tryd.func55, Tryd.ntmps55
    go_wp2_with fail
    refine wp_loop_rounds 1 ?_
    rw [rounds_succ]
    go_wp2_with fail
    go_ret
    exact ⟨rfl, rfl⟩
  by_cases r2 : 191 < s[2].toNat
  · have E := Lib.hid (show signL s.data.toList = 0 by
      unfold signL signN
      rw [hl, e0, if_neg (by omega), if_neg (by omega), nd, if_neg (by omega), if_neg hn, e1, e2, e3, lw, hg, if_neg (by omega), if_pos (by unfold midB; omega)])
    rw [E.out]
    have hz : ((s.size : Int) == 0) = false := beq_eq_false_iff_ne.2 (by omega)
    have i0 : (0 : Int) < (s.size : Int) := by omega
    have i1 : (1 : Int) < (s.size : Int) := by omega
    have i2 : (2 : Int) < (s.size : Int) := by omega
    have i3 : (3 : Int) < (s.size : Int) := by omega
    obtain ⟨x0, z0⟩ : ∃ x : Int, (s[0].toNat : Int) = x := ⟨_, rfl⟩
    obtain ⟨x1, z1⟩ : ∃ x : Int, (s[1].toNat : Int) = x := ⟨_, rfl⟩
    obtain ⟨x2, z2⟩ : ∃ x : Int, (s[2].toNat : Int) = x := ⟨_, rfl⟩
    obtain ⟨x3, z3⟩ : ∃ x : Int, (s[3].toNat : Int) = x := ⟨_, rfl⟩
    have f1 : (241 : Int) ≤ x0 := by omega
    have f2 : x0 ≤ 243 := by omega
    have g224 : (x0 == 224) = false := beq_eq_false_iff_ne.2 (by omega)
    have g237 : (x0 == 237) = false := beq_eq_false_iff_ne.2 (by omega)
    have g240 : (x0 == 240) = false := beq_eq_false_iff_ne.2 (by omega)
    have g244 : (x0 == 244) = false := beq_eq_false_iff_ne.2 (by omega)
    have c128 : decide (x0 < 128) = false := decide_eq_false (by omega)
    have c194 : decide (194 ≤ x0) = true := decide_eq_true (by omega)
    have c224 : decide (224 ≤ x0) = true := decide_eq_true (by omega)
    have c240 : decide (240 ≤ x0) = true := decide_eq_true (by omega)
    have c223 : decide (x0 ≤ 223) = false := decide_eq_false (by omega)
    have c239 : decide (x0 ≤ 239) = false := decide_eq_false (by omega)
    have c244 : decide (x0 ≤ 244) = true := decide_eq_true (by omega)
    have t0 : ¬ (s.size : Int) < 4 := by omega
    have t1 : ¬ x1 < 128 := by omega
    have d1 : decide (x1 < 128) = false := decide_eq_false (by omega)
    have t2 : ¬ 191 < x1 := by omega
    have d2 : decide (191 < x1) = false := decide_eq_false (by omega)
    have t3 : ¬ x2 < 128 := by omega
    have d3 : decide (x2 < 128) = false := decide_eq_false (by omega)
    have t4 : 191 < x2 := by omega
    have v1 : 0 ≤ x1 := by omega
    have v1' : x1 ≤ 255 := by omega
    have v2 : 0 ≤ x2 := by omega
    have v2' : x2 ≤ 255 := by omega
    have v3 : 0 ≤ x3 := by omega
    have v3' : x3 ≤ 255 := by omega
    clear E hl nd k1 k2 lw hg e0 e1 e2 e3 u1 u2 u3 hn h1 h2 l2 r2
    go_enter Tryd.func55, Tryd.ntmps55
    go_wp2_with fail
    refine wp_loop_rounds 1 ?_
    rw [rounds_succ]
    go_wp2_with fail
    go_ret
    exact ⟨rfl, rfl⟩
  by_cases l3 : s[3].toNat < 128
  · have E := Lib.hid (show signL s.data.toList = 0 by
      unfold signL signN
      rw [hl, e0, if_neg (by omega), if_neg (by omega), nd, if_neg (by omega), if_neg hn, e1, e2, e3, lw, hg, if_neg (by omega), if_neg (by unfold midB; omega), if_pos (by unfold midB; omega)])
    rw [E.out]
    have hz : ((s.size : Int) == 0) = false := beq_eq_false_iff_ne.2 (by omega)
    have i0 : (0 : Int) < (s.size : Int) := by omega
    have i1 : (1 : Int) < (s.size : Int) := by omega
    have i2 : (2 : Int) < (s.size : Int) := by omega
    have i3 : (3 : Int) < (s.size : Int) := by omega
    obtain ⟨x0, z0⟩ : ∃ x : Int, (s[0].toNat : Int) = x := ⟨_, rfl⟩
    obtain ⟨x1, z1⟩ : ∃ x : Int, (s[1].toNat : Int) = x := ⟨_, rfl⟩
    obtain ⟨x2, z2⟩ : ∃ x : Int, (s[2].toNat : Int) = x := ⟨_, rfl⟩
    obtain ⟨x3, z3⟩ : ∃ x : Int, (s[3].toNat : Int) = x := ⟨_, rfl⟩
    have f1 : (241 : Int) ≤ x0 := by omega
    have f2 : x0 ≤ 243 := by omega
    have g224 : (x0 == 224) = false := beq_eq_false_iff_ne.2 (by omega)
    have g237 : (x0 == 237) = false := beq_eq_false_iff_ne.2 (by omega)
    have g240 : (x0 == 240) = false := beq_eq_false_iff_ne.2 (by omega)
    have g244 : (x0 == 244) = false := beq_eq_false_iff_ne.2 (by omega)
    have c128 : decide (x0 < 128) = false := decide_eq_false (by omega)
    have c194 : decide (194 ≤ x0) = true := decide_eq_true (by omega)
    have c224 : decide (224 ≤ x0) = true := decide_eq_true (by omega)
    have c240 : decide (240 ≤ x0) = true := decide_eq_true (by omega)
    have c223 : decide (x0 ≤ 223) = false := decide_eq_false (by omega)
    have c239 : decide (x0 ≤ 239) = false := decide_eq_false (by omega)
    have c244 : decide (x0 ≤ 244) = true := decide_eq_true (by omega)
    have t0 : ¬ (s.size : Int) < 4 := by omega
    have t1 : ¬ x1 < 128 := by omega
    have d1 : decide (x1 < 128) = false := decide_eq_false (by omega)
    have t2 : ¬ 191 < x1 := by omega
    have d2 : decide (191 < x1) = false := decide_eq_false (by omega)
    have t3 : ¬ x2 < 128 := by omega
    have d3 : decide (x2 < 128) = false := decide_eq_false (by omega)
    have t4 : ¬ 191 < x2 := by omega
    have d4 : decide (191 < x2) = false := decide_eq_false (by omega)
    have t5 : x3 < 128 := by omega
    have v1 : 0 ≤ x1 := by omega
    have v1' : x1 ≤ 255 := by omega
    have v2 : 0 ≤ x2 := by omega
    have v2' : x2 ≤ 255 := by omega
    have v3 : 0 ≤ x3 := by omega
    have v3' : x3 ≤ 255 := by omega
    clear E hl nd k1 k2 lw hg e0 e1 e2 e3 u1 u2 u3 hn h1 h2 l2 r2 l3
    go_enter Tryd.func55, Tryd.ntmps55
    go_wp2_with fail
    refine wp_loop_rounds 2 ?_
    rw [rounds_succ]
    go_wp2_with fail
    rw [rounds_succ]
    go_wp2_with fail
    go_ret
    exact ⟨rfl, rfl⟩
  by_cases r3 : 191 < s[3].toNat
  · have E := Lib.hid (show signL s.data.toList = 0 by
      unfold signL signN
      rw [hl, e0, if_neg (by omega), if_neg (by omega), nd, if_neg (by omega), if_neg hn, e1, e2, e3, lw, hg, if_neg (by omega), if_neg (by unfold midB; omega), if_pos (by unfold midB; omega)])
    rw [E.out]
    have hz : ((s.size : Int) == 0) = false := beq_eq_false_iff_ne.2 (by omega)
    have i0 : (0 : Int) < (s.size : Int) := by omega
    have i1 : (1 : Int) < (s.size : Int) := by omega
    have i2 : (2 : Int) < (s.size : Int) := by omega
    have i3 : (3 : Int) < (s.size : Int) := by omega
    obtain ⟨x0, z0⟩ : ∃ x : Int, (s[0].toNat : Int) = x := ⟨_, rfl⟩
    obtain ⟨x1, z1⟩ : ∃ x : Int, (s[1].toNat : Int) = x := ⟨_, rfl⟩
    obtain ⟨x2, z2⟩ : ∃ x : Int, (s[2].toNat : Int) = x := ⟨_, rfl⟩
    obtain ⟨x3, z3⟩ : ∃ x : Int, (s[3].toNat : Int) = x := ⟨_, rfl⟩
    have f1 : (241 : Int) ≤ x0 := by omega
    have f2 : x0 ≤ 243 := by omega
    have g224 : (x0 == 224) = false := beq_eq_false_iff_ne.2 (by omega)
    have g237 : (x0 == 237) = false := beq_eq_false_iff_ne.2 (by omega)
    have g240 : (x0 == 240) = false := beq_eq_false_iff_ne.2 (by omega)
    have g244 : (x0 == 244) = false := beq_eq_false_iff_ne.2 (by omega)
    have c128 : decide (x0 < 128) = false := decide_eq_false (by omega)
    have c194 : decide (194 ≤ x0) = true := decide_eq_true (by omega)
    have c224 : decide (224 ≤ x0) = true := decide_eq_true (by omega)
    have c240 : decide (240 ≤ x0) = true := decide_eq_true (by omega)
    have c223 : decide (x0 ≤ 223) = false := decide_eq_false (by omega)
    have c239 : decide (x0 ≤ 239) = false := decide_eq_false (by omega)
    have c244 : decide (x0 ≤ 244) = true := decide_eq_true (by omega)
    have t0 : ¬ (s.size : Int) < 4 := by omega
    have t1 : ¬ x1 < 128 := by omega
    have d1 : decide (x1 < 128) = false := decide_eq_false (by omega)
    have t2 : ¬ 191 < x1 := by omega
    have d2 : decide (191 < x1) = false := decide_eq_false (by omega)
    have t3 : ¬ x2 < 128 := by omega
    have d3 : decide (x2 < 128) = false := decide_eq_false (by omega)
    have t4 : ¬ 191 < x2 := by omega
    have d4 : decide (191 < x2) = false := decide_eq_false (by omega)
    have t5 : ¬ x3 < 128 := by omega
    have d5 : decide (x3 < 128) = false := decide_eq_false (by omega)
    have t6 : 191 < x3 := by omega
    have v1 : 0 ≤ x1 := by omega
    have v1' : x1 ≤ 255 := by omega
    have v2 : 0 ≤ x2 := by omega
    have v2' : x2 ≤ 255 := by omega
    have v3 : 0 ≤ x3 := by omega
    have v3' : x3 ≤ 255 := by omega
    clear E hl nd k1 k2 lw hg e0 e1 e2 e3 u1 u2 u3 hn h1 h2 l2 r2 l3 r3
    go_enter Tryd.func55, Tryd.ntmps55
    go_wp2_with fail
    refine wp_loop_rounds 2 ?_
    rw [rounds_succ]
    go_wp2_with fail
    rw [rounds_succ]
    go_wp2_with fail
    go_ret
    exact ⟨rfl, rfl⟩
  · have E := Lib.hid (show signL s.data.toList = 4 by
      unfold signL signN
      rw [hl, e0, if_neg (by omega), if_neg (by omega), nd, if_neg (by omega), if_neg hn, e1, e2, e3, lw, hg, if_neg (by omega), if_neg (by unfold midB; omega), if_neg (by unfold midB; omega)])
    rw [E.out]
    have hz : ((s.size : Int) == 0) = false := beq_eq_false_iff_ne.2 (by omega)
    have i0 : (0 : Int) < (s.size : Int) := by omega
    have i1 : (1 : Int) < (s.size : Int) := by omega
    have i2 : (2 : Int) < (s.size : Int) := by omega
    have i3 : (3 : Int) < (s.size : Int) := by omega
    obtain ⟨x0, z0⟩ : ∃ x : Int, (s[0].toNat : Int) = x := ⟨_, rfl⟩
    obtain ⟨x1, z1⟩ : ∃ x : Int, (s[1].toNat : Int) = x := ⟨_, rfl⟩
    obtain ⟨x2, z2⟩ : ∃ x : Int, (s[2].toNat : Int) = x := ⟨_, rfl⟩
    obtain ⟨x3, z3⟩ : ∃ x : Int, (s[3].toNat : Int) = x := ⟨_, rfl⟩
    have f1 : (241 : Int) ≤ x0 := by omega
    have f2 : x0 ≤ 243 := by omega
    have g224 : (x0 == 224) = false := beq_eq_false_iff_ne.2 (by omega)
    have g237 : (x0 == 237) = false := beq_eq_false_iff_ne.2 (by omega)
    have g240 : (x0 == 240) = false := beq_eq_false_iff_ne.2 (by omega)
    have g244 : (x0 == 244) = false := beq_eq_false_iff_ne.2 (by omega)
    have c128 : decide (x0 < 128) = false := decide_eq_false (by omega)
    have c194 : decide (194 ≤ x0) = true := decide_eq_true (by omega)
    have c224 : decide (224 ≤ x0) = true := decide_eq_true (by omega)
    have c240 : decide (240 ≤ x0) = true := decide_eq_true (by omega)
    have c223 : decide (x0 ≤ 223) = false := decide_eq_false (by omega)
    have c239 : decide (x0 ≤ 239) = false := decide_eq_false (by omega)
    have c244 : decide (x0 ≤ 244) = true := decide_eq_true (by omega)
    have t0 : ¬ (s.size : Int) < 4 := by omega
    have t1 : ¬ x1 < 128 := by omega
    have d1 : decide (x1 < 128) = false := decide_eq_false (by omega)
    have t2 : ¬ 191 < x1 := by omega
    have d2 : decide (191 < x1) = false := decide_eq_false (by omega)
    have t3 : ¬ x2 < 128 := by omega
    have d3 : decide (x2 < 128) = false := decide_eq_false (by omega)
    have t4 : ¬ 191 < x2 := by omega
    have d4 : decide (191 < x2) = false := decide_eq_false (by omega)
    have t5 : ¬ x3 < 128 := by omega
    have d5 : decide (x3 < 128) = false := decide_eq_false (by omega)
    have t6 : ¬ 191 < x3 := by omega
    have d6 : decide (191 < x3) = false := decide_eq_false (by omega)
    have v1 : 0 ≤ x1 := by omega
    have v1' : x1 ≤ 255 := by omega
    have v2 : 0 ≤ x2 := by omega
    have v2' : x2 ≤ 255 := by omega
    have v3 : 0 ≤ x3 := by omega
    have v3' : x3 ≤ 255 := by omega
    clear E hl nd k1 k2 lw hg e0 e1 e2 e3 u1 u2 u3 hn h1 h2 l2 r2 l3 r3
    go_enter Tryd.func55, Tryd.ntmps55
    go_wp2_with fail
    refine wp_loop_rounds 3 ?_
    rw [rounds_succ]
    go_wp2_with fail
    rw [rounds_succ]
    go_wp2_with fail
    rw [rounds_succ]
    go_wp2_with fail
    go_ret
    exact ⟨rfl, rfl⟩

set_option maxHeartbeats 2000000 in
theorem sign_c4c (s : ByteArray) (hs : s.size ≤ 9223372036854775807) (p0 : 0 < s.size) (k1 : 244 ≤ s[0].toNat) (k2 : s[0].toNat ≤ 244) (w : World) : Calls Tryd.prog 55 #[.string s] w fun e w' => e = .returned (.int .i64 (signL s.data.toList)) ∧ w = w' := by
  have hl : s.data.toList.length = s.size := by simp
  have e0 := by_at s 0 p0
  have nd : needN s[0].toNat = 4 := by unfold needN; repeat (first | rw [if_pos (by omega)] | rw [if_neg (by omega)])
  have lw : loN s[0].toNat = 128 := by unfold loN; repeat (first | rw [if_pos (by omega)] | rw [if_neg (by omega)])
  have hg : hiN s[0].toNat = 143 := by unfold hiN; repeat (first | rw [if_pos (by omega)] | rw [if_neg (by omega)])
  by_cases hn : s.size < 4
  · have E := Lib.hid (show signL s.data.toList = 0 by
      unfold signL signN
      rw [hl, e0, if_neg (by omega), if_neg (by omega), nd, if_neg (by omega), if_pos hn])
    rw [E.out]
    have hz : ((s.size : Int) == 0) = false := beq_eq_false_iff_ne.2 (by omega)
    have i0 : (0 : Int) < (s.size : Int) := by omega
    obtain ⟨x0, z0⟩ : ∃ x : Int, (s[0].toNat : Int) = x := ⟨_, rfl⟩
    obtain rfl : x0 = 244 := by omega
    have t0 : (s.size : Int) < 4 := by omega
    clear E hl nd k1 k2 lw hg e0 hn
    go_enter Tryd.func55, Tryd.ntmps55
    go_wp2_with fail
    go_ret
    exact ⟨rfl, rfl⟩
  have p1 : 1 < s.size := by omega
  have e1 := by_at s 1 p1
  have u1 := UInt8.toNat_lt s[1]
  by_cases h1 : s[1].toNat < 128
  · have E := Lib.hid (show signL s.data.toList = 0 by
      unfold signL signN
      rw [hl, e0, if_neg (by omega), if_neg (by omega), nd, if_neg (by omega), if_neg hn, e1, lw, hg, if_pos (by omega)])
    rw [E.out]
    have hz : ((s.size : Int) == 0) = false := beq_eq_false_iff_ne.2 (by omega)
    have i0 : (0 : Int) < (s.size : Int) := by omega
    have i1 : (1 : Int) < (s.size : Int) := by omega
    obtain ⟨x0, z0⟩ : ∃ x : Int, (s[0].toNat : Int) = x := ⟨_, rfl⟩
    obtain ⟨x1, z1⟩ : ∃ x : Int, (s[1].toNat : Int) = x := ⟨_, rfl⟩
    obtain rfl : x0 = 244 := by omega
    have t0 : ¬ (s.size : Int) < 4 := by omega
    have t1 : x1 < 128 := by omega
    have v1 : 0 ≤ x1 := by omega
    have v1' : x1 ≤ 255 := by omega
    clear E hl nd k1 k2 lw hg e0 e1 u1 hn h1
    go_enter Tryd.func55, Tryd.ntmps55
    go_wp2_with fail
    go_ret
    exact ⟨rfl, rfl⟩
  by_cases h2 : 143 < s[1].toNat
  · have E := Lib.hid (show signL s.data.toList = 0 by
      unfold signL signN
      rw [hl, e0, if_neg (by omega), if_neg (by omega), nd, if_neg (by omega), if_neg hn, e1, lw, hg, if_pos (by omega)])
    rw [E.out]
    have hz : ((s.size : Int) == 0) = false := beq_eq_false_iff_ne.2 (by omega)
    have i0 : (0 : Int) < (s.size : Int) := by omega
    have i1 : (1 : Int) < (s.size : Int) := by omega
    obtain ⟨x0, z0⟩ : ∃ x : Int, (s[0].toNat : Int) = x := ⟨_, rfl⟩
    obtain ⟨x1, z1⟩ : ∃ x : Int, (s[1].toNat : Int) = x := ⟨_, rfl⟩
    obtain rfl : x0 = 244 := by omega
    have t0 : ¬ (s.size : Int) < 4 := by omega
    have t1 : ¬ x1 < 128 := by omega
    have d1 : decide (x1 < 128) = false := decide_eq_false (by omega)
    have t2 : 143 < x1 := by omega
    have v1 : 0 ≤ x1 := by omega
    have v1' : x1 ≤ 255 := by omega
    clear E hl nd k1 k2 lw hg e0 e1 u1 hn h1 h2
    go_enter Tryd.func55, Tryd.ntmps55
    go_wp2_with fail
    go_ret
    exact ⟨rfl, rfl⟩
  have p2 : 2 < s.size := by omega
  have e2 := by_at s 2 p2
  have u2 := UInt8.toNat_lt s[2]
  have p3 : 3 < s.size := by omega
  have e3 := by_at s 3 p3
  have u3 := UInt8.toNat_lt s[3]
  by_cases l2 : s[2].toNat < 128
  · have E := Lib.hid (show signL s.data.toList = 0 by
      unfold signL signN
      rw [hl, e0, if_neg (by omega), if_neg (by omega), nd, if_neg (by omega), if_neg hn, e1, e2, e3, lw, hg, if_neg (by omega), if_pos (by unfold midB; omega)])
    rw [E.out]
    have hz : ((s.size : Int) == 0) = false := beq_eq_false_iff_ne.2 (by omega)
    have i0 : (0 : Int) < (s.size : Int) := by omega
    have i1 : (1 : Int) < (s.size : Int) := by omega
    have i2 : (2 : Int) < (s.size : Int) := by omega
    have i3 : (3 : Int) < (s.size : Int) := by omega
    obtain ⟨x0, z0⟩ : ∃ x : Int, (s[0].toNat : Int) = x := ⟨_, rfl⟩
    obtain ⟨x1, z1⟩ : ∃ x : Int, (s[1].toNat : Int) = x := ⟨_, rfl⟩
    obtain ⟨x2, z2⟩ : ∃ x : Int, (s[2].toNat : Int) = x := ⟨_, rfl⟩
    obtain ⟨x3, z3⟩ : ∃ x : Int, (s[3].toNat : Int) = x := ⟨_, rfl⟩
    obtain rfl : x0 = 244 := by omega
    have t0 : ¬ (s.size : Int) < 4 := by omega
    have t1 : ¬ x1 < 128 := by omega
    have d1 : decide (x1 < 128) = false := decide_eq_false (by omega)
    have t2 : ¬ 143 < x1 := by omega
    have d2 : decide (143 < x1) = false := decide_eq_false (by omega)
    have t3 : x2 < 128 := by omega
    have v1 : 0 ≤ x1 := by omega
    have v1' : x1 ≤ 255 := by omega
    have v2 : 0 ≤ x2 := by omega
    have v2' : x2 ≤ 255 := by omega
    have v3 : 0 ≤ x3 := by omega
    have v3' : x3 ≤ 255 := by omega
    clear E hl nd k1 k2 lw hg e0 e1 e2 e3 u1 u2 u3 hn h1 h2 l2
    go_enter Tryd.func55, Tryd.ntmps55
    go_wp2_with fail
    refine wp_loop_rounds 1 ?_
    rw [rounds_succ]
    go_wp2_with fail
    go_ret
    exact ⟨rfl, rfl⟩
  by_cases r2 : 191 < s[2].toNat
  · have E := Lib.hid (show signL s.data.toList = 0 by
      unfold signL signN
      rw [hl, e0, if_neg (by omega), if_neg (by omega), nd, if_neg (by omega), if_neg hn, e1, e2, e3, lw, hg, if_neg (by omega), if_pos (by unfold midB; omega)])
    rw [E.out]
    have hz : ((s.size : Int) == 0) = false := beq_eq_false_iff_ne.2 (by omega)
    have i0 : (0 : Int) < (s.size : Int) := by omega
    have i1 : (1 : Int) < (s.size : Int) := by omega
    have i2 : (2 : Int) < (s.size : Int) := by omega
    have i3 : (3 : Int) < (s.size : Int) := by omega
    obtain ⟨x0, z0⟩ : ∃ x : Int, (s[0].toNat : Int) = x := ⟨_, rfl⟩
    obtain ⟨x1, z1⟩ : ∃ x : Int, (s[1].toNat : Int) = x := ⟨_, rfl⟩
    obtain ⟨x2, z2⟩ : ∃ x : Int, (s[2].toNat : Int) = x := ⟨_, rfl⟩
    obtain ⟨x3, z3⟩ : ∃ x : Int, (s[3].toNat : Int) = x := ⟨_, rfl⟩
    obtain rfl : x0 = 244 := by omega
    have t0 : ¬ (s.size : Int) < 4 := by omega
    have t1 : ¬ x1 < 128 := by omega
    have d1 : decide (x1 < 128) = false := decide_eq_false (by omega)
    have t2 : ¬ 143 < x1 := by omega
    have d2 : decide (143 < x1) = false := decide_eq_false (by omega)
    have t3 : ¬ x2 < 128 := by omega
    have d3 : decide (x2 < 128) = false := decide_eq_false (by omega)
    have t4 : 191 < x2 := by omega
    have v1 : 0 ≤ x1 := by omega
    have v1' : x1 ≤ 255 := by omega
    have v2 : 0 ≤ x2 := by omega
    have v2' : x2 ≤ 255 := by omega
    have v3 : 0 ≤ x3 := by omega
    have v3' : x3 ≤ 255 := by omega
    clear E hl nd k1 k2 lw hg e0 e1 e2 e3 u1 u2 u3 hn h1 h2 l2 r2
    go_enter Tryd.func55, Tryd.ntmps55
    go_wp2_with fail
    refine wp_loop_rounds 1 ?_
    rw [rounds_succ]
    go_wp2_with fail
    go_ret
    exact ⟨rfl, rfl⟩
  by_cases l3 : s[3].toNat < 128
  · have E := Lib.hid (show signL s.data.toList = 0 by
      unfold signL signN
      rw [hl, e0, if_neg (by omega), if_neg (by omega), nd, if_neg (by omega), if_neg hn, e1, e2, e3, lw, hg, if_neg (by omega), if_neg (by unfold midB; omega), if_pos (by unfold midB; omega)])
    rw [E.out]
    have hz : ((s.size : Int) == 0) = false := beq_eq_false_iff_ne.2 (by omega)
    have i0 : (0 : Int) < (s.size : Int) := by omega
    have i1 : (1 : Int) < (s.size : Int) := by omega
    have i2 : (2 : Int) < (s.size : Int) := by omega
    have i3 : (3 : Int) < (s.size : Int) := by omega
    obtain ⟨x0, z0⟩ : ∃ x : Int, (s[0].toNat : Int) = x := ⟨_, rfl⟩
    obtain ⟨x1, z1⟩ : ∃ x : Int, (s[1].toNat : Int) = x := ⟨_, rfl⟩
    obtain ⟨x2, z2⟩ : ∃ x : Int, (s[2].toNat : Int) = x := ⟨_, rfl⟩
    obtain ⟨x3, z3⟩ : ∃ x : Int, (s[3].toNat : Int) = x := ⟨_, rfl⟩
    obtain rfl : x0 = 244 := by omega
    have t0 : ¬ (s.size : Int) < 4 := by omega
    have t1 : ¬ x1 < 128 := by omega
    have d1 : decide (x1 < 128) = false := decide_eq_false (by omega)
    have t2 : ¬ 143 < x1 := by omega
    have d2 : decide (143 < x1) = false := decide_eq_false (by omega)
    have t3 : ¬ x2 < 128 := by omega
    have d3 : decide (x2 < 128) = false := decide_eq_false (by omega)
    have t4 : ¬ 191 < x2 := by omega
    have d4 : decide (191 < x2) = false := decide_eq_false (by omega)
    have t5 : x3 < 128 := by omega
    have v1 : 0 ≤ x1 := by omega
    have v1' : x1 ≤ 255 := by omega
    have v2 : 0 ≤ x2 := by omega
    have v2' : x2 ≤ 255 := by omega
    have v3 : 0 ≤ x3 := by omega
    have v3' : x3 ≤ 255 := by omega
    clear E hl nd k1 k2 lw hg e0 e1 e2 e3 u1 u2 u3 hn h1 h2 l2 r2 l3
    go_enter Tryd.func55, Tryd.ntmps55
    go_wp2_with fail
    refine wp_loop_rounds 2 ?_
    rw [rounds_succ]
    go_wp2_with fail
    rw [rounds_succ]
    go_wp2_with fail
    go_ret
    exact ⟨rfl, rfl⟩
  by_cases r3 : 191 < s[3].toNat
  · have E := Lib.hid (show signL s.data.toList = 0 by
      unfold signL signN
      rw [hl, e0, if_neg (by omega), if_neg (by omega), nd, if_neg (by omega), if_neg hn, e1, e2, e3, lw, hg, if_neg (by omega), if_neg (by unfold midB; omega), if_pos (by unfold midB; omega)])
    rw [E.out]
    have hz : ((s.size : Int) == 0) = false := beq_eq_false_iff_ne.2 (by omega)
    have i0 : (0 : Int) < (s.size : Int) := by omega
    have i1 : (1 : Int) < (s.size : Int) := by omega
    have i2 : (2 : Int) < (s.size : Int) := by omega
    have i3 : (3 : Int) < (s.size : Int) := by omega
    obtain ⟨x0, z0⟩ : ∃ x : Int, (s[0].toNat : Int) = x := ⟨_, rfl⟩
    obtain ⟨x1, z1⟩ : ∃ x : Int, (s[1].toNat : Int) = x := ⟨_, rfl⟩
    obtain ⟨x2, z2⟩ : ∃ x : Int, (s[2].toNat : Int) = x := ⟨_, rfl⟩
    obtain ⟨x3, z3⟩ : ∃ x : Int, (s[3].toNat : Int) = x := ⟨_, rfl⟩
    obtain rfl : x0 = 244 := by omega
    have t0 : ¬ (s.size : Int) < 4 := by omega
    have t1 : ¬ x1 < 128 := by omega
    have d1 : decide (x1 < 128) = false := decide_eq_false (by omega)
    have t2 : ¬ 143 < x1 := by omega
    have d2 : decide (143 < x1) = false := decide_eq_false (by omega)
    have t3 : ¬ x2 < 128 := by omega
    have d3 : decide (x2 < 128) = false := decide_eq_false (by omega)
    have t4 : ¬ 191 < x2 := by omega
    have d4 : decide (191 < x2) = false := decide_eq_false (by omega)
    have t5 : ¬ x3 < 128 := by omega
    have d5 : decide (x3 < 128) = false := decide_eq_false (by omega)
    have t6 : 191 < x3 := by omega
    have v1 : 0 ≤ x1 := by omega
    have v1' : x1 ≤ 255 := by omega
    have v2 : 0 ≤ x2 := by omega
    have v2' : x2 ≤ 255 := by omega
    have v3 : 0 ≤ x3 := by omega
    have v3' : x3 ≤ 255 := by omega
    clear E hl nd k1 k2 lw hg e0 e1 e2 e3 u1 u2 u3 hn h1 h2 l2 r2 l3 r3
    go_enter Tryd.func55, Tryd.ntmps55
    go_wp2_with fail
    refine wp_loop_rounds 2 ?_
    rw [rounds_succ]
    go_wp2_with fail
    rw [rounds_succ]
    go_wp2_with fail
    go_ret
    exact ⟨rfl, rfl⟩
  · have E := Lib.hid (show signL s.data.toList = 4 by
      unfold signL signN
      rw [hl, e0, if_neg (by omega), if_neg (by omega), nd, if_neg (by omega), if_neg hn, e1, e2, e3, lw, hg, if_neg (by omega), if_neg (by unfold midB; omega), if_neg (by unfold midB; omega)])
    rw [E.out]
    have hz : ((s.size : Int) == 0) = false := beq_eq_false_iff_ne.2 (by omega)
    have i0 : (0 : Int) < (s.size : Int) := by omega
    have i1 : (1 : Int) < (s.size : Int) := by omega
    have i2 : (2 : Int) < (s.size : Int) := by omega
    have i3 : (3 : Int) < (s.size : Int) := by omega
    obtain ⟨x0, z0⟩ : ∃ x : Int, (s[0].toNat : Int) = x := ⟨_, rfl⟩
    obtain ⟨x1, z1⟩ : ∃ x : Int, (s[1].toNat : Int) = x := ⟨_, rfl⟩
    obtain ⟨x2, z2⟩ : ∃ x : Int, (s[2].toNat : Int) = x := ⟨_, rfl⟩
    obtain ⟨x3, z3⟩ : ∃ x : Int, (s[3].toNat : Int) = x := ⟨_, rfl⟩
    obtain rfl : x0 = 244 := by omega
    have t0 : ¬ (s.size : Int) < 4 := by omega
    have t1 : ¬ x1 < 128 := by omega
    have d1 : decide (x1 < 128) = false := decide_eq_false (by omega)
    have t2 : ¬ 143 < x1 := by omega
    have d2 : decide (143 < x1) = false := decide_eq_false (by omega)
    have t3 : ¬ x2 < 128 := by omega
    have d3 : decide (x2 < 128) = false := decide_eq_false (by omega)
    have t4 : ¬ 191 < x2 := by omega
    have d4 : decide (191 < x2) = false := decide_eq_false (by omega)
    have t5 : ¬ x3 < 128 := by omega
    have d5 : decide (x3 < 128) = false := decide_eq_false (by omega)
    have t6 : ¬ 191 < x3 := by omega
    have d6 : decide (191 < x3) = false := decide_eq_false (by omega)
    have v1 : 0 ≤ x1 := by omega
    have v1' : x1 ≤ 255 := by omega
    have v2 : 0 ≤ x2 := by omega
    have v2' : x2 ≤ 255 := by omega
    have v3 : 0 ≤ x3 := by omega
    have v3' : x3 ≤ 255 := by omega
    clear E hl nd k1 k2 lw hg e0 e1 e2 e3 u1 u2 u3 hn h1 h2 l2 r2 l3 r3
    go_enter Tryd.func55, Tryd.ntmps55
    go_wp2_with fail
    refine wp_loop_rounds 3 ?_
    rw [rounds_succ]
    go_wp2_with fail
    rw [rounds_succ]
    go_wp2_with fail
    rw [rounds_succ]
    go_wp2_with fail
    go_ret
    exact ⟨rfl, rfl⟩

set_option maxHeartbeats 2000000 in
theorem sign_c5 (s : ByteArray) (hs : s.size ≤ 9223372036854775807) (p0 : 0 < s.size) (k1 : 245 ≤ s[0].toNat) (k2 : s[0].toNat ≤ 255) (w : World) : Calls Tryd.prog 55 #[.string s] w fun e w' => e = .returned (.int .i64 (signL s.data.toList)) ∧ w = w' := by
  have hl : s.data.toList.length = s.size := by simp
  have e0 := by_at s 0 p0
  have nd : needN s[0].toNat = 0 := by unfold needN; repeat (first | rw [if_pos (by omega)] | rw [if_neg (by omega)])
  · have E := Lib.hid (show signL s.data.toList = 0 by
      unfold signL signN
      rw [hl, e0, if_neg (by omega), if_neg (by omega), nd, if_pos rfl])
    rw [E.out]
    have hz : ((s.size : Int) == 0) = false := beq_eq_false_iff_ne.2 (by omega)
    have i0 : (0 : Int) < (s.size : Int) := by omega
    obtain ⟨x0, z0⟩ : ∃ x : Int, (s[0].toNat : Int) = x := ⟨_, rfl⟩
    have f1 : (245 : Int) ≤ x0 := by omega
    have f2 : x0 ≤ 255 := by omega
    have g224 : (x0 == 224) = false := beq_eq_false_iff_ne.2 (by omega)
    have g237 : (x0 == 237) = false := beq_eq_false_iff_ne.2 (by omega)
    have g240 : (x0 == 240) = false := beq_eq_false_iff_ne.2 (by omega)
    have g244 : (x0 == 244) = false := beq_eq_false_iff_ne.2 (by omega)
    have c128 : decide (x0 < 128) = false := decide_eq_false (by omega)
    have c194 : decide (194 ≤ x0) = true := decide_eq_true (by omega)
    have c224 : decide (224 ≤ x0) = true := decide_eq_true (by omega)
    have c240 : decide (240 ≤ x0) = true := decide_eq_true (by omega)
    have c223 : decide (x0 ≤ 223) = false := decide_eq_false (by omega)
    have c239 : decide (x0 ≤ 239) = false := decide_eq_false (by omega)
    have c244 : decide (x0 ≤ 244) = false := decide_eq_false (by omega)
    clear E hl nd k1 k2 e0
    go_enter Tryd.func55, Tryd.ntmps55
    go_wp2_with fail
    go_ret
    exact ⟨rfl, rfl⟩

end Go.Proofs.YtifaaacbbjlffaaDoor
