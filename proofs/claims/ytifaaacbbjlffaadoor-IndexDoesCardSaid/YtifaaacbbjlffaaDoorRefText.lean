/- The contracts of moraineref03.Sign and IsText. -/
import Derived.Test.YtifaaacbbjlffaaDoorRefSignC
import Derived.Deep.LoopGhost
namespace Go.Proofs.YtifaaacbbjlffaaDoor
open Go.RowKit Mor

theorem sign_any (s : ByteArray) (hs : s.size ≤ 9223372036854775807) (w : World) : Calls Tryd.prog 55 #[.string s] w fun e w' => e = .returned (.int .i64 (signL s.data.toList)) ∧ w = w' := by
  have hl : s.data.toList.length = s.size := by simp
  by_cases h0 : s.size = 0
  · have E := Lib.hid (show signL s.data.toList = 0 by unfold signL signN; rw [hl, if_pos h0])
    have hz : ((s.size : Int) == 0) = true := by rw [h0]; rfl
    rw [E.out]
    clear E hl h0
    go_enter Tryd.func55, Tryd.ntmps55
    go_wp2_with fail
    go_ret
    exact ⟨rfl, rfl⟩
  · have p0 : 0 < s.size := by omega
    have b0 := UInt8.toNat_lt s[0]
    by_cases h1 : s[0].toNat < 128
    · have hz : ((s.size : Int) == 0) = false := beq_eq_false_iff_ne.2 (by omega)
      have i0 : (0 : Int) < (s.size : Int) := by omega
      have e0 := by_at s 0 p0
      have E := Lib.hid (show signL s.data.toList = 1 by unfold signL signN; rw [hl, if_neg h0, e0, if_pos h1])
      have j1 : (s[0].toNat : Int) < 128 := by omega
      rw [E.out]
      clear E hl h0 e0
      go_enter Tryd.func55, Tryd.ntmps55
      go_wp2_with fail
      go_ret
      exact ⟨rfl, rfl⟩
    · by_cases c0 : s[0].toNat ≤ 193
      · exact sign_c0 s hs p0 (by omega) c0 w
      · by_cases c1 : s[0].toNat ≤ 223
        · exact sign_c2 s hs p0 (by omega) c1 w
        · by_cases c2 : s[0].toNat ≤ 224
          · exact sign_c3a s hs p0 (by omega) c2 w
          · by_cases c3 : s[0].toNat ≤ 236
            · exact sign_c3b s hs p0 (by omega) c3 w
            · by_cases c4 : s[0].toNat ≤ 237
              · exact sign_c3c s hs p0 (by omega) c4 w
              · by_cases c5 : s[0].toNat ≤ 239
                · exact sign_c3d s hs p0 (by omega) c5 w
                · by_cases c6 : s[0].toNat ≤ 240
                  · exact sign_c4a s hs p0 (by omega) c6 w
                  · by_cases c7 : s[0].toNat ≤ 243
                    · exact sign_c4b s hs p0 (by omega) c7 w
                    · by_cases c8 : s[0].toNat ≤ 244
                      · exact sign_c4c s hs p0 (by omega) c8 w
                      · exact sign_c5 s hs p0 (by omega) (by omega) w

theorem extract_list (s : ByteArray) (k : Nat) : (s.extract k s.size).data.toList = s.data.toList.drop k := by
  rw [Lib.extract_data]
  rw [List.take_of_length_le (by simp)]

set_option maxHeartbeats 1000000 in
theorem isText_any (s : ByteArray) (hs : s.size ≤ 4611686018427387904) (w : World) : Calls Tryd.prog 43 #[.string s] w fun e w' => e = .returned (.bool (isTextL s.data.toList)) ∧ w = w' := by
  go_enter Tryd.func43, Tryd.ntmps43
  go_wp2_with fail
  go_loopg [3] s.size (fun g i wr => w = wr ∧ ∃ k : Nat, k ≤ s.size ∧ g = s.size - k ∧ i = .int .i64 k ∧ Hid (isTextL s.data.toList = isTextL (s.data.toList.drop k)))
  case atStart => exact ⟨rfl, 0, by omega, rfl, rfl, rfl⟩
  case round =>
    obtain ⟨rfl, k, hk, hg, rfl, HE⟩ := hrel
    have HG := Lib.hid hg
    clear hg
    by_cases hlt : k < s.size
    · have i1 : (k : Int) < (s.size : Int) := by omega
      have i0 : (0 : Int) ≤ (k : Int) := by omega
      have i2 : (k : Int) ≤ (s.size : Int) := by omega
      obtain ⟨t, ht⟩ : ∃ t, s.extract k s.size = t := ⟨_, rfl⟩
      have tl : t.data.toList = s.data.toList.drop k := by rw [← ht, extract_list]
      have tz : t.size = s.size - k := by
        have := congrArg List.length tl
        simpa using this
      have hne : s.data.toList.drop k ≠ [] := by
        intro h
        have := congrArg List.length h
        simp at this; omega
      have hst := isTextL_step _ hne
      have hb0 : by_ (s.data.toList.drop k) 0 = s[k].toNat := by
        rw [← by_at s k hlt]
        unfold by_
        rw [Lib.getD_dropU]; rfl
      have hle := signL_le (s.data.toList.drop k)
      rw [List.length_drop, show s.data.toList.length = s.size by simp] at hle
      have CS := Lib.hid (sign_any t (by omega) w)
      rw [tl] at CS
      rw [hb0] at hst
      rw [List.drop_drop] at hst
      generalize signL (s.data.toList.drop k) = sg at *
      have HST := Lib.hid hst
      obtain ⟨x, hx⟩ : ∃ x : Int, (s[k].toNat : Int) = x := ⟨_, rfl⟩
      have x0 : 0 ≤ x := by omega
      have x1 : x ≤ 255 := by have := UInt8.toNat_lt s[k]; omega
      have hh : sg ≤ s.size - k := hle
      by_cases z0 : sg = 0
      · have zb : ((sg : Int) == 0) = true := by rw [z0]; rfl
        have E := Lib.hid (show isTextL s.data.toList = false by rw [HE.out, HST.out, if_pos (.inl z0)])
        clear hst tl tz hne hb0 hle z0
        go_wp2_with fail
        refine CS.out.mono ?_
        rintro e w1 ⟨rfl, rfl⟩
        go_wp2_with fail
        go_ret
        rw [E.out]
        exact ⟨rfl, rfl⟩
      · have zb : ((sg : Int) == 0) = false := beq_eq_false_iff_ne.2 (by omega)
        by_cases y1 : x < 32
        · have E := Lib.hid (show isTextL s.data.toList = false by rw [HE.out, HST.out, if_pos (.inr (.inl (by omega)))])
          have d1 : decide (x < 32) = true := decide_eq_true y1
          clear hst tl tz hne hb0 hle z0
          go_wp2_with fail
          refine CS.out.mono ?_
          rintro e w1 ⟨rfl, rfl⟩
          go_wp2_with fail
          go_ret
          rw [E.out]
          exact ⟨rfl, rfl⟩
        · have d1 : decide (x < 32) = false := decide_eq_false y1
          by_cases y2 : x = 127
          · have E := Lib.hid (show isTextL s.data.toList = false by rw [HE.out, HST.out, if_pos (.inr (.inr (by omega)))])
            have d2 : (x == 127) = true := by rw [y2]; rfl
            clear hst tl tz hne hb0 hle z0 y2
            go_wp2_with fail
            refine CS.out.mono ?_
            rintro e w1 ⟨rfl, rfl⟩
            go_wp2_with fail
            go_ret
            rw [E.out]
            exact ⟨rfl, rfl⟩
          · have E := Lib.hid (show isTextL s.data.toList = isTextL (s.data.toList.drop (k + sg)) by rw [HE.out, HST.out, if_neg (by omega)])
            have d2 : (x == 127) = false := beq_eq_false_iff_ne.2 y2
            have zp : 0 < sg := by omega
            clear hst tl tz hne hb0 hle z0 y2
            go_wp2_with fail
            refine CS.out.mono ?_
            rintro e w1 ⟨rfl, rfl⟩
            go_wp2_with fail
            go_roundg (s.size - (k + sg))
            case measure => rw [HG.out]; omega
            case rel => exact ⟨rfl, k + sg, by omega, rfl, by go_num, E.out⟩
    · have i1 : ¬ (k : Int) < (s.size : Int) := by omega
      have E := Lib.hid (show isTextL s.data.toList = true by rw [HE.out, List.drop_eq_nil_of_le (by simp; omega)]; rfl)
      go_wp2_with fail
      go_ret
      rw [E.out]
      exact ⟨rfl, rfl⟩
end Go.Proofs.YtifaaacbbjlffaaDoor
