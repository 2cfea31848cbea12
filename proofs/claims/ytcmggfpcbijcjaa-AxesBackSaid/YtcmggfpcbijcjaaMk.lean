/-
  Contracts: straightedgeref01.Make, Scale.
-/
import Derived.Deep.CutBlock
import Derived.Deep.DeepCutAuto
import Derived.Test.YtcmggfpcbijcjaaFltScale
import Derived.Test.YtcmggfpcbijcjaaRef1
import Derived.Test.YtcmggfpcbijcjaaMeet
set_option linter.unusedSimpArgs false
set_option linter.unusedVariables false
open Go Go.RowKit Sedge Ieee
namespace Go.Proofs.Ytcmggfpcbijcjaa
def mkF (s : Bool) (m : Nat) (e : Int) : Nat := if m = 0 then D64.word s 0 else D64.nearest s m e
theorem word_false (n : Nat) : D64.word false n = n := by unfold Format.word; simp
theorem word_true (n : Nat) : D64.word true n = 9223372036854775808 + n := by
  show (if true = true then 2 ^ (64 - 1) else 0) + n = _
  simp
theorem isF_word (s : Bool) (n : Nat) (h : n ≤ IR) : IsF (D64.word s n) (D64.word s n) := by
  refine ⟨?_, canon_not (read_word_notnan s n h)⟩
  have hI : IR < 9223372036854775808 := by decide +kernel
  cases s
  · rw [word_false]; omega
  · rw [word_true]; omega
theorem half_eq (n : Nat) : ((n : Int) % 2 == 1) = decide (n % 2 = 1) := by
  rw [Bool.eq_iff_iff, beq_iff_eq, decide_eq_true_eq]; omega
theorem hvM_le (m t : Nat) : hvM m t ≤ m := Nat.div_le_self _ _
set_option maxRecDepth 100000 in
set_option maxHeartbeats 4000000 in
/-- straightedgeref01.Make, of less than 2^53. -/
theorem make_any (s : Bool) (m : Nat) (e : Int) (w : World) (hm : m < 2 ^ 53) (he : -10000 ≤ e ∧ e ≤ 10000) :
   Calls Try.prog 199 #[.bool s, .int .u64 m, .int .i64 e] w (fun e' w' => ∃ r, e' = .returned (.float .f64 r) ∧ IsF r (mkF s m e) ∧ w = w') := by
  have hI : IR = 9218868437227405312 := by decide +kernel
  have HI := hid hI
  have hm' : m < 9007199254740992 := hm
  clear hm hI
  cases s
  · by_cases m0 : m = 0
    · subst m0
      have q : IsF 0 (mkF false 0 e) := by unfold mkF; rw [if_pos rfl]; have := isF_word false 0 (Nat.zero_le _); rwa [word_false] at this
      go_enter Try.func199, Try.ntmps199
      go_wp2
      go_ret
      exact ⟨_, rfl, q, rfl⟩
    · have d1 : ((m : Int) == 0) = false := by rw [beq_eq_false_iff_ne]; omega
      have hmk : mkF false m e = D64.nearest false m e := by unfold mkF; rw [if_neg m0]
      by_cases e1 : e < -1200
      · have d2 : decide (e < -1200) = true := by simpa using e1
        have q : IsF 0 (mkF false m e) := by rw [hmk, nearest_low false m e m0 hm' (by omega)]; have := isF_word false 0 (Nat.zero_le _); rwa [word_false] at this
        clear hmk
        go_enter Try.func199, Try.ntmps199
        go_wp2
        go_ret
        exact ⟨_, rfl, q, rfl⟩
      · have d2 : decide (e < -1200) = false := by simpa using e1
        by_cases e2 : 2000 < e
        · have d3 : decide (2000 < e) = true := by simpa using e2
          have q : IsF (0 + 9218868437227405312) (mkF false m e) := by rw [hmk, nearest_high false m e m0 hm' (by omega)]; have := isF_word false IR (Nat.le_refl _); rw [word_false, HI.out] at this; exact this
          clear hmk
          go_enter Try.func199, Try.ntmps199
          go_wp2
          go_ret
          exact ⟨_, rfl, q, rfl⟩
        · have d3 : decide (2000 < e) = false := by simpa using e2
          rw [hmk]
          have M0 := hid m0
          clear hmk m0
          go_enter Try.func199, Try.ntmps199
          go_upto_block 0 with fail
          go_cut [1, 2] (fun c d wx => ∃ (M : Nat) (E : Int), c = .int .u64 M ∧ d = .int .i64 E ∧ M ≠ 0 ∧ M < 9007199254740992 ∧ -1200 ≤ E ∧ E ≤ 2000 ∧ (4503599627370496 ≤ M ∨ E ≤ -1074) ∧ D64.nearest false M E = D64.nearest false m e ∧ wx = w)
          case first =>
            go_wp2_with fail
            go_loopw [1, 2] (fun c d wr => ∃ (M : Nat) (E : Int), c = .int .u64 M ∧ d = .int .i64 E ∧ M ≠ 0 ∧ M < 9007199254740992 ∧ -1200 ≤ E ∧ E ≤ 2000 ∧ D64.nearest false M E = D64.nearest false m e ∧ wr = w) (fun _ d _ => (intOf d + 2000).toNat)
            case atStart => exact ⟨m, e, rfl, rfl, M0.out, hm', by omega, by omega, rfl, rfl⟩
            case round =>
              obtain ⟨M, E, rfl, rfl, hM0, hM, hE1, hE2, hN, hwr⟩ := hrel
              have HN := hid hN
              have HM0 := hid hM0
              have HW := hid hwr
              clear hN hM0 hwr
              by_cases c1 : (M : Int) < 4503599627370496
              · have b1 : decide ((M : Int) < 4503599627370496) = true := by simpa using c1
                by_cases c2 : -1074 < E
                · have b2 : decide (-1074 < E) = true := by simpa using c2
                  have r1 : IntKind.u64.wrap ((M : Int) * 2) = ((M * 2 : Nat) : Int) := by rw [IntWalk.u64_in _ (by omega)]; omega
                  go_wp2
                  go_roundw
                  case rel => exact ⟨M * 2, E - 1, by go_num, by go_num, by have := HM0.out; omega, by omega, by omega, by omega, by have := nearest_scale false M 1 E HM0.out; rw [Nat.pow_one] at this; rw [← HN.out]; exact this, HW.out⟩
                  case measure => simp [intOf]; omega
                · have b2 : decide (-1074 < E) = false := by simpa using c2
                  go_wp2
                  go_meet
                  exact ⟨M, E, rfl, rfl, HM0.out, hM, hE1, hE2, .inr (by omega), HN.out, HW.out⟩
              · have b1 : decide ((M : Int) < 4503599627370496) = false := by simpa using c1
                go_wp2
                go_meet
                exact ⟨M, E, rfl, rfl, HM0.out, hM, hE1, hE2, .inl (by omega), HN.out, HW.out⟩
          case rest =>
            obtain ⟨M, E, rfl, rfl, hM0, hM, hE1, hE2, hME, hN, rfl⟩ := hcut
            have HN := hid hN
            have HM0 := hid hM0
            have HME := hid hME
            clear hN hM0 hME
            go_wp2_with fail
            go_loopw [1, 2, 8, 9] (fun c d l h wr => ∃ t : Nat, c = .int .u64 ((hvM M t : Nat) : Int) ∧ d = .int .i64 (E + t) ∧ l = .bool (hvL M t) ∧ h = .bool (hvH M t) ∧ (t ≠ 0 → E + t ≤ -1074) ∧ wr = wc) (fun _ d _ _ _ => (-1074 - intOf d).toNat)
            case atStart => exact ⟨0, by rw [(hv_zero M).1], by simp, by rw [(hv_zero M).2.2], by rw [(hv_zero M).2.1], fun h => absurd rfl h, rfl⟩
            case round =>
              obtain ⟨t, rfl, rfl, rfl, rfl, ht, hwr⟩ := hrel
              have HW := hid hwr
              have HT := hid ht
              have hle := hvM_le M t
              have b0 : decide ((9007199254740992 : Int) ≤ ((hvM M t : Nat) : Int)) = false := by simp; omega
              clear hwr ht
              by_cases c3 : E + t < -1074
              · have b1 : decide (E + t < -1074) = true := by simpa using c3
                have HS := hid (hv_succ M t)
                cases hl : hvL M t
                · have HL := hid hl
                  clear hl
                  go_wp2
                  go_roundw
                  case rel => exact ⟨t + 1, by rw [HS.out.1]; go_num, by go_num, by rw [HS.out.2.2, HL.out]; rfl, by rw [HS.out.2.1, half_eq], fun _ => by omega, HW.out⟩
                  case measure => simp [intOf]; omega
                · have HL := hid hl
                  clear hl
                  go_wp2
                  go_roundw
                  case rel => exact ⟨t + 1, by rw [HS.out.1]; go_num, by go_num, by rw [HS.out.2.2, HL.out]; rfl, by rw [HS.out.2.1, half_eq], fun _ => by omega, HW.out⟩
                  case measure => simp [intOf]; omega
              · have b1 : decide (E + t < -1074) = false := by simpa using c3
                obtain ⟨H, hH⟩ : ∃ H, H = hvM M t := ⟨_, rfl⟩
                have hw := nearest_hv false M E t HM0.out hM (by have := HME.out; omega) (by omega) (fun h => by have := HT.out h; omega)
                have hlow : ∀ K : Nat, H ≤ K → K < 4503599627370496 → E + t = -1074 := fun K h1 h2 => by
                  rcases HME.out with h | h
                  · by_cases h0 : t = 0
                    · subst h0; rw [(hv_zero M).1] at hH; omega
                    · have := HT.out h0; omega
                  · by_cases h0 : t = 0
                    · subst h0; omega
                    · have := HT.out h0; omega
                rw [← hH] at hle hw
                have hFE : E + t ≤ 2000 := by
                  by_cases h0 : t = 0
                  · subst h0; omega
                  · have := HT.out h0; omega
                have Hlow := hid hlow
                simp only [← hH]
                obtain ⟨F, hF⟩ : ∃ F, E + (t : Int) = F := ⟨_, rfl⟩
                have Hlow2 := hid (fun K h1 h2 => hF.symm.trans (Hlow.out K h1 h2))
                rw [hF] at hw b1 c3 hFE
                simp only [hF]
                rw [HN.out] at hw
                clear hlow Hlow hH hF b0
                have hH53 : H < 9007199254740992 := by omega
                cases hh : hvH M t
                · rw [hh] at hw
                  simp only [Bool.false_and, Bool.toNat_false, Nat.add_zero] at hw
                  obtain ⟨K, hK⟩ : ∃ K, K = H := ⟨_, rfl⟩
                  have hK1 : H ≤ K ∧ K ≤ 9007199254740992 := by omega
                  rw [← hK] at hw
                  simp only [← hK]
                  have b0 : decide ((9007199254740992 : Int) ≤ (K : Int)) = false := by simp; omega
                  have b1' : ((K : Int) == 9007199254740992) = false := by rw [beq_eq_false_iff_ne]; omega
                  have hwF := hid hw
                  have t1 : ¬ K = 9007199254740992 := by omega
                  clear hK hh
                  by_cases t2 : 2047 ≤ F + 1075
                  · have b2 : decide (2047 ≤ F + 1075) = true := by simpa using t2
                    have q : ∀ r, r = 0 + 9218868437227405312 → IsF r (D64.nearest false m e) := fun r hr => by
                      have hK52 : 4503599627370496 ≤ K := by
                        rcases Nat.lt_or_ge K 4503599627370496 with h | h
                        · have := Hlow2.out K hK1.1 h; omega
                        · exact h
                      rw [hr, hwF.out, makeW_inf false K F hK52 (by omega)]
                      have := isF_word false IR (Nat.le_refl _); rw [word_false, HI.out] at this; exact this
                    have Q := hid q
                    clear hw q
                    go_wp2
                    go_ret
                    exact ⟨_, rfl, Q.out _ (by first | omega | rfl), HW.out.symm⟩
                  · have b2 : decide (2047 ≤ F + 1075) = false := by simpa using t2
                    by_cases t3 : (K : Int) < 4503599627370496
                    · have b3 : decide ((K : Int) < 4503599627370496) = true := by simpa using t3
                      have q : ∀ r, r = 0 + K → IsF r (D64.nearest false m e) := fun r hr => by
                        rw [hr, hwF.out, Hlow2.out K hK1.1 (by omega), makeW_low false K (by omega)]
                        have := isF_word false K (by have := HI.out; omega); rw [word_false] at this ⊢; try rw [Nat.zero_add]
                        exact this
                      have Q := hid q
                      clear hw q
                      go_wp2
                      go_ret
                      skip
                      exact ⟨_, rfl, Q.out _ (by first | omega | rfl), HW.out.symm⟩
                    · have b3 : decide ((K : Int) < 4503599627370496) = false := by simpa using t3
                      have q : ∀ r, r = 0 + ((F + 1075).toNat * 4503599627370496 + K - 4503599627370496) → IsF r (D64.nearest false m e) := fun r hr => by
                        rw [hr, hwF.out, makeW_mid false K F (by omega) (by omega) (by omega) (by omega)]
                        have := isF_word false ((F + 1075).toNat * BN + K - BN) (by have := HI.out; unfold BN; omega)
                        have e0 : (F + 1075).toNat * BN + K - BN = (F + 1075).toNat * 4503599627370496 + K - 4503599627370496 := by unfold BN; rfl
                        rw [e0] at this ⊢
                        rw [word_false] at this ⊢
                        try rw [Nat.zero_add]
                        exact this
                      have Q := hid q
                      clear hw q
                      go_wp2
                      go_ret
                      skip
                      exact ⟨_, rfl, Q.out _ (by first | omega | rfl), HW.out.symm⟩
                · rw [hh] at hw
                  simp only [Bool.true_and] at hw
                  have b0 : decide ((9007199254740992 : Int) ≤ (H : Int)) = false := by simp; omega
                  cases hl : hvL M t
                  · rw [hl] at hw
                    simp only [Bool.false_or] at hw
                    have hodd := half_eq H
                    cases ho : decide (H % 2 = 1)
                    · rw [ho] at hw hodd
                      simp only [Bool.toNat_false, Nat.add_zero] at hw
                      obtain ⟨K, hK⟩ : ∃ K, K = H := ⟨_, rfl⟩
                      have hK1 : H ≤ K ∧ K ≤ 9007199254740992 := by omega
                      rw [← hK] at hw hodd
                      simp only [← hK]
                      have b0' : decide ((9007199254740992 : Int) ≤ (K : Int)) = false := by simp; omega
                      have b1' : ((K : Int) == 9007199254740992) = false := by rw [beq_eq_false_iff_ne]; omega
                      have hwF := hid hw
                      have t1 : ¬ K = 9007199254740992 := by omega
                      clear hK hh hl ho b0
                      by_cases t2 : 2047 ≤ F + 1075
                      · have b2 : decide (2047 ≤ F + 1075) = true := by simpa using t2
                        have q : ∀ r, r = 0 + 9218868437227405312 → IsF r (D64.nearest false m e) := fun r hr => by
                          have hK52 : 4503599627370496 ≤ K := by
                            rcases Nat.lt_or_ge K 4503599627370496 with h | h
                            · have := Hlow2.out K hK1.1 h; omega
                            · exact h
                          rw [hr, hwF.out, makeW_inf false K F hK52 (by omega)]
                          have := isF_word false IR (Nat.le_refl _); rw [word_false, HI.out] at this; exact this
                        have Q := hid q
                        clear hw q
                        go_wp2
                        go_ret
                        exact ⟨_, rfl, Q.out _ (by first | omega | rfl), HW.out.symm⟩
                      · have b2 : decide (2047 ≤ F + 1075) = false := by simpa using t2
                        by_cases t3 : (K : Int) < 4503599627370496
                        · have b3 : decide ((K : Int) < 4503599627370496) = true := by simpa using t3
                          have q : ∀ r, r = 0 + K → IsF r (D64.nearest false m e) := fun r hr => by
                            rw [hr, hwF.out, Hlow2.out K hK1.1 (by omega), makeW_low false K (by omega)]
                            have := isF_word false K (by have := HI.out; omega); rw [word_false] at this ⊢; try rw [Nat.zero_add]
                            exact this
                          have Q := hid q
                          clear hw q
                          go_wp2
                          go_ret
                          skip
                          exact ⟨_, rfl, Q.out _ (by first | omega | rfl), HW.out.symm⟩
                        · have b3 : decide ((K : Int) < 4503599627370496) = false := by simpa using t3
                          have q : ∀ r, r = 0 + ((F + 1075).toNat * 4503599627370496 + K - 4503599627370496) → IsF r (D64.nearest false m e) := fun r hr => by
                            rw [hr, hwF.out, makeW_mid false K F (by omega) (by omega) (by omega) (by omega)]
                            have := isF_word false ((F + 1075).toNat * BN + K - BN) (by have := HI.out; unfold BN; omega)
                            have e0 : (F + 1075).toNat * BN + K - BN = (F + 1075).toNat * 4503599627370496 + K - 4503599627370496 := by unfold BN; rfl
                            rw [e0] at this ⊢
                            rw [word_false] at this ⊢
                            try rw [Nat.zero_add]
                            exact this
                          have Q := hid q
                          clear hw q
                          go_wp2
                          go_ret
                          skip
                          exact ⟨_, rfl, Q.out _ (by first | omega | rfl), HW.out.symm⟩
                    · rw [ho] at hw hodd
                      simp only [Bool.toNat_true] at hw
                      obtain ⟨K, hK⟩ : ∃ K, K = H + 1 := ⟨_, rfl⟩
                      have hK1 : H ≤ K ∧ K ≤ 9007199254740992 := by omega
                      rw [← hK] at hw
                      have rK : IntKind.u64.wrap ((H : Int) + 1) = (K : Int) := by rw [IntWalk.u64_in _ (by omega)]; omega
                      clear hK hh hl ho
                      have hwF := hid hw
                      by_cases t1 : K = 9007199254740992
                      · subst t1
                        by_cases t2 : 2047 ≤ F + 1 + 1075
                        · have b2 : decide (2047 ≤ F + 1 + 1075) = true := by simpa using t2
                          have q : ∀ r, r = 0 + 9218868437227405312 → IsF r (D64.nearest false m e) := fun r hr => by
                            rw [hr, hwF.out, show (9007199254740992 : Nat) = 2 ^ 53 from by decide, makeW_top false F (by omega), makeW_inf false _ _ (Nat.le_refl _) (by omega)]
                            have := isF_word false IR (Nat.le_refl _); rw [word_false, HI.out] at this; exact this
                          have Q := hid q
                          clear hw q
                          go_wp2
                          go_ret
                          exact ⟨_, rfl, Q.out _ (by first | omega | rfl), HW.out.symm⟩
                        · have b2 : decide (2047 ≤ F + 1 + 1075) = false := by simpa using t2
                          have q : ∀ r, r = 0 + (F + 1 + 1075).toNat * 4503599627370496 → IsF r (D64.nearest false m e) := fun r hr => by
                            rw [hr, hwF.out, show (9007199254740992 : Nat) = 2 ^ 53 from by decide, makeW_top false F (by omega), makeW_mid false (2 ^ 52) (F + 1) (Nat.le_refl _) (by decide) (by omega) (by omega)]
                            have := isF_word false ((F + 1 + 1075).toNat * BN + 2 ^ 52 - BN) (by have := HI.out; unfold BN; omega)
                            rw [word_false] at this
                            have e0 : (F + 1 + 1075).toNat * BN + 2 ^ 52 - BN = (F + 1 + 1075).toNat * 4503599627370496 := by unfold BN; omega
                            rw [e0] at this ⊢; try rw [Nat.zero_add]
                            rw [word_false]; exact this
                          have Q := hid q
                          clear hw q
                          go_wp2
                          go_ret
                          skip
                          exact ⟨_, rfl, Q.out _ (by first | omega | rfl), HW.out.symm⟩
                      · have b1' : ((K : Int) == 9007199254740992) = false := by rw [beq_eq_false_iff_ne]; omega
                        by_cases t2 : 2047 ≤ F + 1075
                        · have b2 : decide (2047 ≤ F + 1075) = true := by simpa using t2
                          have q : ∀ r, r = 0 + 9218868437227405312 → IsF r (D64.nearest false m e) := fun r hr => by
                            have hK52 : 4503599627370496 ≤ K := by
                              rcases Nat.lt_or_ge K 4503599627370496 with h | h
                              · have := Hlow2.out K hK1.1 h; omega
                              · exact h
                            rw [hr, hwF.out, makeW_inf false K F hK52 (by omega)]
                            have := isF_word false IR (Nat.le_refl _); rw [word_false, HI.out] at this; exact this
                          have Q := hid q
                          clear hw q
                          go_wp2
                          go_ret
                          exact ⟨_, rfl, Q.out _ (by first | omega | rfl), HW.out.symm⟩
                        · have b2 : decide (2047 ≤ F + 1075) = false := by simpa using t2
                          by_cases t3 : (K : Int) < 4503599627370496
                          · have b3 : decide ((K : Int) < 4503599627370496) = true := by simpa using t3
                            have q : ∀ r, r = 0 + K → IsF r (D64.nearest false m e) := fun r hr => by
                              rw [hr, hwF.out, Hlow2.out K hK1.1 (by omega), makeW_low false K (by omega)]
                              have := isF_word false K (by have := HI.out; omega); rw [word_false] at this ⊢; try rw [Nat.zero_add]
                              exact this
                            have Q := hid q
                            clear hw q
                            go_wp2
                            go_ret
                            skip
                            exact ⟨_, rfl, Q.out _ (by first | omega | rfl), HW.out.symm⟩
                          · have b3 : decide ((K : Int) < 4503599627370496) = false := by simpa using t3
                            have q : ∀ r, r = 0 + ((F + 1075).toNat * 4503599627370496 + K - 4503599627370496) → IsF r (D64.nearest false m e) := fun r hr => by
                              rw [hr, hwF.out, makeW_mid false K F (by omega) (by omega) (by omega) (by omega)]
                              have := isF_word false ((F + 1075).toNat * BN + K - BN) (by have := HI.out; unfold BN; omega)
                              have e0 : (F + 1075).toNat * BN + K - BN = (F + 1075).toNat * 4503599627370496 + K - 4503599627370496 := by unfold BN; rfl
                              rw [e0] at this ⊢
                              rw [word_false] at this ⊢
                              try rw [Nat.zero_add]
                              exact this
                            have Q := hid q
                            clear hw q
                            go_wp2
                            go_ret
                            skip
                            exact ⟨_, rfl, Q.out _ (by first | omega | rfl), HW.out.symm⟩
                  · rw [hl] at hw
                    simp only [Bool.true_or, Bool.toNat_true] at hw
                    obtain ⟨K, hK⟩ : ∃ K, K = H + 1 := ⟨_, rfl⟩
                    have hK1 : H ≤ K ∧ K ≤ 9007199254740992 := by omega
                    rw [← hK] at hw
                    have rK : IntKind.u64.wrap ((H : Int) + 1) = (K : Int) := by rw [IntWalk.u64_in _ (by omega)]; omega
                    clear hK hh hl
                    have hwF := hid hw
                    by_cases t1 : K = 9007199254740992
                    · subst t1
                      by_cases t2 : 2047 ≤ F + 1 + 1075
                      · have b2 : decide (2047 ≤ F + 1 + 1075) = true := by simpa using t2
                        have q : ∀ r, r = 0 + 9218868437227405312 → IsF r (D64.nearest false m e) := fun r hr => by
                          rw [hr, hwF.out, show (9007199254740992 : Nat) = 2 ^ 53 from by decide, makeW_top false F (by omega), makeW_inf false _ _ (Nat.le_refl _) (by omega)]
                          have := isF_word false IR (Nat.le_refl _); rw [word_false, HI.out] at this; exact this
                        have Q := hid q
                        clear hw q
                        go_wp2
                        go_ret
                        exact ⟨_, rfl, Q.out _ (by first | omega | rfl), HW.out.symm⟩
                      · have b2 : decide (2047 ≤ F + 1 + 1075) = false := by simpa using t2
                        have q : ∀ r, r = 0 + (F + 1 + 1075).toNat * 4503599627370496 → IsF r (D64.nearest false m e) := fun r hr => by
                          rw [hr, hwF.out, show (9007199254740992 : Nat) = 2 ^ 53 from by decide, makeW_top false F (by omega), makeW_mid false (2 ^ 52) (F + 1) (Nat.le_refl _) (by decide) (by omega) (by omega)]
                          have := isF_word false ((F + 1 + 1075).toNat * BN + 2 ^ 52 - BN) (by have := HI.out; unfold BN; omega)
                          rw [word_false] at this
                          have e0 : (F + 1 + 1075).toNat * BN + 2 ^ 52 - BN = (F + 1 + 1075).toNat * 4503599627370496 := by unfold BN; omega
                          rw [e0] at this ⊢; try rw [Nat.zero_add]
                          rw [word_false]; exact this
                        have Q := hid q
                        clear hw q
                        go_wp2
                        go_ret
                        skip
                        exact ⟨_, rfl, Q.out _ (by first | omega | rfl), HW.out.symm⟩
                    · have b1' : ((K : Int) == 9007199254740992) = false := by rw [beq_eq_false_iff_ne]; omega
                      by_cases t2 : 2047 ≤ F + 1075
                      · have b2 : decide (2047 ≤ F + 1075) = true := by simpa using t2
                        have q : ∀ r, r = 0 + 9218868437227405312 → IsF r (D64.nearest false m e) := fun r hr => by
                          have hK52 : 4503599627370496 ≤ K := by
                            rcases Nat.lt_or_ge K 4503599627370496 with h | h
                            · have := Hlow2.out K hK1.1 h; omega
                            · exact h
                          rw [hr, hwF.out, makeW_inf false K F hK52 (by omega)]
                          have := isF_word false IR (Nat.le_refl _); rw [word_false, HI.out] at this; exact this
                        have Q := hid q
                        clear hw q
                        go_wp2
                        go_ret
                        exact ⟨_, rfl, Q.out _ (by first | omega | rfl), HW.out.symm⟩
                      · have b2 : decide (2047 ≤ F + 1075) = false := by simpa using t2
                        by_cases t3 : (K : Int) < 4503599627370496
                        · have b3 : decide ((K : Int) < 4503599627370496) = true := by simpa using t3
                          have q : ∀ r, r = 0 + K → IsF r (D64.nearest false m e) := fun r hr => by
                            rw [hr, hwF.out, Hlow2.out K hK1.1 (by omega), makeW_low false K (by omega)]
                            have := isF_word false K (by have := HI.out; omega); rw [word_false] at this ⊢; try rw [Nat.zero_add]
                            exact this
                          have Q := hid q
                          clear hw q
                          go_wp2
                          go_ret
                          skip
                          exact ⟨_, rfl, Q.out _ (by first | omega | rfl), HW.out.symm⟩
                        · have b3 : decide ((K : Int) < 4503599627370496) = false := by simpa using t3
                          have q : ∀ r, r = 0 + ((F + 1075).toNat * 4503599627370496 + K - 4503599627370496) → IsF r (D64.nearest false m e) := fun r hr => by
                            rw [hr, hwF.out, makeW_mid false K F (by omega) (by omega) (by omega) (by omega)]
                            have := isF_word false ((F + 1075).toNat * BN + K - BN) (by have := HI.out; unfold BN; omega)
                            have e0 : (F + 1075).toNat * BN + K - BN = (F + 1075).toNat * 4503599627370496 + K - 4503599627370496 := by unfold BN; rfl
                            rw [e0] at this ⊢
                            rw [word_false] at this ⊢
                            try rw [Nat.zero_add]
                            exact this
                          have Q := hid q
                          clear hw q
                          go_wp2
                          go_ret
                          skip
                          exact ⟨_, rfl, Q.out _ (by first | omega | rfl), HW.out.symm⟩
  · by_cases m0 : m = 0
    · subst m0
      have q : IsF 9223372036854775808 (mkF true 0 e) := by unfold mkF; rw [if_pos rfl]; have := isF_word true 0 (Nat.zero_le _); rwa [word_true] at this
      go_enter Try.func199, Try.ntmps199
      go_wp2
      go_ret
      exact ⟨_, rfl, q, rfl⟩
    · have d1 : ((m : Int) == 0) = false := by rw [beq_eq_false_iff_ne]; omega
      have hmk : mkF true m e = D64.nearest true m e := by unfold mkF; rw [if_neg m0]
      by_cases e1 : e < -1200
      · have d2 : decide (e < -1200) = true := by simpa using e1
        have q : IsF 9223372036854775808 (mkF true m e) := by rw [hmk, nearest_low true m e m0 hm' (by omega)]; have := isF_word true 0 (Nat.zero_le _); rwa [word_true] at this
        clear hmk
        go_enter Try.func199, Try.ntmps199
        go_wp2
        go_ret
        exact ⟨_, rfl, q, rfl⟩
      · have d2 : decide (e < -1200) = false := by simpa using e1
        by_cases e2 : 2000 < e
        · have d3 : decide (2000 < e) = true := by simpa using e2
          have q : IsF (9223372036854775808 + 9218868437227405312) (mkF true m e) := by rw [hmk, nearest_high true m e m0 hm' (by omega)]; have := isF_word true IR (Nat.le_refl _); rw [word_true, HI.out] at this; exact this
          clear hmk
          go_enter Try.func199, Try.ntmps199
          go_wp2
          go_ret
          exact ⟨_, rfl, q, rfl⟩
        · have d3 : decide (2000 < e) = false := by simpa using e2
          rw [hmk]
          have M0 := hid m0
          clear hmk m0
          go_enter Try.func199, Try.ntmps199
          go_upto_block 0 with fail
          go_cut [1, 2] (fun c d wx => ∃ (M : Nat) (E : Int), c = .int .u64 M ∧ d = .int .i64 E ∧ M ≠ 0 ∧ M < 9007199254740992 ∧ -1200 ≤ E ∧ E ≤ 2000 ∧ (4503599627370496 ≤ M ∨ E ≤ -1074) ∧ D64.nearest true M E = D64.nearest true m e ∧ wx = w)
          case first =>
            go_wp2_with fail
            go_loopw [1, 2] (fun c d wr => ∃ (M : Nat) (E : Int), c = .int .u64 M ∧ d = .int .i64 E ∧ M ≠ 0 ∧ M < 9007199254740992 ∧ -1200 ≤ E ∧ E ≤ 2000 ∧ D64.nearest true M E = D64.nearest true m e ∧ wr = w) (fun _ d _ => (intOf d + 2000).toNat)
            case atStart => exact ⟨m, e, rfl, rfl, M0.out, hm', by omega, by omega, rfl, rfl⟩
            case round =>
              obtain ⟨M, E, rfl, rfl, hM0, hM, hE1, hE2, hN, hwr⟩ := hrel
              have HN := hid hN
              have HM0 := hid hM0
              have HW := hid hwr
              clear hN hM0 hwr
              by_cases c1 : (M : Int) < 4503599627370496
              · have b1 : decide ((M : Int) < 4503599627370496) = true := by simpa using c1
                by_cases c2 : -1074 < E
                · have b2 : decide (-1074 < E) = true := by simpa using c2
                  have r1 : IntKind.u64.wrap ((M : Int) * 2) = ((M * 2 : Nat) : Int) := by rw [IntWalk.u64_in _ (by omega)]; omega
                  go_wp2
                  go_roundw
                  case rel => exact ⟨M * 2, E - 1, by go_num, by go_num, by have := HM0.out; omega, by omega, by omega, by omega, by have := nearest_scale true M 1 E HM0.out; rw [Nat.pow_one] at this; rw [← HN.out]; exact this, HW.out⟩
                  case measure => simp [intOf]; omega
                · have b2 : decide (-1074 < E) = false := by simpa using c2
                  go_wp2
                  go_meet
                  exact ⟨M, E, rfl, rfl, HM0.out, hM, hE1, hE2, .inr (by omega), HN.out, HW.out⟩
              · have b1 : decide ((M : Int) < 4503599627370496) = false := by simpa using c1
                go_wp2
                go_meet
                exact ⟨M, E, rfl, rfl, HM0.out, hM, hE1, hE2, .inl (by omega), HN.out, HW.out⟩
          case rest =>
            obtain ⟨M, E, rfl, rfl, hM0, hM, hE1, hE2, hME, hN, rfl⟩ := hcut
            have HN := hid hN
            have HM0 := hid hM0
            have HME := hid hME
            clear hN hM0 hME
            go_wp2_with fail
            go_loopw [1, 2, 8, 9] (fun c d l h wr => ∃ t : Nat, c = .int .u64 ((hvM M t : Nat) : Int) ∧ d = .int .i64 (E + t) ∧ l = .bool (hvL M t) ∧ h = .bool (hvH M t) ∧ (t ≠ 0 → E + t ≤ -1074) ∧ wr = wc) (fun _ d _ _ _ => (-1074 - intOf d).toNat)
            case atStart => exact ⟨0, by rw [(hv_zero M).1], by simp, by rw [(hv_zero M).2.2], by rw [(hv_zero M).2.1], fun h => absurd rfl h, rfl⟩
            case round =>
              obtain ⟨t, rfl, rfl, rfl, rfl, ht, hwr⟩ := hrel
              have HW := hid hwr
              have HT := hid ht
              have hle := hvM_le M t
              have b0 : decide ((9007199254740992 : Int) ≤ ((hvM M t : Nat) : Int)) = false := by simp; omega
              clear hwr ht
              by_cases c3 : E + t < -1074
              · have b1 : decide (E + t < -1074) = true := by simpa using c3
                have HS := hid (hv_succ M t)
                cases hl : hvL M t
                · have HL := hid hl
                  clear hl
                  go_wp2
                  go_roundw
                  case rel => exact ⟨t + 1, by rw [HS.out.1]; go_num, by go_num, by rw [HS.out.2.2, HL.out]; rfl, by rw [HS.out.2.1, half_eq], fun _ => by omega, HW.out⟩
                  case measure => simp [intOf]; omega
                · have HL := hid hl
                  clear hl
                  go_wp2
                  go_roundw
                  case rel => exact ⟨t + 1, by rw [HS.out.1]; go_num, by go_num, by rw [HS.out.2.2, HL.out]; rfl, by rw [HS.out.2.1, half_eq], fun _ => by omega, HW.out⟩
                  case measure => simp [intOf]; omega
              · have b1 : decide (E + t < -1074) = false := by simpa using c3
                obtain ⟨H, hH⟩ : ∃ H, H = hvM M t := ⟨_, rfl⟩
                have hw := nearest_hv true M E t HM0.out hM (by have := HME.out; omega) (by omega) (fun h => by have := HT.out h; omega)
                have hlow : ∀ K : Nat, H ≤ K → K < 4503599627370496 → E + t = -1074 := fun K h1 h2 => by
                  rcases HME.out with h | h
                  · by_cases h0 : t = 0
                    · subst h0; rw [(hv_zero M).1] at hH; omega
                    · have := HT.out h0; omega
                  · by_cases h0 : t = 0
                    · subst h0; omega
                    · have := HT.out h0; omega
                rw [← hH] at hle hw
                have hFE : E + t ≤ 2000 := by
                  by_cases h0 : t = 0
                  · subst h0; omega
                  · have := HT.out h0; omega
                have Hlow := hid hlow
                simp only [← hH]
                obtain ⟨F, hF⟩ : ∃ F, E + (t : Int) = F := ⟨_, rfl⟩
                have Hlow2 := hid (fun K h1 h2 => hF.symm.trans (Hlow.out K h1 h2))
                rw [hF] at hw b1 c3 hFE
                simp only [hF]
                rw [HN.out] at hw
                clear hlow Hlow hH hF b0
                have hH53 : H < 9007199254740992 := by omega
                cases hh : hvH M t
                · rw [hh] at hw
                  simp only [Bool.false_and, Bool.toNat_false, Nat.add_zero] at hw
                  obtain ⟨K, hK⟩ : ∃ K, K = H := ⟨_, rfl⟩
                  have hK1 : H ≤ K ∧ K ≤ 9007199254740992 := by omega
                  rw [← hK] at hw
                  simp only [← hK]
                  have b0 : decide ((9007199254740992 : Int) ≤ (K : Int)) = false := by simp; omega
                  have b1' : ((K : Int) == 9007199254740992) = false := by rw [beq_eq_false_iff_ne]; omega
                  have hwF := hid hw
                  have t1 : ¬ K = 9007199254740992 := by omega
                  clear hK hh
                  by_cases t2 : 2047 ≤ F + 1075
                  · have b2 : decide (2047 ≤ F + 1075) = true := by simpa using t2
                    have q : ∀ r, r = 9223372036854775808 + 9218868437227405312 → IsF r (D64.nearest true m e) := fun r hr => by
                      have hK52 : 4503599627370496 ≤ K := by
                        rcases Nat.lt_or_ge K 4503599627370496 with h | h
                        · have := Hlow2.out K hK1.1 h; omega
                        · exact h
                      rw [hr, hwF.out, makeW_inf true K F hK52 (by omega)]
                      have := isF_word true IR (Nat.le_refl _); rw [word_true, HI.out] at this; exact this
                    have Q := hid q
                    clear hw q
                    go_wp2
                    go_ret
                    exact ⟨_, rfl, Q.out _ (by first | omega | rfl), HW.out.symm⟩
                  · have b2 : decide (2047 ≤ F + 1075) = false := by simpa using t2
                    by_cases t3 : (K : Int) < 4503599627370496
                    · have b3 : decide ((K : Int) < 4503599627370496) = true := by simpa using t3
                      have q : ∀ r, r = 9223372036854775808 + K → IsF r (D64.nearest true m e) := fun r hr => by
                        rw [hr, hwF.out, Hlow2.out K hK1.1 (by omega), makeW_low true K (by omega)]
                        have := isF_word true K (by have := HI.out; omega); rw [word_true] at this ⊢; try rw [Nat.zero_add]
                        exact this
                      have Q := hid q
                      clear hw q
                      go_wp2
                      go_ret
                      skip
                      exact ⟨_, rfl, Q.out _ (by first | omega | rfl), HW.out.symm⟩
                    · have b3 : decide ((K : Int) < 4503599627370496) = false := by simpa using t3
                      have q : ∀ r, r = 9223372036854775808 + ((F + 1075).toNat * 4503599627370496 + K - 4503599627370496) → IsF r (D64.nearest true m e) := fun r hr => by
                        rw [hr, hwF.out, makeW_mid true K F (by omega) (by omega) (by omega) (by omega)]
                        have := isF_word true ((F + 1075).toNat * BN + K - BN) (by have := HI.out; unfold BN; omega)
                        have e0 : (F + 1075).toNat * BN + K - BN = (F + 1075).toNat * 4503599627370496 + K - 4503599627370496 := by unfold BN; rfl
                        rw [e0] at this ⊢
                        rw [word_true] at this ⊢
                        try rw [Nat.zero_add]
                        exact this
                      have Q := hid q
                      clear hw q
                      go_wp2
                      go_ret
                      skip
                      exact ⟨_, rfl, Q.out _ (by first | omega | rfl), HW.out.symm⟩
                · rw [hh] at hw
                  simp only [Bool.true_and] at hw
                  have b0 : decide ((9007199254740992 : Int) ≤ (H : Int)) = false := by simp; omega
                  cases hl : hvL M t
                  · rw [hl] at hw
                    simp only [Bool.false_or] at hw
                    have hodd := half_eq H
                    cases ho : decide (H % 2 = 1)
                    · rw [ho] at hw hodd
                      simp only [Bool.toNat_false, Nat.add_zero] at hw
                      obtain ⟨K, hK⟩ : ∃ K, K = H := ⟨_, rfl⟩
                      have hK1 : H ≤ K ∧ K ≤ 9007199254740992 := by omega
                      rw [← hK] at hw hodd
                      simp only [← hK]
                      have b0' : decide ((9007199254740992 : Int) ≤ (K : Int)) = false := by simp; omega
                      have b1' : ((K : Int) == 9007199254740992) = false := by rw [beq_eq_false_iff_ne]; omega
                      have hwF := hid hw
                      have t1 : ¬ K = 9007199254740992 := by omega
                      clear hK hh hl ho b0
                      by_cases t2 : 2047 ≤ F + 1075
                      · have b2 : decide (2047 ≤ F + 1075) = true := by simpa using t2
                        have q : ∀ r, r = 9223372036854775808 + 9218868437227405312 → IsF r (D64.nearest true m e) := fun r hr => by
                          have hK52 : 4503599627370496 ≤ K := by
                            rcases Nat.lt_or_ge K 4503599627370496 with h | h
                            · have := Hlow2.out K hK1.1 h; omega
                            · exact h
                          rw [hr, hwF.out, makeW_inf true K F hK52 (by omega)]
                          have := isF_word true IR (Nat.le_refl _); rw [word_true, HI.out] at this; exact this
                        have Q := hid q
                        clear hw q
                        go_wp2
                        go_ret
                        exact ⟨_, rfl, Q.out _ (by first | omega | rfl), HW.out.symm⟩
                      · have b2 : decide (2047 ≤ F + 1075) = false := by simpa using t2
                        by_cases t3 : (K : Int) < 4503599627370496
                        · have b3 : decide ((K : Int) < 4503599627370496) = true := by simpa using t3
                          have q : ∀ r, r = 9223372036854775808 + K → IsF r (D64.nearest true m e) := fun r hr => by
                            rw [hr, hwF.out, Hlow2.out K hK1.1 (by omega), makeW_low true K (by omega)]
                            have := isF_word true K (by have := HI.out; omega); rw [word_true] at this ⊢; try rw [Nat.zero_add]
                            exact this
                          have Q := hid q
                          clear hw q
                          go_wp2
                          go_ret
                          skip
                          exact ⟨_, rfl, Q.out _ (by first | omega | rfl), HW.out.symm⟩
                        · have b3 : decide ((K : Int) < 4503599627370496) = false := by simpa using t3
                          have q : ∀ r, r = 9223372036854775808 + ((F + 1075).toNat * 4503599627370496 + K - 4503599627370496) → IsF r (D64.nearest true m e) := fun r hr => by
                            rw [hr, hwF.out, makeW_mid true K F (by omega) (by omega) (by omega) (by omega)]
                            have := isF_word true ((F + 1075).toNat * BN + K - BN) (by have := HI.out; unfold BN; omega)
                            have e0 : (F + 1075).toNat * BN + K - BN = (F + 1075).toNat * 4503599627370496 + K - 4503599627370496 := by unfold BN; rfl
                            rw [e0] at this ⊢
                            rw [word_true] at this ⊢
                            try rw [Nat.zero_add]
                            exact this
                          have Q := hid q
                          clear hw q
                          go_wp2
                          go_ret
                          skip
                          exact ⟨_, rfl, Q.out _ (by first | omega | rfl), HW.out.symm⟩
                    · rw [ho] at hw hodd
                      simp only [Bool.toNat_true] at hw
                      obtain ⟨K, hK⟩ : ∃ K, K = H + 1 := ⟨_, rfl⟩
                      have hK1 : H ≤ K ∧ K ≤ 9007199254740992 := by omega
                      rw [← hK] at hw
                      have rK : IntKind.u64.wrap ((H : Int) + 1) = (K : Int) := by rw [IntWalk.u64_in _ (by omega)]; omega
                      clear hK hh hl ho
                      have hwF := hid hw
                      by_cases t1 : K = 9007199254740992
                      · subst t1
                        by_cases t2 : 2047 ≤ F + 1 + 1075
                        · have b2 : decide (2047 ≤ F + 1 + 1075) = true := by simpa using t2
                          have q : ∀ r, r = 9223372036854775808 + 9218868437227405312 → IsF r (D64.nearest true m e) := fun r hr => by
                            rw [hr, hwF.out, show (9007199254740992 : Nat) = 2 ^ 53 from by decide, makeW_top true F (by omega), makeW_inf true _ _ (Nat.le_refl _) (by omega)]
                            have := isF_word true IR (Nat.le_refl _); rw [word_true, HI.out] at this; exact this
                          have Q := hid q
                          clear hw q
                          go_wp2
                          go_ret
                          exact ⟨_, rfl, Q.out _ (by first | omega | rfl), HW.out.symm⟩
                        · have b2 : decide (2047 ≤ F + 1 + 1075) = false := by simpa using t2
                          have q : ∀ r, r = 9223372036854775808 + (F + 1 + 1075).toNat * 4503599627370496 → IsF r (D64.nearest true m e) := fun r hr => by
                            rw [hr, hwF.out, show (9007199254740992 : Nat) = 2 ^ 53 from by decide, makeW_top true F (by omega), makeW_mid true (2 ^ 52) (F + 1) (Nat.le_refl _) (by decide) (by omega) (by omega)]
                            have := isF_word true ((F + 1 + 1075).toNat * BN + 2 ^ 52 - BN) (by have := HI.out; unfold BN; omega)
                            rw [word_true] at this
                            have e0 : (F + 1 + 1075).toNat * BN + 2 ^ 52 - BN = (F + 1 + 1075).toNat * 4503599627370496 := by unfold BN; omega
                            rw [e0] at this ⊢; try rw [Nat.zero_add]
                            rw [word_true]; exact this
                          have Q := hid q
                          clear hw q
                          go_wp2
                          go_ret
                          skip
                          exact ⟨_, rfl, Q.out _ (by first | omega | rfl), HW.out.symm⟩
                      · have b1' : ((K : Int) == 9007199254740992) = false := by rw [beq_eq_false_iff_ne]; omega
                        by_cases t2 : 2047 ≤ F + 1075
                        · have b2 : decide (2047 ≤ F + 1075) = true := by simpa using t2
                          have q : ∀ r, r = 9223372036854775808 + 9218868437227405312 → IsF r (D64.nearest true m e) := fun r hr => by
                            have hK52 : 4503599627370496 ≤ K := by
                              rcases Nat.lt_or_ge K 4503599627370496 with h | h
                              · have := Hlow2.out K hK1.1 h; omega
                              · exact h
                            rw [hr, hwF.out, makeW_inf true K F hK52 (by omega)]
                            have := isF_word true IR (Nat.le_refl _); rw [word_true, HI.out] at this; exact this
                          have Q := hid q
                          clear hw q
                          go_wp2
                          go_ret
                          exact ⟨_, rfl, Q.out _ (by first | omega | rfl), HW.out.symm⟩
                        · have b2 : decide (2047 ≤ F + 1075) = false := by simpa using t2
                          by_cases t3 : (K : Int) < 4503599627370496
                          · have b3 : decide ((K : Int) < 4503599627370496) = true := by simpa using t3
                            have q : ∀ r, r = 9223372036854775808 + K → IsF r (D64.nearest true m e) := fun r hr => by
                              rw [hr, hwF.out, Hlow2.out K hK1.1 (by omega), makeW_low true K (by omega)]
                              have := isF_word true K (by have := HI.out; omega); rw [word_true] at this ⊢; try rw [Nat.zero_add]
                              exact this
                            have Q := hid q
                            clear hw q
                            go_wp2
                            go_ret
                            skip
                            exact ⟨_, rfl, Q.out _ (by first | omega | rfl), HW.out.symm⟩
                          · have b3 : decide ((K : Int) < 4503599627370496) = false := by simpa using t3
                            have q : ∀ r, r = 9223372036854775808 + ((F + 1075).toNat * 4503599627370496 + K - 4503599627370496) → IsF r (D64.nearest true m e) := fun r hr => by
                              rw [hr, hwF.out, makeW_mid true K F (by omega) (by omega) (by omega) (by omega)]
                              have := isF_word true ((F + 1075).toNat * BN + K - BN) (by have := HI.out; unfold BN; omega)
                              have e0 : (F + 1075).toNat * BN + K - BN = (F + 1075).toNat * 4503599627370496 + K - 4503599627370496 := by unfold BN; rfl
                              rw [e0] at this ⊢
                              rw [word_true] at this ⊢
                              try rw [Nat.zero_add]
                              exact this
                            have Q := hid q
                            clear hw q
                            go_wp2
                            go_ret
                            skip
                            exact ⟨_, rfl, Q.out _ (by first | omega | rfl), HW.out.symm⟩
                  · rw [hl] at hw
                    simp only [Bool.true_or, Bool.toNat_true] at hw
                    obtain ⟨K, hK⟩ : ∃ K, K = H + 1 := ⟨_, rfl⟩
                    have hK1 : H ≤ K ∧ K ≤ 9007199254740992 := by omega
                    rw [← hK] at hw
                    have rK : IntKind.u64.wrap ((H : Int) + 1) = (K : Int) := by rw [IntWalk.u64_in _ (by omega)]; omega
                    clear hK hh hl
                    have hwF := hid hw
                    by_cases t1 : K = 9007199254740992
                    · subst t1
                      by_cases t2 : 2047 ≤ F + 1 + 1075
                      · have b2 : decide (2047 ≤ F + 1 + 1075) = true := by simpa using t2
                        have q : ∀ r, r = 9223372036854775808 + 9218868437227405312 → IsF r (D64.nearest true m e) := fun r hr => by
                          rw [hr, hwF.out, show (9007199254740992 : Nat) = 2 ^ 53 from by decide, makeW_top true F (by omega), makeW_inf true _ _ (Nat.le_refl _) (by omega)]
                          have := isF_word true IR (Nat.le_refl _); rw [word_true, HI.out] at this; exact this
                        have Q := hid q
                        clear hw q
                        go_wp2
                        go_ret
                        exact ⟨_, rfl, Q.out _ (by first | omega | rfl), HW.out.symm⟩
                      · have b2 : decide (2047 ≤ F + 1 + 1075) = false := by simpa using t2
                        have q : ∀ r, r = 9223372036854775808 + (F + 1 + 1075).toNat * 4503599627370496 → IsF r (D64.nearest true m e) := fun r hr => by
                          rw [hr, hwF.out, show (9007199254740992 : Nat) = 2 ^ 53 from by decide, makeW_top true F (by omega), makeW_mid true (2 ^ 52) (F + 1) (Nat.le_refl _) (by decide) (by omega) (by omega)]
                          have := isF_word true ((F + 1 + 1075).toNat * BN + 2 ^ 52 - BN) (by have := HI.out; unfold BN; omega)
                          rw [word_true] at this
                          have e0 : (F + 1 + 1075).toNat * BN + 2 ^ 52 - BN = (F + 1 + 1075).toNat * 4503599627370496 := by unfold BN; omega
                          rw [e0] at this ⊢; try rw [Nat.zero_add]
                          rw [word_true]; exact this
                        have Q := hid q
                        clear hw q
                        go_wp2
                        go_ret
                        skip
                        exact ⟨_, rfl, Q.out _ (by first | omega | rfl), HW.out.symm⟩
                    · have b1' : ((K : Int) == 9007199254740992) = false := by rw [beq_eq_false_iff_ne]; omega
                      by_cases t2 : 2047 ≤ F + 1075
                      · have b2 : decide (2047 ≤ F + 1075) = true := by simpa using t2
                        have q : ∀ r, r = 9223372036854775808 + 9218868437227405312 → IsF r (D64.nearest true m e) := fun r hr => by
                          have hK52 : 4503599627370496 ≤ K := by
                            rcases Nat.lt_or_ge K 4503599627370496 with h | h
                            · have := Hlow2.out K hK1.1 h; omega
                            · exact h
                          rw [hr, hwF.out, makeW_inf true K F hK52 (by omega)]
                          have := isF_word true IR (Nat.le_refl _); rw [word_true, HI.out] at this; exact this
                        have Q := hid q
                        clear hw q
                        go_wp2
                        go_ret
                        exact ⟨_, rfl, Q.out _ (by first | omega | rfl), HW.out.symm⟩
                      · have b2 : decide (2047 ≤ F + 1075) = false := by simpa using t2
                        by_cases t3 : (K : Int) < 4503599627370496
                        · have b3 : decide ((K : Int) < 4503599627370496) = true := by simpa using t3
                          have q : ∀ r, r = 9223372036854775808 + K → IsF r (D64.nearest true m e) := fun r hr => by
                            rw [hr, hwF.out, Hlow2.out K hK1.1 (by omega), makeW_low true K (by omega)]
                            have := isF_word true K (by have := HI.out; omega); rw [word_true] at this ⊢; try rw [Nat.zero_add]
                            exact this
                          have Q := hid q
                          clear hw q
                          go_wp2
                          go_ret
                          skip
                          exact ⟨_, rfl, Q.out _ (by first | omega | rfl), HW.out.symm⟩
                        · have b3 : decide ((K : Int) < 4503599627370496) = false := by simpa using t3
                          have q : ∀ r, r = 9223372036854775808 + ((F + 1075).toNat * 4503599627370496 + K - 4503599627370496) → IsF r (D64.nearest true m e) := fun r hr => by
                            rw [hr, hwF.out, makeW_mid true K F (by omega) (by omega) (by omega) (by omega)]
                            have := isF_word true ((F + 1075).toNat * BN + K - BN) (by have := HI.out; unfold BN; omega)
                            have e0 : (F + 1075).toNat * BN + K - BN = (F + 1075).toNat * 4503599627370496 + K - 4503599627370496 := by unfold BN; rfl
                            rw [e0] at this ⊢
                            rw [word_true] at this ⊢
                            try rw [Nat.zero_add]
                            exact this
                          have Q := hid q
                          clear hw q
                          go_wp2
                          go_ret
                          skip
                          exact ⟨_, rfl, Q.out _ (by first | omega | rfl), HW.out.symm⟩
end Go.Proofs.Ytcmggfpcbijcjaa
