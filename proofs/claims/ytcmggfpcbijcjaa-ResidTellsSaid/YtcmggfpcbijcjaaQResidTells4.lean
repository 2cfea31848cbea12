/-
  Texts laid one behind the other (a claim has at most 60 files): Mk, Ld, Ld2, Sums, Vecs, Fork.
-/
import Derived.Deep.CutBlock
import Derived.Deep.DeepCutAuto
import Derived.Test.YtcmggfpcbijcjaaQResidTells1
import Derived.Test.YtcmggfpcbijcjaaQResidTells2
import Derived.Test.YtcmggfpcbijcjaaQResidTells3
section
/-
  Contracts: straightedgeref01.Make, Scale.
-/
set_option linter.unusedSimpArgs false
set_option linter.unusedVariables false
open Go Go.RowKit Sedge Ieee
namespace Go.Proofs.Ytcmggfpcbijcjaa
def mkF (s : Bool) (m : Nat) (e : Int) : Nat := if m = 0 then D64.word s 0 else D64.nearest s m e
theorem word_false (n : Nat) : D64.word false n = n := by unfold Format.word; simp
theorem word_true (n : Nat) : D64.word true n = 9223372036854775808 + n := by
  show (if true = true then 2 ^ (64 - 1) else 0) + n = _
  simp
theorem isF_word (s : Bool) (n : Nat) (h : n ≤ IR) : IsF (D64.word s n) (D64.word s n) := by
  refine ⟨?_, canon_not (read_word_notnan s n h)⟩
  have hI : IR < 9223372036854775808 := by decide +kernel
  cases s
  · rw [word_false]; omega
  · rw [word_true]; omega
theorem half_eq (n : Nat) : ((n : Int) % 2 == 1) = decide (n % 2 = 1) := by
  rw [Bool.eq_iff_iff, beq_iff_eq, decide_eq_true_eq]; omega
theorem hvM_le (m t : Nat) : hvM m t ≤ m := Nat.div_le_self _ _
set_option maxRecDepth 100000 in
set_option maxHeartbeats 4000000 in
/-- straightedgeref01.Make, of less than 2^53. -/
theorem make_any (s : Bool) (m : Nat) (e : Int) (w : World) (hm : m < 2 ^ 53) (he : -10000 ≤ e ∧ e ≤ 10000) :
   Calls Try.prog 199 #[.bool s, .int .u64 m, .int .i64 e] w (fun e' w' => ∃ r, e' = .returned (.float .f64 r) ∧ IsF r (mkF s m e) ∧ w = w') := by
  have hI : IR = 9218868437227405312 := by decide +kernel
  have HI := hid hI
  have hm' : m < 9007199254740992 := hm
  clear hm hI
  cases s
  · by_cases m0 : m = 0
    · subst m0
      have q : IsF 0 (mkF false 0 e) := by unfold mkF; rw [if_pos rfl]; have := isF_word false 0 (Nat.zero_le _); rwa [word_false] at this
      go_enter Try.func199, Try.ntmps199
      go_wp2
      go_ret
      exact ⟨_, rfl, q, rfl⟩
    · have d1 : ((m : Int) == 0) = false := by rw [beq_eq_false_iff_ne]; omega
      have hmk : mkF false m e = D64.nearest false m e := by unfold mkF; rw [if_neg m0]
      by_cases e1 : e < -1200
      · have d2 : decide (e < -1200) = true := by simpa using e1
        have q : IsF 0 (mkF false m e) := by rw [hmk, nearest_low false m e m0 hm' (by omega)]; have := isF_word false 0 (Nat.zero_le _); rwa [word_false] at this
        clear hmk
        go_enter Try.func199, Try.ntmps199
        go_wp2
        go_ret
        exact ⟨_, rfl, q, rfl⟩
      · have d2 : decide (e < -1200) = false := by simpa using e1
        by_cases e2 : 2000 < e
        · have d3 : decide (2000 < e) = true := by simpa using e2
          have q : IsF (0 + 9218868437227405312) (mkF false m e) := by rw [hmk, nearest_high false m e m0 hm' (by omega)]; have := isF_word false IR (Nat.le_refl _); rw [word_false, HI.out] at this; exact this
          clear hmk
          go_enter Try.func199, Try.ntmps199
          go_wp2
          go_ret
          exact ⟨_, rfl, q, rfl⟩
        · have d3 : decide (2000 < e) = false := by simpa using e2
          rw [hmk]
          have M0 := hid m0
          clear hmk m0
          go_enter Try.func199, Try.ntmps199
          go_upto_block 0 with fail
          go_cut [1, 2] (fun c d wx => ∃ (M : Nat) (E : Int), c = .int .u64 M ∧ d = .int .i64 E ∧ M ≠ 0 ∧ M < 9007199254740992 ∧ -1200 ≤ E ∧ E ≤ 2000 ∧ (4503599627370496 ≤ M ∨ E ≤ -1074) ∧ D64.nearest false M E = D64.nearest false m e ∧ wx = w)
          case first =>
            go_wp2_with fail
            go_loopw [1, 2] (fun c d wr => ∃ (M : Nat) (E : Int), c = .int .u64 M ∧ d = .int .i64 E ∧ M ≠ 0 ∧ M < 9007199254740992 ∧ -1200 ≤ E ∧ E ≤ 2000 ∧ D64.nearest false M E = D64.nearest false m e ∧ wr = w) (fun _ d _ => (intOf d + 2000).toNat)
            case atStart => exact ⟨m, e, rfl, rfl, M0.out, hm', by omega, by omega, rfl, rfl⟩
            case round =>
              obtain ⟨M, E, rfl, rfl, hM0, hM, hE1, hE2, hN, hwr⟩ := hrel
              have HN := hid hN
              have HM0 := hid hM0
              have HW := hid hwr
              clear hN hM0 hwr
              by_cases c1 : (M : Int) < 4503599627370496
              · have b1 : decide ((M : Int) < 4503599627370496) = true := by simpa using c1
                by_cases c2 : -1074 < E
                · have b2 : decide (-1074 < E) = true := by simpa using c2
                  have r1 : IntKind.u64.wrap ((M : Int) * 2) = ((M * 2 : Nat) : Int) := by rw [IntWalk.u64_in _ (by omega)]; omega
                  go_wp2
                  go_roundw
                  case rel => exact ⟨M * 2, E - 1, by go_num, by go_num, by have := HM0.out; omega, by omega, by omega, by omega, by have := nearest_scale false M 1 E HM0.out; rw [Nat.pow_one] at this; rw [← HN.out]; exact this, HW.out⟩
                  case measure => simp [intOf]; omega
                · have b2 : decide (-1074 < E) = false := by simpa using c2
                  go_wp2
                  go_meet
                  exact ⟨M, E, rfl, rfl, HM0.out, hM, hE1, hE2, .inr (by omega), HN.out, HW.out⟩
              · have b1 : decide ((M : Int) < 4503599627370496) = false := by simpa using c1
                go_wp2
                go_meet
                exact ⟨M, E, rfl, rfl, HM0.out, hM, hE1, hE2, .inl (by omega), HN.out, HW.out⟩
          case rest =>
            obtain ⟨M, E, rfl, rfl, hM0, hM, hE1, hE2, hME, hN, rfl⟩ := hcut
            have HN := hid hN
            have HM0 := hid hM0
            have HME := hid hME
            clear hN hM0 hME
            go_wp2_with fail
            go_loopw [1, 2, 8, 9] (fun c d l h wr => ∃ t : Nat, c = .int .u64 ((hvM M t : Nat) : Int) ∧ d = .int .i64 (E + t) ∧ l = .bool (hvL M t) ∧ h = .bool (hvH M t) ∧ (t ≠ 0 → E + t ≤ -1074) ∧ wr = wc) (fun _ d _ _ _ => (-1074 - intOf d).toNat)
            case atStart => exact ⟨0, by rw [(hv_zero M).1], by simp, by rw [(hv_zero M).2.2], by rw [(hv_zero M).2.1], fun h => absurd rfl h, rfl⟩
            case round =>
              obtain ⟨t, rfl, rfl, rfl, rfl, ht, hwr⟩ := hrel
              have HW := hid hwr
              have HT := hid ht
              have hle := hvM_le M t
              have b0 : decide ((9007199254740992 : Int) ≤ ((hvM M t : Nat) : Int)) = false := by simp; omega
              clear hwr ht
              by_cases c3 : E + t < -1074
              · have b1 : decide (E + t < -1074) = true := by simpa using c3
                have HS := hid (hv_succ M t)
                cases hl : hvL M t
                · have HL := hid hl
                  clear hl
                  go_wp2
                  go_roundw
                  case rel => exact ⟨t + 1, by rw [HS.out.1]; go_num, by go_num, by rw [HS.out.2.2, HL.out]; rfl, by rw [HS.out.2.1, half_eq], fun _ => by omega, HW.out⟩
                  case measure => simp [intOf]; omega
                · have HL := hid hl
                  clear hl
                  go_wp2
                  go_roundw
                  case rel => exact ⟨t + 1, by rw [HS.out.1]; go_num, by go_num, by rw [HS.out.2.2, HL.out]; rfl, by rw [HS.out.2.1, half_eq], fun _ => by omega, HW.out⟩
                  case measure => simp [intOf]; omega
              · have b1 : decide (E + t < -1074) = false := by simpa using c3
                obtain ⟨H, hH⟩ : ∃ H, H = hvM M t := ⟨_, rfl⟩
                have hw := nearest_hv false M E t HM0.out hM (by have := HME.out; omega) (by omega) (fun h => by have := HT.out h; omega)
                have hlow : ∀ K : Nat, H ≤ K → K < 4503599627370496 → E + t = -1074 := fun K h1 h2 => by
                  rcases HME.out with h | h
                  · by_cases h0 : t = 0
                    · subst h0; rw [(hv_zero M).1] at hH; omega
                    · have := HT.out h0; omega
                  · by_cases h0 : t = 0
                    · subst h0; omega
                    · have := HT.out h0; omega
                rw [← hH] at hle hw
                have hFE : E + t ≤ 2000 := by
                  by_cases h0 : t = 0
                  · subst h0; omega
                  · have := HT.out h0; omega
                have Hlow := hid hlow
                simp only [← hH]
                obtain ⟨F, hF⟩ : ∃ F, E + (t : Int) = F := ⟨_, rfl⟩
                have Hlow2 := hid (fun K h1 h2 => hF.symm.trans (Hlow.out K h1 h2))
                rw [hF] at hw b1 c3 hFE
                simp only [hF]
                rw [HN.out] at hw
                clear hlow Hlow hH hF b0
                have hH53 : H < 9007199254740992 := by omega
                cases hh : hvH M t
                · rw [hh] at hw
                  simp only [Bool.false_and, Bool.toNat_false, Nat.add_zero] at hw
                  obtain ⟨K, hK⟩ : ∃ K, K = H := ⟨_, rfl⟩
                  have hK1 : H ≤ K ∧ K ≤ 9007199254740992 := by omega
                  rw [← hK] at hw
                  simp only [← hK]
                  have b0 : decide ((9007199254740992 : Int) ≤ (K : Int)) = false := by simp; omega
                  have b1' : ((K : Int) == 9007199254740992) = false := by rw [beq_eq_false_iff_ne]; omega
                  have hwF := hid hw
                  have t1 : ¬ K = 9007199254740992 := by omega
                  clear hK hh
                  by_cases t2 : 2047 ≤ F + 1075
                  · have b2 : decide (2047 ≤ F + 1075) = true := by simpa using t2
                    have q : ∀ r, r = 0 + 9218868437227405312 → IsF r (D64.nearest false m e) := fun r hr => by
                      have hK52 : 4503599627370496 ≤ K := by
                        rcases Nat.lt_or_ge K 4503599627370496 with h | h
                        · have := Hlow2.out K hK1.1 h; omega
                        · exact h
                      rw [hr, hwF.out, makeW_inf false K F hK52 (by omega)]
                      have := isF_word false IR (Nat.le_refl _); rw [word_false, HI.out] at this; exact this
                    have Q := hid q
                    clear hw q
                    go_wp2
                    go_ret
                    exact ⟨_, rfl, Q.out _ (by first | omega | rfl), HW.out.symm⟩
                  · have b2 : decide (2047 ≤ F + 1075) = false := by simpa using t2
                    by_cases t3 : (K : Int) < 4503599627370496
                    · have b3 : decide ((K : Int) < 4503599627370496) = true := by simpa using t3
                      have q : ∀ r, r = 0 + K → IsF r (D64.nearest false m e) := fun r hr => by
                        rw [hr, hwF.out, Hlow2.out K hK1.1 (by omega), makeW_low false K (by omega)]
                        have := isF_word false K (by have := HI.out; omega); rw [word_false] at this ⊢; try rw [Nat.zero_add]
                        exact this
                      have Q := hid q
                      clear hw q
                      go_wp2
                      go_ret
                      skip
                      exact ⟨_, rfl, Q.out _ (by first | omega | rfl), HW.out.symm⟩
                    · have b3 : decide ((K : Int) < 4503599627370496) = false := by simpa using t3
                      have q : ∀ r, r = 0 + ((F + 1075).toNat * 4503599627370496 + K - 4503599627370496) → IsF r (D64.nearest false m e) := fun r hr => by
                        rw [hr, hwF.out, makeW_mid false K F (by omega) (by omega) (by omega) (by omega)]
                        have := isF_word false ((F + 1075).toNat * BN + K - BN) (by have := HI.out; unfold BN; omega)
                        have e0 : (F + 1075).toNat * BN + K - BN = (F + 1075).toNat * 4503599627370496 + K - 4503599627370496 := by unfold BN; rfl
                        rw [e0] at this ⊢
                        rw [word_false] at this ⊢
                        try rw [Nat.zero_add]
                        exact this
                      have Q := hid q
                      clear hw q
                      go_wp2
                      go_ret
                      skip
                      exact ⟨_, rfl, Q.out _ (by first | omega | rfl), HW.out.symm⟩
                · rw [hh] at hw
                  simp only [Bool.true_and] at hw
                  have b0 : decide ((9007199254740992 : Int) ≤ (H : Int)) = false := by simp; omega
                  cases hl : hvL M t
                  · rw [hl] at hw
                    simp only [Bool.false_or] at hw
                    have hodd := half_eq H
                    cases ho : decide (H % 2 = 1)
                    · rw [ho] at hw hodd
                      simp only [Bool.toNat_false, Nat.add_zero] at hw
                      obtain ⟨K, hK⟩ : ∃ K, K = H := ⟨_, rfl⟩
                      have hK1 : H ≤ K ∧ K ≤ 9007199254740992 := by omega
                      rw [← hK] at hw hodd
                      simp only [← hK]
                      have b0' : decide ((9007199254740992 : Int) ≤ (K : Int)) = false := by simp; omega
                      have b1' : ((K : Int) == 9007199254740992) = false := by rw [beq_eq_false_iff_ne]; omega
                      have hwF := hid hw
                      have t1 : ¬ K = 9007199254740992 := by omega
                      clear hK hh hl ho b0
                      by_cases t2 : 2047 ≤ F + 1075
                      · have b2 : decide (2047 ≤ F + 1075) = true := by simpa using t2
                        have q : ∀ r, r = 0 + 9218868437227405312 → IsF r (D64.nearest false m e) := fun r hr => by
                          have hK52 : 4503599627370496 ≤ K := by
                            rcases Nat.lt_or_ge K 4503599627370496 with h | h
                            · have := Hlow2.out K hK1.1 h; omega
                            · exact h
                          rw [hr, hwF.out, makeW_inf false K F hK52 (by omega)]
                          have := isF_word false IR (Nat.le_refl _); rw [word_false, HI.out] at this; exact this
                        have Q := hid q
                        clear hw q
                        go_wp2
                        go_ret
                        exact ⟨_, rfl, Q.out _ (by first | omega | rfl), HW.out.symm⟩
                      · have b2 : decide (2047 ≤ F + 1075) = false := by simpa using t2
                        by_cases t3 : (K : Int) < 4503599627370496
                        · have b3 : decide ((K : Int) < 4503599627370496) = true := by simpa using t3
                          have q : ∀ r, r = 0 + K → IsF r (D64.nearest false m e) := fun r hr => by
                            rw [hr, hwF.out, Hlow2.out K hK1.1 (by omega), makeW_low false K (by omega)]
                            have := isF_word false K (by have := HI.out; omega); rw [word_false] at this ⊢; try rw [Nat.zero_add]
                            exact this
                          have Q := hid q
                          clear hw q
                          go_wp2
                          go_ret
                          skip
                          exact ⟨_, rfl, Q.out _ (by first | omega | rfl), HW.out.symm⟩
                        · have b3 : decide ((K : Int) < 4503599627370496) = false := by simpa using t3
                          have q : ∀ r, r = 0 + ((F + 1075).toNat * 4503599627370496 + K - 4503599627370496) → IsF r (D64.nearest false m e) := fun r hr => by
                            rw [hr, hwF.out, makeW_mid false K F (by omega) (by omega) (by omega) (by omega)]
                            have := isF_word false ((F + 1075).toNat * BN + K - BN) (by have := HI.out; unfold BN; omega)
                            have e0 : (F + 1075).toNat * BN + K - BN = (F + 1075).toNat * 4503599627370496 + K - 4503599627370496 := by unfold BN; rfl
                            rw [e0] at this ⊢
                            rw [word_false] at this ⊢
                            try rw [Nat.zero_add]
                            exact this
                          have Q := hid q
                          clear hw q
                          go_wp2
                          go_ret
                          skip
                          exact ⟨_, rfl, Q.out _ (by first | omega | rfl), HW.out.symm⟩
                    · rw [ho] at hw hodd
                      simp only [Bool.toNat_true] at hw
                      obtain ⟨K, hK⟩ : ∃ K, K = H + 1 := ⟨_, rfl⟩
                      have hK1 : H ≤ K ∧ K ≤ 9007199254740992 := by omega
                      rw [← hK] at hw
                      have rK : IntKind.u64.wrap ((H : Int) + 1) = (K : Int) := by rw [IntWalk.u64_in _ (by omega)]; omega
                      clear hK hh hl ho
                      have hwF := hid hw
                      by_cases t1 : K = 9007199254740992
                      · subst t1
                        by_cases t2 : 2047 ≤ F + 1 + 1075
                        · have b2 : decide (2047 ≤ F + 1 + 1075) = true := by simpa using t2
                          have q : ∀ r, r = 0 + 9218868437227405312 → IsF r (D64.nearest false m e) := fun r hr => by
                            rw [hr, hwF.out, show (9007199254740992 : Nat) = 2 ^ 53 from by decide, makeW_top false F (by omega), makeW_inf false _ _ (Nat.le_refl _) (by omega)]
                            have := isF_word false IR (Nat.le_refl _); rw [word_false, HI.out] at this; exact this
                          have Q := hid q
                          clear hw q
                          go_wp2
                          go_ret
                          exact ⟨_, rfl, Q.out _ (by first | omega | rfl), HW.out.symm⟩
                        · have b2 : decide (2047 ≤ F + 1 + 1075) = false := by simpa using t2
                          have q : ∀ r, r = 0 + (F + 1 + 1075).toNat * 4503599627370496 → IsF r (D64.nearest false m e) := fun r hr => by
                            rw [hr, hwF.out, show (9007199254740992 : Nat) = 2 ^ 53 from by decide, makeW_top false F (by omega), makeW_mid false (2 ^ 52) (F + 1) (Nat.le_refl _) (by decide) (by omega) (by omega)]
                            have := isF_word false ((F + 1 + 1075).toNat * BN + 2 ^ 52 - BN) (by have := HI.out; unfold BN; omega)
                            rw [word_false] at this
                            have e0 : (F + 1 + 1075).toNat * BN + 2 ^ 52 - BN = (F + 1 + 1075).toNat * 4503599627370496 := by unfold BN; omega
                            rw [e0] at this ⊢; try rw [Nat.zero_add]
                            rw [word_false]; exact this
                          have Q := hid q
                          clear hw q
                          go_wp2
                          go_ret
                          skip
                          exact ⟨_, rfl, Q.out _ (by first | omega | rfl), HW.out.symm⟩
                      · have b1' : ((K : Int) == 9007199254740992) = false := by rw [beq_eq_false_iff_ne]; omega
                        by_cases t2 : 2047 ≤ F + 1075
                        · have b2 : decide (2047 ≤ F + 1075) = true := by simpa using t2
                          have q : ∀ r, r = 0 + 9218868437227405312 → IsF r (D64.nearest false m e) := fun r hr => by
                            have hK52 : 4503599627370496 ≤ K := by
                              rcases Nat.lt_or_ge K 4503599627370496 with h | h
                              · have := Hlow2.out K hK1.1 h; omega
                              · exact h
                            rw [hr, hwF.out, makeW_inf false K F hK52 (by omega)]
                            have := isF_word false IR (Nat.le_refl _); rw [word_false, HI.out] at this; exact this
                          have Q := hid q
                          clear hw q
                          go_wp2
                          go_ret
                          exact ⟨_, rfl, Q.out _ (by first | omega | rfl), HW.out.symm⟩
                        · have b2 : decide (2047 ≤ F + 1075) = false := by simpa using t2
                          by_cases t3 : (K : Int) < 4503599627370496
                          · have b3 : decide ((K : Int) < 4503599627370496) = true := by simpa using t3
                            have q : ∀ r, r = 0 + K → IsF r (D64.nearest false m e) := fun r hr => by
                              rw [hr, hwF.out, Hlow2.out K hK1.1 (by omega), makeW_low false K (by omega)]
                              have := isF_word false K (by have := HI.out; omega); rw [word_false] at this ⊢; try rw [Nat.zero_add]
                              exact this
                            have Q := hid q
                            clear hw q
                            go_wp2
                            go_ret
                            skip
                            exact ⟨_, rfl, Q.out _ (by first | omega | rfl), HW.out.symm⟩
                          · have b3 : decide ((K : Int) < 4503599627370496) = false := by simpa using t3
                            have q : ∀ r, r = 0 + ((F + 1075).toNat * 4503599627370496 + K - 4503599627370496) → IsF r (D64.nearest false m e) := fun r hr => by
                              rw [hr, hwF.out, makeW_mid false K F (by omega) (by omega) (by omega) (by omega)]
                              have := isF_word false ((F + 1075).toNat * BN + K - BN) (by have := HI.out; unfold BN; omega)
                              have e0 : (F + 1075).toNat * BN + K - BN = (F + 1075).toNat * 4503599627370496 + K - 4503599627370496 := by unfold BN; rfl
                              rw [e0] at this ⊢
                              rw [word_false] at this ⊢
                              try rw [Nat.zero_add]
                              exact this
                            have Q := hid q
                            clear hw q
                            go_wp2
                            go_ret
                            skip
                            exact ⟨_, rfl, Q.out _ (by first | omega | rfl), HW.out.symm⟩
                  · rw [hl] at hw
                    simp only [Bool.true_or, Bool.toNat_true] at hw
                    obtain ⟨K, hK⟩ : ∃ K, K = H + 1 := ⟨_, rfl⟩
                    have hK1 : H ≤ K ∧ K ≤ 9007199254740992 := by omega
                    rw [← hK] at hw
                    have rK : IntKind.u64.wrap ((H : Int) + 1) = (K : Int) := by rw [IntWalk.u64_in _ (by omega)]; omega
                    clear hK hh hl
                    have hwF := hid hw
                    by_cases t1 : K = 9007199254740992
                    · subst t1
                      by_cases t2 : 2047 ≤ F + 1 + 1075
                      · have b2 : decide (2047 ≤ F + 1 + 1075) = true := by simpa using t2
                        have q : ∀ r, r = 0 + 9218868437227405312 → IsF r (D64.nearest false m e) := fun r hr => by
                          rw [hr, hwF.out, show (9007199254740992 : Nat) = 2 ^ 53 from by decide, makeW_top false F (by omega), makeW_inf false _ _ (Nat.le_refl _) (by omega)]
                          have := isF_word false IR (Nat.le_refl _); rw [word_false, HI.out] at this; exact this
                        have Q := hid q
                        clear hw q
                        go_wp2
                        go_ret
                        exact ⟨_, rfl, Q.out _ (by first | omega | rfl), HW.out.symm⟩
                      · have b2 : decide (2047 ≤ F + 1 + 1075) = false := by simpa using t2
                        have q : ∀ r, r = 0 + (F + 1 + 1075).toNat * 4503599627370496 → IsF r (D64.nearest false m e) := fun r hr => by
                          rw [hr, hwF.out, show (9007199254740992 : Nat) = 2 ^ 53 from by decide, makeW_top false F (by omega), makeW_mid false (2 ^ 52) (F + 1) (Nat.le_refl _) (by decide) (by omega) (by omega)]
                          have := isF_word false ((F + 1 + 1075).toNat * BN + 2 ^ 52 - BN) (by have := HI.out; unfold BN; omega)
                          rw [word_false] at this
                          have e0 : (F + 1 + 1075).toNat * BN + 2 ^ 52 - BN = (F + 1 + 1075).toNat * 4503599627370496 := by unfold BN; omega
                          rw [e0] at this ⊢; try rw [Nat.zero_add]
                          rw [word_false]; exact this
                        have Q := hid q
                        clear hw q
                        go_wp2
                        go_ret
                        skip
                        exact ⟨_, rfl, Q.out _ (by first | omega | rfl), HW.out.symm⟩
                    · have b1' : ((K : Int) == 9007199254740992) = false := by rw [beq_eq_false_iff_ne]; omega
                      by_cases t2 : 2047 ≤ F + 1075
                      · have b2 : decide (2047 ≤ F + 1075) = true := by simpa using t2
                        have q : ∀ r, r = 0 + 9218868437227405312 → IsF r (D64.nearest false m e) := fun r hr => by
                          have hK52 : 4503599627370496 ≤ K := by
                            rcases Nat.lt_or_ge K 4503599627370496 with h | h
                            · have := Hlow2.out K hK1.1 h; omega
                            · exact h
                          rw [hr, hwF.out, makeW_inf false K F hK52 (by omega)]
                          have := isF_word false IR (Nat.le_refl _); rw [word_false, HI.out] at this; exact this
                        have Q := hid q
                        clear hw q
                        go_wp2
                        go_ret
                        exact ⟨_, rfl, Q.out _ (by first | omega | rfl), HW.out.symm⟩
                      · have b2 : decide (2047 ≤ F + 1075) = false := by simpa using t2
                        by_cases t3 : (K : Int) < 4503599627370496
                        · have b3 : decide ((K : Int) < 4503599627370496) = true := by simpa using t3
                          have q : ∀ r, r = 0 + K → IsF r (D64.nearest false m e) := fun r hr => by
                            rw [hr, hwF.out, Hlow2.out K hK1.1 (by omega), makeW_low false K (by omega)]
                            have := isF_word false K (by have := HI.out; omega); rw [word_false] at this ⊢; try rw [Nat.zero_add]
                            exact this
                          have Q := hid q
                          clear hw q
                          go_wp2
                          go_ret
                          skip
                          exact ⟨_, rfl, Q.out _ (by first | omega | rfl), HW.out.symm⟩
                        · have b3 : decide ((K : Int) < 4503599627370496) = false := by simpa using t3
                          have q : ∀ r, r = 0 + ((F + 1075).toNat * 4503599627370496 + K - 4503599627370496) → IsF r (D64.nearest false m e) := fun r hr => by
                            rw [hr, hwF.out, makeW_mid false K F (by omega) (by omega) (by omega) (by omega)]
                            have := isF_word false ((F + 1075).toNat * BN + K - BN) (by have := HI.out; unfold BN; omega)
                            have e0 : (F + 1075).toNat * BN + K - BN = (F + 1075).toNat * 4503599627370496 + K - 4503599627370496 := by unfold BN; rfl
                            rw [e0] at this ⊢
                            rw [word_false] at this ⊢
                            try rw [Nat.zero_add]
                            exact this
                          have Q := hid q
                          clear hw q
                          go_wp2
                          go_ret
                          skip
                          exact ⟨_, rfl, Q.out _ (by first | omega | rfl), HW.out.symm⟩
  · by_cases m0 : m = 0
    · subst m0
      have q : IsF 9223372036854775808 (mkF true 0 e) := by unfold mkF; rw [if_pos rfl]; have := isF_word true 0 (Nat.zero_le _); rwa [word_true] at this
      go_enter Try.func199, Try.ntmps199
      go_wp2
      go_ret
      exact ⟨_, rfl, q, rfl⟩
    · have d1 : ((m : Int) == 0) = false := by rw [beq_eq_false_iff_ne]; omega
      have hmk : mkF true m e = D64.nearest true m e := by unfold mkF; rw [if_neg m0]
      by_cases e1 : e < -1200
      · have d2 : decide (e < -1200) = true := by simpa using e1
        have q : IsF 9223372036854775808 (mkF true m e) := by rw [hmk, nearest_low true m e m0 hm' (by omega)]; have := isF_word true 0 (Nat.zero_le _); rwa [word_true] at this
        clear hmk
        go_enter Try.func199, Try.ntmps199
        go_wp2
        go_ret
        exact ⟨_, rfl, q, rfl⟩
      · have d2 : decide (e < -1200) = false := by simpa using e1
        by_cases e2 : 2000 < e
        · have d3 : decide (2000 < e) = true := by simpa using e2
          have q : IsF (9223372036854775808 + 9218868437227405312) (mkF true m e) := by rw [hmk, nearest_high true m e m0 hm' (by omega)]; have := isF_word true IR (Nat.le_refl _); rw [word_true, HI.out] at this; exact this
          clear hmk
          go_enter Try.func199, Try.ntmps199
          go_wp2
          go_ret
          exact ⟨_, rfl, q, rfl⟩
        · have d3 : decide (2000 < e) = false := by simpa using e2
          rw [hmk]
          have M0 := hid m0
          clear hmk m0
          go_enter Try.func199, Try.ntmps199
          go_upto_block 0 with fail
          go_cut [1, 2] (fun c d wx => ∃ (M : Nat) (E : Int), c = .int .u64 M ∧ d = .int .i64 E ∧ M ≠ 0 ∧ M < 9007199254740992 ∧ -1200 ≤ E ∧ E ≤ 2000 ∧ (4503599627370496 ≤ M ∨ E ≤ -1074) ∧ D64.nearest true M E = D64.nearest true m e ∧ wx = w)
          case first =>
            go_wp2_with fail
            go_loopw [1, 2] (fun c d wr => ∃ (M : Nat) (E : Int), c = .int .u64 M ∧ d = .int .i64 E ∧ M ≠ 0 ∧ M < 9007199254740992 ∧ -1200 ≤ E ∧ E ≤ 2000 ∧ D64.nearest true M E = D64.nearest true m e ∧ wr = w) (fun _ d _ => (intOf d + 2000).toNat)
            case atStart => exact ⟨m, e, rfl, rfl, M0.out, hm', by omega, by omega, rfl, rfl⟩
            case round =>
              obtain ⟨M, E, rfl, rfl, hM0, hM, hE1, hE2, hN, hwr⟩ := hrel
              have HN := hid hN
              have HM0 := hid hM0
              have HW := hid hwr
              clear hN hM0 hwr
              by_cases c1 : (M : Int) < 4503599627370496
              · have b1 : decide ((M : Int) < 4503599627370496) = true := by simpa using c1
                by_cases c2 : -1074 < E
                · have b2 : decide (-1074 < E) = true := by simpa using c2
                  have r1 : IntKind.u64.wrap ((M : Int) * 2) = ((M * 2 : Nat) : Int) := by rw [IntWalk.u64_in _ (by omega)]; omega
                  go_wp2
                  go_roundw
                  case rel => exact ⟨M * 2, E - 1, by go_num, by go_num, by have := HM0.out; omega, by omega, by omega, by omega, by have := nearest_scale true M 1 E HM0.out; rw [Nat.pow_one] at this; rw [← HN.out]; exact this, HW.out⟩
                  case measure => simp [intOf]; omega
                · have b2 : decide (-1074 < E) = false := by simpa using c2
                  go_wp2
                  go_meet
                  exact ⟨M, E, rfl, rfl, HM0.out, hM, hE1, hE2, .inr (by omega), HN.out, HW.out⟩
              · have b1 : decide ((M : Int) < 4503599627370496) = false := by simpa using c1
                go_wp2
                go_meet
                exact ⟨M, E, rfl, rfl, HM0.out, hM, hE1, hE2, .inl (by omega), HN.out, HW.out⟩
          case rest =>
            obtain ⟨M, E, rfl, rfl, hM0, hM, hE1, hE2, hME, hN, rfl⟩ := hcut
            have HN := hid hN
            have HM0 := hid hM0
            have HME := hid hME
            clear hN hM0 hME
            go_wp2_with fail
            go_loopw [1, 2, 8, 9] (fun c d l h wr => ∃ t : Nat, c = .int .u64 ((hvM M t : Nat) : Int) ∧ d = .int .i64 (E + t) ∧ l = .bool (hvL M t) ∧ h = .bool (hvH M t) ∧ (t ≠ 0 → E + t ≤ -1074) ∧ wr = wc) (fun _ d _ _ _ => (-1074 - intOf d).toNat)
            case atStart => exact ⟨0, by rw [(hv_zero M).1], by simp, by rw [(hv_zero M).2.2], by rw [(hv_zero M).2.1], fun h => absurd rfl h, rfl⟩
            case round =>
              obtain ⟨t, rfl, rfl, rfl, rfl, ht, hwr⟩ := hrel
              have HW := hid hwr
              have HT := hid ht
              have hle := hvM_le M t
              have b0 : decide ((9007199254740992 : Int) ≤ ((hvM M t : Nat) : Int)) = false := by simp; omega
              clear hwr ht
              by_cases c3 : E + t < -1074
              · have b1 : decide (E + t < -1074) = true := by simpa using c3
                have HS := hid (hv_succ M t)
                cases hl : hvL M t
                · have HL := hid hl
                  clear hl
                  go_wp2
                  go_roundw
                  case rel => exact ⟨t + 1, by rw [HS.out.1]; go_num, by go_num, by rw [HS.out.2.2, HL.out]; rfl, by rw [HS.out.2.1, half_eq], fun _ => by omega, HW.out⟩
                  case measure => simp [intOf]; omega
                · have HL := hid hl
                  clear hl
                  go_wp2
                  go_roundw
                  case rel => exact ⟨t + 1, by rw [HS.out.1]; go_num, by go_num, by rw [HS.out.2.2, HL.out]; rfl, by rw [HS.out.2.1, half_eq], fun _ => by omega, HW.out⟩
                  case measure => simp [intOf]; omega
              · have b1 : decide (E + t < -1074) = false := by simpa using c3
                obtain ⟨H, hH⟩ : ∃ H, H = hvM M t := ⟨_, rfl⟩
                have hw := nearest_hv true M E t HM0.out hM (by have := HME.out; omega) (by omega) (fun h => by have := HT.out h; omega)
                have hlow : ∀ K : Nat, H ≤ K → K < 4503599627370496 → E + t = -1074 := fun K h1 h2 => by
                  rcases HME.out with h | h
                  · by_cases h0 : t = 0
                    · subst h0; rw [(hv_zero M).1] at hH; omega
                    · have := HT.out h0; omega
                  · by_cases h0 : t = 0
                    · subst h0; omega
                    · have := HT.out h0; omega
                rw [← hH] at hle hw
                have hFE : E + t ≤ 2000 := by
                  by_cases h0 : t = 0
                  · subst h0; omega
                  · have := HT.out h0; omega
                have Hlow := hid hlow
                simp only [← hH]
                obtain ⟨F, hF⟩ : ∃ F, E + (t : Int) = F := ⟨_, rfl⟩
                have Hlow2 := hid (fun K h1 h2 => hF.symm.trans (Hlow.out K h1 h2))
                rw [hF] at hw b1 c3 hFE
                simp only [hF]
                rw [HN.out] at hw
                clear hlow Hlow hH hF b0
                have hH53 : H < 9007199254740992 := by omega
                cases hh : hvH M t
                · rw [hh] at hw
                  simp only [Bool.false_and, Bool.toNat_false, Nat.add_zero] at hw
                  obtain ⟨K, hK⟩ : ∃ K, K = H := ⟨_, rfl⟩
                  have hK1 : H ≤ K ∧ K ≤ 9007199254740992 := by omega
                  rw [← hK] at hw
                  simp only [← hK]
                  have b0 : decide ((9007199254740992 : Int) ≤ (K : Int)) = false := by simp; omega
                  have b1' : ((K : Int) == 9007199254740992) = false := by rw [beq_eq_false_iff_ne]; omega
                  have hwF := hid hw
                  have t1 : ¬ K = 9007199254740992 := by omega
                  clear hK hh
                  by_cases t2 : 2047 ≤ F + 1075
                  · have b2 : decide (2047 ≤ F + 1075) = true := by simpa using t2
                    have q : ∀ r, r = 9223372036854775808 + 9218868437227405312 → IsF r (D64.nearest true m e) := fun r hr => by
                      have hK52 : 4503599627370496 ≤ K := by
                        rcases Nat.lt_or_ge K 4503599627370496 with h | h
                        · have := Hlow2.out K hK1.1 h; omega
                        · exact h
                      rw [hr, hwF.out, makeW_inf true K F hK52 (by omega)]
                      have := isF_word true IR (Nat.le_refl _); rw [word_true, HI.out] at this; exact this
                    have Q := hid q
                    clear hw q
                    go_wp2
                    go_ret
                    exact ⟨_, rfl, Q.out _ (by first | omega | rfl), HW.out.symm⟩
                  · have b2 : decide (2047 ≤ F + 1075) = false := by simpa using t2
                    by_cases t3 : (K : Int) < 4503599627370496
                    · have b3 : decide ((K : Int) < 4503599627370496) = true := by simpa using t3
                      have q : ∀ r, r = 9223372036854775808 + K → IsF r (D64.nearest true m e) := fun r hr => by
                        rw [hr, hwF.out, Hlow2.out K hK1.1 (by omega), makeW_low true K (by omega)]
                        have := isF_word true K (by have := HI.out; omega); rw [word_true] at this ⊢; try rw [Nat.zero_add]
                        exact this
                      have Q := hid q
                      clear hw q
                      go_wp2
                      go_ret
                      skip
                      exact ⟨_, rfl, Q.out _ (by first | omega | rfl), HW.out.symm⟩
                    · have b3 : decide ((K : Int) < 4503599627370496) = false := by simpa using t3
                      have q : ∀ r, r = 9223372036854775808 + ((F + 1075).toNat * 4503599627370496 + K - 4503599627370496) → IsF r (D64.nearest true m e) := fun r hr => by
                        rw [hr, hwF.out, makeW_mid true K F (by omega) (by omega) (by omega) (by omega)]
                        have := isF_word true ((F + 1075).toNat * BN + K - BN) (by have := HI.out; unfold BN; omega)
                        have e0 : (F + 1075).toNat * BN + K - BN = (F + 1075).toNat * 4503599627370496 + K - 4503599627370496 := by unfold BN; rfl
                        rw [e0] at this ⊢
                        rw [word_true] at this ⊢
                        try rw [Nat.zero_add]
                        exact this
                      have Q := hid q
                      clear hw q
                      go_wp2
                      go_ret
                      skip
                      exact ⟨_, rfl, Q.out _ (by first | omega | rfl), HW.out.symm⟩
                · rw [hh] at hw
                  simp only [Bool.true_and] at hw
                  have b0 : decide ((9007199254740992 : Int) ≤ (H : Int)) = false := by simp; omega
                  cases hl : hvL M t
                  · rw [hl] at hw
                    simp only [Bool.false_or] at hw
                    have hodd := half_eq H
                    cases ho : decide (H % 2 = 1)
                    · rw [ho] at hw hodd
                      simp only [Bool.toNat_false, Nat.add_zero] at hw
                      obtain ⟨K, hK⟩ : ∃ K, K = H := ⟨_, rfl⟩
                      have hK1 : H ≤ K ∧ K ≤ 9007199254740992 := by omega
                      rw [← hK] at hw hodd
                      simp only [← hK]
                      have b0' : decide ((9007199254740992 : Int) ≤ (K : Int)) = false := by simp; omega
                      have b1' : ((K : Int) == 9007199254740992) = false := by rw [beq_eq_false_iff_ne]; omega
                      have hwF := hid hw
                      have t1 : ¬ K = 9007199254740992 := by omega
                      clear hK hh hl ho b0
                      by_cases t2 : 2047 ≤ F + 1075
                      · have b2 : decide (2047 ≤ F + 1075) = true := by simpa using t2
                        have q : ∀ r, r = 9223372036854775808 + 9218868437227405312 → IsF r (D64.nearest true m e) := fun r hr => by
                          have hK52 : 4503599627370496 ≤ K := by
                            rcases Nat.lt_or_ge K 4503599627370496 with h | h
                            · have := Hlow2.out K hK1.1 h; omega
                            · exact h
                          rw [hr, hwF.out, makeW_inf true K F hK52 (by omega)]
                          have := isF_word true IR (Nat.le_refl _); rw [word_true, HI.out] at this; exact this
                        have Q := hid q
                        clear hw q
                        go_wp2
                        go_ret
                        exact ⟨_, rfl, Q.out _ (by first | omega | rfl), HW.out.symm⟩
                      · have b2 : decide (2047 ≤ F + 1075) = false := by simpa using t2
                        by_cases t3 : (K : Int) < 4503599627370496
                        · have b3 : decide ((K : Int) < 4503599627370496) = true := by simpa using t3
                          have q : ∀ r, r = 9223372036854775808 + K → IsF r (D64.nearest true m e) := fun r hr => by
                            rw [hr, hwF.out, Hlow2.out K hK1.1 (by omega), makeW_low true K (by omega)]
                            have := isF_word true K (by have := HI.out; omega); rw [word_true] at this ⊢; try rw [Nat.zero_add]
                            exact this
                          have Q := hid q
                          clear hw q
                          go_wp2
                          go_ret
                          skip
                          exact ⟨_, rfl, Q.out _ (by first | omega | rfl), HW.out.symm⟩
                        · have b3 : decide ((K : Int) < 4503599627370496) = false := by simpa using t3
                          have q : ∀ r, r = 9223372036854775808 + ((F + 1075).toNat * 4503599627370496 + K - 4503599627370496) → IsF r (D64.nearest true m e) := fun r hr => by
                            rw [hr, hwF.out, makeW_mid true K F (by omega) (by omega) (by omega) (by omega)]
                            have := isF_word true ((F + 1075).toNat * BN + K - BN) (by have := HI.out; unfold BN; omega)
                            have e0 : (F + 1075).toNat * BN + K - BN = (F + 1075).toNat * 4503599627370496 + K - 4503599627370496 := by unfold BN; rfl
                            rw [e0] at this ⊢
                            rw [word_true] at this ⊢
                            try rw [Nat.zero_add]
                            exact this
                          have Q := hid q
                          clear hw q
                          go_wp2
                          go_ret
                          skip
                          exact ⟨_, rfl, Q.out _ (by first | omega | rfl), HW.out.symm⟩
                    · rw [ho] at hw hodd
                      simp only [Bool.toNat_true] at hw
                      obtain ⟨K, hK⟩ : ∃ K, K = H + 1 := ⟨_, rfl⟩
                      have hK1 : H ≤ K ∧ K ≤ 9007199254740992 := by omega
                      rw [← hK] at hw
                      have rK : IntKind.u64.wrap ((H : Int) + 1) = (K : Int) := by rw [IntWalk.u64_in _ (by omega)]; omega
                      clear hK hh hl ho
                      have hwF := hid hw
                      by_cases t1 : K = 9007199254740992
                      · subst t1
                        by_cases t2 : 2047 ≤ F + 1 + 1075
                        · have b2 : decide (2047 ≤ F + 1 + 1075) = true := by simpa using t2
                          have q : ∀ r, r = 9223372036854775808 + 9218868437227405312 → IsF r (D64.nearest true m e) := fun r hr => by
                            rw [hr, hwF.out, show (9007199254740992 : Nat) = 2 ^ 53 from by decide, makeW_top true F (by omega), makeW_inf true _ _ (Nat.le_refl _) (by omega)]
                            have := isF_word true IR (Nat.le_refl _); rw [word_true, HI.out] at this; exact this
                          have Q := hid q
                          clear hw q
                          go_wp2
                          go_ret
                          exact ⟨_, rfl, Q.out _ (by first | omega | rfl), HW.out.symm⟩
                        · have b2 : decide (2047 ≤ F + 1 + 1075) = false := by simpa using t2
                          have q : ∀ r, r = 9223372036854775808 + (F + 1 + 1075).toNat * 4503599627370496 → IsF r (D64.nearest true m e) := fun r hr => by
                            rw [hr, hwF.out, show (9007199254740992 : Nat) = 2 ^ 53 from by decide, makeW_top true F (by omega), makeW_mid true (2 ^ 52) (F + 1) (Nat.le_refl _) (by decide) (by omega) (by omega)]
                            have := isF_word true ((F + 1 + 1075).toNat * BN + 2 ^ 52 - BN) (by have := HI.out; unfold BN; omega)
                            rw [word_true] at this
                            have e0 : (F + 1 + 1075).toNat * BN + 2 ^ 52 - BN = (F + 1 + 1075).toNat * 4503599627370496 := by unfold BN; omega
                            rw [e0] at this ⊢; try rw [Nat.zero_add]
                            rw [word_true]; exact this
                          have Q := hid q
                          clear hw q
                          go_wp2
                          go_ret
                          skip
                          exact ⟨_, rfl, Q.out _ (by first | omega | rfl), HW.out.symm⟩
                      · have b1' : ((K : Int) == 9007199254740992) = false := by rw [beq_eq_false_iff_ne]; omega
                        by_cases t2 : 2047 ≤ F + 1075
                        · have b2 : decide (2047 ≤ F + 1075) = true := by simpa using t2
                          have q : ∀ r, r = 9223372036854775808 + 9218868437227405312 → IsF r (D64.nearest true m e) := fun r hr => by
                            have hK52 : 4503599627370496 ≤ K := by
                              rcases Nat.lt_or_ge K 4503599627370496 with h | h
                              · have := Hlow2.out K hK1.1 h; omega
                              · exact h
                            rw [hr, hwF.out, makeW_inf true K F hK52 (by omega)]
                            have := isF_word true IR (Nat.le_refl _); rw [word_true, HI.out] at this; exact this
                          have Q := hid q
                          clear hw q
                          go_wp2
                          go_ret
                          exact ⟨_, rfl, Q.out _ (by first | omega | rfl), HW.out.symm⟩
                        · have b2 : decide (2047 ≤ F + 1075) = false := by simpa using t2
                          by_cases t3 : (K : Int) < 4503599627370496
                          · have b3 : decide ((K : Int) < 4503599627370496) = true := by simpa using t3
                            have q : ∀ r, r = 9223372036854775808 + K → IsF r (D64.nearest true m e) := fun r hr => by
                              rw [hr, hwF.out, Hlow2.out K hK1.1 (by omega), makeW_low true K (by omega)]
                              have := isF_word true K (by have := HI.out; omega); rw [word_true] at this ⊢; try rw [Nat.zero_add]
                              exact this
                            have Q := hid q
                            clear hw q
                            go_wp2
                            go_ret
                            skip
                            exact ⟨_, rfl, Q.out _ (by first | omega | rfl), HW.out.symm⟩
                          · have b3 : decide ((K : Int) < 4503599627370496) = false := by simpa using t3
                            have q : ∀ r, r = 9223372036854775808 + ((F + 1075).toNat * 4503599627370496 + K - 4503599627370496) → IsF r (D64.nearest true m e) := fun r hr => by
                              rw [hr, hwF.out, makeW_mid true K F (by omega) (by omega) (by omega) (by omega)]
                              have := isF_word true ((F + 1075).toNat * BN + K - BN) (by have := HI.out; unfold BN; omega)
                              have e0 : (F + 1075).toNat * BN + K - BN = (F + 1075).toNat * 4503599627370496 + K - 4503599627370496 := by unfold BN; rfl
                              rw [e0] at this ⊢
                              rw [word_true] at this ⊢
                              try rw [Nat.zero_add]
                              exact this
                            have Q := hid q
                            clear hw q
                            go_wp2
                            go_ret
                            skip
                            exact ⟨_, rfl, Q.out _ (by first | omega | rfl), HW.out.symm⟩
                  · rw [hl] at hw
                    simp only [Bool.true_or, Bool.toNat_true] at hw
                    obtain ⟨K, hK⟩ : ∃ K, K = H + 1 := ⟨_, rfl⟩
                    have hK1 : H ≤ K ∧ K ≤ 9007199254740992 := by omega
                    rw [← hK] at hw
                    have rK : IntKind.u64.wrap ((H : Int) + 1) = (K : Int) := by rw [IntWalk.u64_in _ (by omega)]; omega
                    clear hK hh hl
                    have hwF := hid hw
                    by_cases t1 : K = 9007199254740992
                    · subst t1
                      by_cases t2 : 2047 ≤ F + 1 + 1075
                      · have b2 : decide (2047 ≤ F + 1 + 1075) = true := by simpa using t2
                        have q : ∀ r, r = 9223372036854775808 + 9218868437227405312 → IsF r (D64.nearest true m e) := fun r hr => by
                          rw [hr, hwF.out, show (9007199254740992 : Nat) = 2 ^ 53 from by decide, makeW_top true F (by omega), makeW_inf true _ _ (Nat.le_refl _) (by omega)]
                          have := isF_word true IR (Nat.le_refl _); rw [word_true, HI.out] at this; exact this
                        have Q := hid q
                        clear hw q
                        go_wp2
                        go_ret
                        exact ⟨_, rfl, Q.out _ (by first | omega | rfl), HW.out.symm⟩
                      · have b2 : decide (2047 ≤ F + 1 + 1075) = false := by simpa using t2
                        have q : ∀ r, r = 9223372036854775808 + (F + 1 + 1075).toNat * 4503599627370496 → IsF r (D64.nearest true m e) := fun r hr => by
                          rw [hr, hwF.out, show (9007199254740992 : Nat) = 2 ^ 53 from by decide, makeW_top true F (by omega), makeW_mid true (2 ^ 52) (F + 1) (Nat.le_refl _) (by decide) (by omega) (by omega)]
                          have := isF_word true ((F + 1 + 1075).toNat * BN + 2 ^ 52 - BN) (by have := HI.out; unfold BN; omega)
                          rw [word_true] at this
                          have e0 : (F + 1 + 1075).toNat * BN + 2 ^ 52 - BN = (F + 1 + 1075).toNat * 4503599627370496 := by unfold BN; omega
                          rw [e0] at this ⊢; try rw [Nat.zero_add]
                          rw [word_true]; exact this
                        have Q := hid q
                        clear hw q
                        go_wp2
                        go_ret
                        skip
                        exact ⟨_, rfl, Q.out _ (by first | omega | rfl), HW.out.symm⟩
                    · have b1' : ((K : Int) == 9007199254740992) = false := by rw [beq_eq_false_iff_ne]; omega
                      by_cases t2 : 2047 ≤ F + 1075
                      · have b2 : decide (2047 ≤ F + 1075) = true := by simpa using t2
                        have q : ∀ r, r = 9223372036854775808 + 9218868437227405312 → IsF r (D64.nearest true m e) := fun r hr => by
                          have hK52 : 4503599627370496 ≤ K := by
                            rcases Nat.lt_or_ge K 4503599627370496 with h | h
                            · have := Hlow2.out K hK1.1 h; omega
                            · exact h
                          rw [hr, hwF.out, makeW_inf true K F hK52 (by omega)]
                          have := isF_word true IR (Nat.le_refl _); rw [word_true, HI.out] at this; exact this
                        have Q := hid q
                        clear hw q
                        go_wp2
                        go_ret
                        exact ⟨_, rfl, Q.out _ (by first | omega | rfl), HW.out.symm⟩
                      · have b2 : decide (2047 ≤ F + 1075) = false := by simpa using t2
                        by_cases t3 : (K : Int) < 4503599627370496
                        · have b3 : decide ((K : Int) < 4503599627370496) = true := by simpa using t3
                          have q : ∀ r, r = 9223372036854775808 + K → IsF r (D64.nearest true m e) := fun r hr => by
                            rw [hr, hwF.out, Hlow2.out K hK1.1 (by omega), makeW_low true K (by omega)]
                            have := isF_word true K (by have := HI.out; omega); rw [word_true] at this ⊢; try rw [Nat.zero_add]
                            exact this
                          have Q := hid q
                          clear hw q
                          go_wp2
                          go_ret
                          skip
                          exact ⟨_, rfl, Q.out _ (by first | omega | rfl), HW.out.symm⟩
                        · have b3 : decide ((K : Int) < 4503599627370496) = false := by simpa using t3
                          have q : ∀ r, r = 9223372036854775808 + ((F + 1075).toNat * 4503599627370496 + K - 4503599627370496) → IsF r (D64.nearest true m e) := fun r hr => by
                            rw [hr, hwF.out, makeW_mid true K F (by omega) (by omega) (by omega) (by omega)]
                            have := isF_word true ((F + 1075).toNat * BN + K - BN) (by have := HI.out; unfold BN; omega)
                            have e0 : (F + 1075).toNat * BN + K - BN = (F + 1075).toNat * 4503599627370496 + K - 4503599627370496 := by unfold BN; rfl
                            rw [e0] at this ⊢
                            rw [word_true] at this ⊢
                            try rw [Nat.zero_add]
                            exact this
                          have Q := hid q
                          clear hw q
                          go_wp2
                          go_ret
                          skip
                          exact ⟨_, rfl, Q.out _ (by first | omega | rfl), HW.out.symm⟩
end Go.Proofs.Ytcmggfpcbijcjaa
end
section
/-
  Contracts: math.IsInf, IsNaN, Inf, Copysign, normalize.
-/
set_option linter.unusedSimpArgs false
set_option linter.unusedVariables false
open Go Go.RowKit Sedge
namespace Go.Proofs.Ytcmggfpcbijcjaa
theorem i64_and2047 (n : Int) : bits .and .i64 n 2047 = n % 2048 := by
  have h : (BitVec.ofInt 64 2047).toNat = 2 ^ 11 - 1 := by decide
  have key : (BitVec.ofInt 64 n &&& BitVec.ofInt 64 2047).toNat = (n % ((2 ^ 64 : Nat) : Int)).toNat % 2 ^ 11 := by
    rw [BitVec.toNat_and, BitVec.toNat_ofInt, h, Nat.and_two_pow_sub_one_eq_mod]
  show IntKind.i64.wrap ((BitVec.ofInt 64 n &&& BitVec.ofInt 64 2047).toNat : Nat) = n % 2048
  rw [key, IntKind.wrap_i64]
  omega
theorem and_p63_low (r : Nat) (h : r < 2 ^ 63) : r &&& 2 ^ 63 = 0 := by
  apply Nat.eq_of_testBit_eq
  intro i
  rw [Nat.testBit_and, Nat.testBit_two_pow, Nat.zero_testBit]
  by_cases hi : 63 = i
  · subst hi; rw [Nat.testBit_lt_two_pow h]; rfl
  · simp [hi]
theorem and_p63 (q r : Nat) (hq : q = 0 ∨ q = 1) (h : r < 2 ^ 63) : (2 ^ 63 * q + r) &&& 2 ^ 63 = 2 ^ 63 * q := by
  rcases hq with rfl | rfl
  · rw [Nat.mul_zero, Nat.zero_add]; exact and_p63_low r h
  · rw [Nat.two_pow_add_eq_or_of_lt h, Nat.and_or_distrib_right, and_p63_low r h, Nat.or_zero, Nat.mul_one, Nat.and_self]
/-- Struck out: the exponent's digits. -/
theorem strike (q X f : Nat) (hq : q = 0 ∨ q = 1) (hX : X < 2048) (hf : f < 2 ^ 52) : (2 ^ 63 * q + (X * 2 ^ 52 + f)) &&& 9227875636482146303 = 2 ^ 63 * q + f := by
  have hr : X * 2 ^ 52 + f < 2 ^ 63 := by have : (2:Nat) ^ 52 = 4503599627370496 := by decide
                                          have : (2:Nat) ^ 63 = 9223372036854775808 := by decide
                                          omega
  have hM : 9227875636482146303 = 2 ^ 63 ||| (2 ^ 52 - 1) := by decide
  rw [hM, Nat.and_or_distrib_left, and_p63 q _ hq hr, Nat.and_two_pow_sub_one_eq_mod]
  have hm : (2 ^ 63 * q + (X * 2 ^ 52 + f)) % 2 ^ 52 = f := by
    have e : 2 ^ 63 * q + (X * 2 ^ 52 + f) = 2 ^ 52 * (2048 * q + X) + f := by
      have : (2:Nat) ^ 52 = 4503599627370496 := by decide
      have : (2:Nat) ^ 63 = 9223372036854775808 := by decide
      omega
    rw [e, Nat.mul_add_mod, Nat.mod_eq_of_lt hf]
  rw [hm, ← Nat.two_pow_add_eq_or_of_lt (Nat.lt_trans hf (by decide))]
/-- And laid anew. -/
theorem lay_in (q X f : Nat) (hq : q = 0 ∨ q = 1) (hX : X < 2048) (hf : f < 2 ^ 52) : (2 ^ 63 * q + f) ||| (X * 2 ^ 52) = 2 ^ 63 * q + (X * 2 ^ 52 + f) := by
  have p52 : (2:Nat) ^ 52 = 4503599627370496 := by decide
  have p63 : (2:Nat) ^ 63 = 9223372036854775808 := by decide
  have e1 : 2 ^ 63 * q + f = 2 ^ 52 * (2048 * q) + f := by omega
  have e2 : X * 2 ^ 52 = X <<< 52 := (Nat.shiftLeft_eq X 52).symm
  have e3 : 2 ^ 52 * (2048 * q) = (2048 * q) <<< 52 := by rw [Nat.shiftLeft_eq, Nat.mul_comm]
  have e4 : 2048 * q ||| X = 2048 * q + X := by
    have := Nat.two_pow_add_eq_or_of_lt (i := 11) (b := X) hX q
    exact this.symm
  rw [e1, Nat.two_pow_add_eq_or_of_lt hf, Nat.or_assoc, Nat.or_comm f, ← Nat.or_assoc, e3, e2, ← Nat.shiftLeft_or_distrib, e4, Nat.shiftLeft_eq, Nat.mul_comm (2048 * q + X), ← Nat.two_pow_add_eq_or_of_lt hf]
  omega
def sN (s : Bool) : Nat := if s then 1 else 0
theorem sN_or (s : Bool) : sN s = 0 ∨ sN s = 1 := by cases s <;> simp [sN]
theorem word_sN (s : Bool) (n : Nat) : D64.word s n = 2 ^ 63 * sN s + n := by
  cases s
  · rw [word_false]; simp [sN]
  · rw [word_true]; simp [sN]
theorem neg_word (b : Nat) (hb : b < 2 ^ 64) : b = 2 ^ 63 * sN (pNeg b) + b % 2 ^ 63 := by
  have h := Nat.div_add_mod b (2 ^ 63)
  have hq : b / 2 ^ 63 = sN (pNeg b) := by
    have hs : SW = 2 ^ 63 := by decide +kernel
    unfold pNeg sN
    rw [hs]
    by_cases h1 : b / 2 ^ 63 = 1
    · simp [h1]
    · simp only [h1, decide_false, Bool.false_eq_true, if_false]
      have : b / 2 ^ 63 < 2 := Nat.div_lt_of_lt_mul (by rw [← Nat.pow_succ]; exact hb)
      omega
  rw [hq] at h; exact h.symm
theorem sign_bits (b : Nat) (hb : b < 2 ^ 64) : bits .or .u64 (bits .andNot .u64 0 9223372036854775808) (bits .and .u64 (b : Int) 9223372036854775808) = ((D64.word (pNeg b) 0 : Nat) : Int) := by
  have hb' : b < 18446744073709551616 := hb
  rw [show bits .andNot .u64 0 9223372036854775808 = ((0 : Nat) : Int) from u64_andNot_nat 0 9223372036854775808 (by decide) (by decide)]
  rw [show bits .and .u64 (b : Int) 9223372036854775808 = ((b &&& 2 ^ 63 : Nat) : Int) from u64_and_nat b 9223372036854775808 hb' (by decide)]
  have h1 : b &&& 2 ^ 63 = 2 ^ 63 * sN (pNeg b) := by
    conv => lhs; rw [neg_word b hb]
    exact and_p63 _ _ (sN_or _) (Nat.mod_lt _ (by decide))
  have h2 : 2 ^ 63 * sN (pNeg b) < 18446744073709551616 := by rcases sN_or (pNeg b) with h | h <;> rw [h] <;> decide
  rw [h1, u64_or_nat 0 _ (by decide) h2, Nat.zero_or, word_sN, Nat.add_zero]
set_option maxRecDepth 100000 in
theorem isinf_any (b : Nat) (w : World) (hb : b < 2 ^ 64) : Calls Try.prog 216 #[.float .f64 b, .int .i64 0] w (fun e w' => e = .returned (.bool (decide (pKind b = 1))) ∧ w = w') := by
  have hb' : b < 18446744073709551616 := hb
  have h : (FloatKind.f64.format.order (b % SW) 9218868437227405311 == some Ordering.gt) = decide (pKind b = 1) := ord_max b hb
  obtain ⟨v, hv⟩ : ∃ v, v = decide (pKind b = 1) := ⟨_, rfl⟩
  rw [← hv] at h ⊢
  clear hv hb
  go_enter Try.func216, Try.ntmps216
  go_wp2_with (first | (go_at_call 164; ((with_reducible refine (mabs_bits b _ hb').mono ?_); rintro e w1 ⟨rfl, rfl⟩)))
  all_goals go_ret
  all_goals exact ⟨rfl, rfl⟩
set_option maxRecDepth 100000 in
theorem isnan_any (b : Nat) (w : World) (hb : b < 2 ^ 64) : Calls Try.prog 223 #[.float .f64 b] w (fun e w' => e = .returned (.bool (decide (pKind b = 2))) ∧ w = w') := by
  have h : (FloatKind.f64.format.order b b != some Ordering.eq) = decide (pKind b = 2) := (order_self b).trans (isNan_kind b hb)
  obtain ⟨v, hv⟩ : ∃ v, v = decide (pKind b = 2) := ⟨_, rfl⟩
  rw [← hv] at h ⊢
  clear hv hb
  go_enter Try.func223, Try.ntmps223
  go_wp2
  go_ret
  exact ⟨rfl, rfl⟩
set_option maxRecDepth 100000 in
theorem inf_any (s : Bool) (w : World) : Calls Try.prog 226 #[.int .i64 (if s then -1 else 1)] w (fun e w' => e = .returned (.float .f64 (D64.word s IR)) ∧ w = w') := by
  have hI : IR = 9218868437227405312 := by decide +kernel
  cases s
  · rw [word_false, hI]
    go_enter Try.func226, Try.ntmps226
    go_wp2
    go_ret
    exact ⟨rfl, rfl⟩
  · rw [word_true, hI]
    go_enter Try.func226, Try.ntmps226
    go_wp2
    go_ret
    exact ⟨rfl, rfl⟩
set_option maxRecDepth 100000 in
theorem copysign_any (b : Nat) (w : World) (hb : b < 2 ^ 64) : Calls Try.prog 225 #[.float .f64 0, .float .f64 b] w (fun e w' => e = .returned (.float .f64 (D64.word (pNeg b) 0)) ∧ w = w') := by
  have h := sign_bits b hb
  go_enter Try.func225, Try.ntmps225
  go_wp2
  go_ret
  exact ⟨by first | rfl | (simp only [Int.toNat_natCast]), rfl⟩
/-- Made normal. -/
def nrmF (x : Nat) : Nat := if expo x = 0 then fmul x 4841369599423283200 else x
def nrmE (x : Nat) : Int := if expo x = 0 then -52 else 0
set_option maxRecDepth 100000 in
theorem normalize_any (b : Nat) (w : World) (hb : b < 2 ^ 64) (hk : pKind b = 0) : Calls Try.prog 224 #[.float .f64 b] w (fun e w' => ∃ r, e = .returned (.tuple #[.float .f64 r, .int .i64 (nrmE b)]) ∧ IsF r (nrmF b) ∧ ∃ o n, w' = ext w o n) := by
  have hb' : b < 18446744073709551616 := hb
  have hs : IsF b b := by
    have := isF_self hb
    have hn : isNan b = false := by rw [isNan_kind b hb, hk]; decide
    rwa [canon_not hn] at this
  have hc : IsF 4841369599423283200 4841369599423283200 := by decide +kernel
  have h : (FloatKind.f64.format.order (b % SW) 4503599627370496 == some Ordering.lt) = decide (expo b = 0) := ord_min b hb hk
  by_cases he : expo b = 0
  · have hl : (FloatKind.f64.format.order (b % SW) 4503599627370496 == some Ordering.lt) = true := by rw [h]; simpa using he
    have e1 : nrmE b = -52 := by unfold nrmE; rw [if_pos he]
    have e2 : nrmF b = fmul b 4841369599423283200 := by unfold nrmF; rw [if_pos he]
    rw [e1, e2]
    clear h he e1 e2 hk
    go_enter Try.func224, Try.ntmps224
    go_wp2_with (first | (go_at_call 164; ((with_reducible refine (mabs_bits b _ hb').mono ?_); rintro e w1 ⟨rfl, rfl⟩)) | ((with_reducible refine upon_id ?_); refine upon_fop rfl (by assumption) (by assumption) ?_; intro rr nn hr))
    refine bodyPost_ret (v := .tuple #[.float .f64 rr, .int .i64 (-52)]) (by simp [results, Try.results224, go_sem, *]) rfl ?_
    exact ⟨_, rfl, hr, by (show Grew _ _; repeat (first | (with_reducible exact Grew.refl _) | (with_reducible assumption) | (with_reducible refine Grew.ext ?_ _ _) | (with_reducible refine Grew.alloc ?_ _) | ((with_reducible refine Grew.setCell ?_ ?_ _); rotate_left; (focus (dsimp only; first | omega | (simp only [size_ext, World.size_alloc, Array.size_append]; omega)))) | (with_reducible refine Grew.drewN ?_ _) | (with_reducible refine Grew.drew ?_)))⟩
  · have hl : (FloatKind.f64.format.order (b % SW) 4503599627370496 == some Ordering.lt) = false := by rw [h]; simpa using he
    have e1 : nrmE b = 0 := by unfold nrmE; rw [if_neg he]
    have e2 : nrmF b = b := by unfold nrmF; rw [if_neg he]
    rw [e1, e2]
    clear h he e1 e2 hk
    go_enter Try.func224, Try.ntmps224
    go_wp2_with (first | (go_at_call 164; ((with_reducible refine (mabs_bits b _ hb').mono ?_); rintro e w1 ⟨rfl, rfl⟩)))
    refine bodyPost_ret (v := .tuple #[.float .f64 b, .int .i64 0]) (by simp [results, Try.results224, go_sem, *]) rfl ?_
    exact ⟨_, rfl, hs, by (show Grew _ _; repeat (first | (with_reducible exact Grew.refl _) | (with_reducible assumption) | (with_reducible refine Grew.ext ?_ _ _) | (with_reducible refine Grew.alloc ?_ _) | ((with_reducible refine Grew.setCell ?_ ?_ _); rotate_left; (focus (dsimp only; first | omega | (simp only [size_ext, World.size_alloc, Array.size_append]; omega)))) | (with_reducible refine Grew.drewN ?_ _) | (with_reducible refine Grew.drew ?_)))⟩
end Go.Proofs.Ytcmggfpcbijcjaa
end
section
/-
  Contract: math.Ldexp.
-/
set_option linter.unusedSimpArgs false
set_option linter.unusedVariables false
open Go Go.RowKit Sedge Ieee
namespace Go.Proofs.Ytcmggfpcbijcjaa
/-- x times 2^k. -/
def ldF (x : Nat) (k : Int) : Nat := if pKind x = 0 ∧ pMag x ≠ 0 then D64.nearest (pNeg x) (pMag x) (pExp x + k) else x
theorem isF_word_eq {r : Nat} {s : Bool} {n : Nat} (hn : n ≤ IR) (h : IsF r (D64.word s n)) : r = D64.word s n := by
  have h2 := h.2
  have : isNan r = false := by rw [← isNan_canon, h2]; exact read_word_notnan s n hn
  rw [canon_not this] at h2
  exact h2
theorem isF_of_kind {b x : Nat} (h : IsF b x) (hk : pKind b ≠ 2) : b = x := by
  have : isNan b = false := by rw [isNan_kind b h.1]; simpa using hk
  rw [← h.2, canon_not this]
theorem order_none (b c : Nat) (hb : b < 2 ^ 64) (hk : pKind b = 2) : D64.order b c = none := by
  unfold Format.order
  refine order_nan_left ?_
  rw [read_eq b hb, if_neg (by omega), if_neg (by omega)]; rfl
theorem order_inf0 (b : Nat) (hb : b < 2 ^ 64) (hk : pKind b = 1) : (D64.order b 0 == some .eq) = false := by
  unfold Format.order
  rw [read_eq b hb, if_neg (by omega), if_pos hk, read_zero]
  cases pNeg b <;> rfl
theorem nearest_isF (s : Bool) (m : Nat) (e : Int) : IsF (D64.nearest s m e) (D64.nearest s m e) := by
  have hn := nearest_notnan s m e
  refine ⟨?_, canon_not hn⟩
  by_cases hm : m = 0
  · have : D64.nearest s m e = D64.word s 0 := by unfold Format.nearest; rw [if_pos (by simpa using hm)]
    rw [this]; exact (isF_word s 0 (Nat.zero_le _)).1
  · rw [nearest_eq s m e hm]; exact (isF_word s _ (Nat.min_le_right _ _)).1
theorem or_word (s : Bool) (X' f G : Nat) (hG : G = 2 ^ 63 * sN s + f) (hX : X' < 2048) (hf : f < BN) : bits .or .u64 (G : Int) ((X' * 4503599627370496 : Nat) : Int) = ((D64.word s (X' * BN + f) : Nat) : Int) := by
  have hf' : f < 4503599627370496 := hf
  have p52 : (2:Nat) ^ 52 = 4503599627370496 := by decide
  have hl := lay_in (sN s) X' f (sN_or s) hX (by rw [p52]; exact hf')
  rw [p52, ← hG] at hl
  have hG2 : G < 18446744073709551616 := by
    have p63 : (2:Nat) ^ 63 = 9223372036854775808 := by decide
    rw [p63] at hG
    rcases sN_or s with h | h <;> rw [h] at hG <;> omega
  rw [u64_or_nat G _ hG2 (by omega), hl, word_sN, show BN = 4503599627370496 from by decide +kernel]
theorem mid_le (X f : Nat) (h : X ≤ 2046) (hf : f < BN) : X * BN + f ≤ IR := by
  have hI : IR = 9218868437227405312 := by decide +kernel
  rw [hI]
  unfold BN at *
  omega
set_option maxRecDepth 100000 in
set_option maxHeartbeats 1000000 in
theorem ldexp_back (b : Nat) (k : Int) (w : World) (hb : b < 2 ^ 64) (h : pKind b = 1 ∨ pKind b = 2 ∨ (pKind b = 0 ∧ pMag b = 0)) : Calls Try.prog 215 #[.float .f64 b, .int .i64 k] w (fun e w' => e = .returned (.float .f64 b) ∧ w = w') := by
  rcases h with h | h | h
  · have d1 : (FloatKind.f64.format.order b 0 == some Ordering.eq) = false := order_inf0 b hb h
    have d2 : decide (pKind b = 1) = true := by simpa using h
    clear h
    go_enter Try.func215, Try.ntmps215
    go_wp2_with (first | (go_at_call 216; ((with_reducible refine (isinf_any b _ hb).mono ?_); rintro e w1 ⟨rfl, rfl⟩)) | (go_at_call 223; ((with_reducible refine (isnan_any b _ hb).mono ?_); rintro e w1 ⟨rfl, rfl⟩)))
    go_ret
    exact ⟨rfl, rfl⟩
  · have d1 : (FloatKind.f64.format.order b 0 == some Ordering.eq) = false := by
      show (D64.order b 0 == some Ordering.eq) = false
      rw [order_none b 0 hb h]; rfl
    have d2 : decide (pKind b = 1) = false := by rw [h]; decide
    have d3 : decide (pKind b = 2) = true := by rw [h]; decide
    clear h
    go_enter Try.func215, Try.ntmps215
    go_wp2_with (first | (go_at_call 216; ((with_reducible refine (isinf_any b _ hb).mono ?_); rintro e w1 ⟨rfl, rfl⟩)) | (go_at_call 223; ((with_reducible refine (isnan_any b _ hb).mono ?_); rintro e w1 ⟨rfl, rfl⟩)))
    go_ret
    exact ⟨rfl, rfl⟩
  · have d1 : (FloatKind.f64.format.order b 0 == some Ordering.eq) = true := by
      show (D64.order b 0 == some Ordering.eq) = true
      rw [ord_zero_eq b hb h.1, h.2]; decide
    clear h
    go_enter Try.func215, Try.ntmps215
    go_wp2
    go_ret
    exact ⟨rfl, rfl⟩
set_option maxRecDepth 100000 in
set_option maxHeartbeats 2000000 in
/-- Of a finite number that isn't 0. -/
theorem ldexp_num (b : Nat) (k : Int) (w : World) (hb : b < 2 ^ 64) (hk : -5000 ≤ k ∧ k ≤ 5000) (h0 : pKind b = 0) (hm : pMag b ≠ 0) :
    Calls Try.prog 215 #[.float .f64 b, .int .i64 k] w (fun e w' => ∃ r, e = .returned (.float .f64 r) ∧ IsF r (D64.nearest (pNeg b) (pMag b) (pExp b + k)) ∧ ∃ o n, w' = ext w o n) := by
  have hI : IR = 9218868437227405312 := by decide +kernel
  obtain ⟨X, f, hX1, hX2, hf, hY, hN⟩ : ∃ X f, 1 ≤ X ∧ X ≤ 2046 ∧ f < BN ∧ nrmF b = D64.word (pNeg b) (X * BN + f) ∧ ∀ k : Int, D64.nearest (pNeg b) (pMag b) (pExp b + k) = D64.nearest (pNeg b) (BN + f) (k + nrmE b + X - 1023 - 52) := by
    by_cases he : expo b = 0
    · obtain ⟨X, f, q1, q2, q3, q4, q5⟩ := normal_sub hb h0 hm he
      exact ⟨X, f, q1, q2, q3, by unfold nrmF; rw [if_pos he, q4], fun k => by unfold nrmE; rw [if_pos he, q5 k]; congr 1⟩
    · obtain ⟨X, f, q1, q2, q3, q4, q5⟩ := normal_of hb h0 hm he
      exact ⟨X, f, q1, q2, q3, by unfold nrmF; rw [if_neg he, ← q4], fun k => by unfold nrmE; rw [if_neg he, q5 k]; congr 1; omega⟩
  rw [hN k]
  have hnE : nrmE b = 0 ∨ nrmE b = -52 := by unfold nrmE; split <;> simp
  obtain ⟨E, hE⟩ : ∃ E, E = nrmE b := ⟨_, rfl⟩
  obtain ⟨s, hs⟩ : ∃ s, s = pNeg b := ⟨_, rfl⟩
  obtain ⟨Y, hYY⟩ : ∃ Y, Y = D64.word s (X * BN + f) := ⟨_, rfl⟩
  have hYf : X * BN + f ≤ IR := by rw [hI]; unfold BN at *; omega
  have hYlt : Y < 2 ^ 64 := by rw [hYY]; exact (isF_word s _ hYf).1
  have hnorm : ∀ w', Calls Try.prog 224 #[.float .f64 b] w' (fun e w2 => e = .returned (.tuple #[.float .f64 Y, .int .i64 E]) ∧ ∃ o n, w2 = ext w' o n) := fun w' => by
    refine (normalize_any b w' hb h0).mono fun e w2 hh => ?_
    obtain ⟨r, rfl, h1, h2⟩ := hh
    rw [hY, ← hs] at h1
    rw [isF_word_eq hYf h1, ← hYY, ← hE]
    exact ⟨rfl, h2⟩
  rw [← hE] at hnE ⊢
  rw [← hs]
  have d1 : (FloatKind.f64.format.order b 0 == some Ordering.eq) = false := by
    show (D64.order b 0 == some Ordering.eq) = false
    rw [ord_zero_eq b hb h0]; simpa using hm
  have d2 : decide (pKind b = 1) = false := by rw [h0]; decide
  have d3 : decide (pKind b = 2) = false := by rw [h0]; decide
  have hB := hid hb
  clear hY hN hE hs h0 hm
  have Hb := hid hYY
  have hYlt' : Y < 18446744073709551616 := hYlt
  have hexp : (Y : Int) / 4503599627370496 % 2048 = X := by
    rw [hYY, word_sN]
    have p63 : (2:Nat) ^ 63 = 9223372036854775808 := by decide
    unfold BN at *
    rcases sN_or s with h | h <;> rw [h] <;> omega
  have hsh := i64_and2047 ((Y : Int) / 4503599627370496)
  rw [hexp] at hsh
  obtain ⟨T, hT⟩ : ∃ T : Int, T = k + E + X - 1023 := ⟨_, rfl⟩
  have r1 : IntKind.i64.wrap ((X : Int) - 1023) = X - 1023 := IntWalk.i64_in _ (by omega)
  have r2 : IntKind.i64.wrap (k + E) = k + E := IntWalk.i64_in _ (by omega)
  have r3 : IntKind.i64.wrap (k + E + ((X : Int) - 1023)) = T := by rw [IntWalk.i64_in _ (by omega)]; omega
  have hpY : pNeg Y = s := by
    have hs : SW = 2 ^ 63 := by decide +kernel
    rw [hYY, word_sN]
    unfold pNeg
    rw [hs]
    have p63 : (2:Nat) ^ 63 = 9223372036854775808 := by decide
    have : (2 ^ 63 * sN s + (X * BN + f)) / 2 ^ 63 = sN s := by
      unfold BN at *
      rcases sN_or s with h | h <;> rw [h] <;> omega
    rw [this]
    cases s <;> decide
  have hkY : pKind Y = 0 ∧ pMag Y ≠ 0 := by
    have hr := read_mid s X f hX1 hX2 hf
    rw [← hYY, read_eq Y hYlt] at hr
    by_cases h : pKind Y = 0
    · rw [if_pos h] at hr
      simp only [Datum.number.injEq] at hr
      exact ⟨h, by rw [hr.2.1]; unfold BN; omega⟩
    · rw [if_neg h] at hr
      split at hr <;> cases hr
  have hlt : (FloatKind.f64.format.order Y 0 == some Ordering.lt) = s := by
    show (D64.order Y 0 == some Ordering.lt) = s
    rw [ord_zero_lt Y hYlt hkY.1 hkY.2, hpY]
  have hTT : k + E + (X : Int) - 1023 - 52 = T - 52 := by omega
  rw [hTT]
  have hcs : ∀ w', Calls Try.prog 225 #[.float .f64 0, .float .f64 Y] w' (fun e w2 => e = .returned (.float .f64 (D64.word s 0)) ∧ w' = w2) := fun w' => by
    have := copysign_any Y w' hYlt; rw [hpY] at this; exact this
  have hin1 : ∀ w', Calls Try.prog 226 #[.int .i64 (-1)] w' (fun e w2 => e = .returned (.float .f64 (D64.word true IR)) ∧ w' = w2) := fun w' => inf_any true w'
  have hin2 : ∀ w', Calls Try.prog 226 #[.int .i64 1] w' (fun e w2 => e = .returned (.float .f64 (D64.word false IR)) ∧ w' = w2) := fun w' => inf_any false w'
  have a1 : bits .andNot .u64 (Y : Int) 9218868437227405312 = ((2 ^ 63 * sN s + f : Nat) : Int) := by
    rw [show bits .andNot .u64 (Y : Int) 9218868437227405312 = ((Y &&& (18446744073709551615 - 9218868437227405312) : Nat) : Int) from u64_andNot_nat Y 9218868437227405312 hYlt' (by decide)]
    rw [hYY, word_sN, show 18446744073709551615 - 9218868437227405312 = 9227875636482146303 by decide]
    exact congrArg _ (strike (sN s) X f (sN_or s) (by omega) hf)
  obtain ⟨G, hG⟩ : ∃ G : Nat, G = 2 ^ 63 * sN s + f := ⟨_, rfl⟩
  rw [← hG] at a1
  have hor : ∀ X' : Nat, 1 ≤ X' → X' ≤ 2046 → bits .or .u64 (G : Int) ((X' * 4503599627370496 : Nat) : Int) = ((D64.word s (X' * BN + f) : Nat) : Int) := fun X' _ q2 => or_word s X' f G hG (Nat.lt_of_le_of_lt q2 (by decide)) hf
  have hZ : ∀ X' : Nat, 1 ≤ X' → X' ≤ 2046 → IsF (D64.word s (X' * BN + f)) (D64.word s (X' * BN + f)) := fun X' _ q2 => isF_word s _ (mid_le X' f q2 hf)
  have hc1 : IsF 4607182418800017408 4607182418800017408 := by decide +kernel
  have hc2 : IsF 4368491638549381120 4368491638549381120 := by decide +kernel
  have HT := hid hT
  clear hYY hpY hkY hG hT hTT hexp
  by_cases c1 : T < -1075
  · have b1 : decide (T < -1075) = true := by simpa using c1
    have q := hid (ld_low s f T hf c1)
    have Q := hid (isF_word s 0 (Nat.zero_le _))
    go_enter Try.func215, Try.ntmps215
    go_wp2_with (first | (go_at_call 216; ((with_reducible refine (isinf_any b _ hB.out).mono ?_); rintro e w1 ⟨rfl, rfl⟩)) | (go_at_call 223; ((with_reducible refine (isnan_any b _ hB.out).mono ?_); rintro e w1 ⟨rfl, rfl⟩)) | (go_at_call 224; ((with_reducible refine (hnorm _).mono ?_); rintro e w1 ⟨rfl, o1, n1, rfl⟩)) | (go_at_call 225; ((with_reducible refine (hcs _).mono ?_); rintro e w1 ⟨rfl, rfl⟩)) | (go_at_call 226; ((with_reducible refine (hin1 _).mono ?_); rintro e w1 ⟨rfl, rfl⟩)) | (go_at_call 226; ((with_reducible refine (hin2 _).mono ?_); rintro e w1 ⟨rfl, rfl⟩)) | ((with_reducible refine upon_id ?_); refine upon_fop rfl (by assumption) (by assumption) ?_; intro rr nn hr))
    go_ret
    exact ⟨_, rfl, by rw [q.out]; exact Q.out, by (show Grew _ _; repeat (first | (with_reducible exact Grew.refl _) | (with_reducible assumption) | (with_reducible refine Grew.ext ?_ _ _) | (with_reducible refine Grew.alloc ?_ _) | ((with_reducible refine Grew.setCell ?_ ?_ _); rotate_left; (focus (dsimp only; first | omega | (simp only [size_ext, World.size_alloc, Array.size_append]; omega)))) | (with_reducible refine Grew.drewN ?_ _) | (with_reducible refine Grew.drew ?_)))⟩
  · have b1 : decide (T < -1075) = false := by simpa using c1
    by_cases c2 : 1023 < T
    · have b2 : decide (1023 < T) = true := by simpa using c2
      have q := hid (ld_high s f T hf c2)
      have Q := hid (isF_word s IR (Nat.le_refl _))
      cases s
      · go_enter Try.func215, Try.ntmps215
        go_wp2_with (first | (go_at_call 216; ((with_reducible refine (isinf_any b _ hB.out).mono ?_); rintro e w1 ⟨rfl, rfl⟩)) | (go_at_call 223; ((with_reducible refine (isnan_any b _ hB.out).mono ?_); rintro e w1 ⟨rfl, rfl⟩)) | (go_at_call 224; ((with_reducible refine (hnorm _).mono ?_); rintro e w1 ⟨rfl, o1, n1, rfl⟩)) | (go_at_call 225; ((with_reducible refine (hcs _).mono ?_); rintro e w1 ⟨rfl, rfl⟩)) | (go_at_call 226; ((with_reducible refine (hin1 _).mono ?_); rintro e w1 ⟨rfl, rfl⟩)) | (go_at_call 226; ((with_reducible refine (hin2 _).mono ?_); rintro e w1 ⟨rfl, rfl⟩)) | ((with_reducible refine upon_id ?_); refine upon_fop rfl (by assumption) (by assumption) ?_; intro rr nn hr))
        go_ret
        exact ⟨_, rfl, by rw [q.out]; exact Q.out, by (show Grew _ _; repeat (first | (with_reducible exact Grew.refl _) | (with_reducible assumption) | (with_reducible refine Grew.ext ?_ _ _) | (with_reducible refine Grew.alloc ?_ _) | ((with_reducible refine Grew.setCell ?_ ?_ _); rotate_left; (focus (dsimp only; first | omega | (simp only [size_ext, World.size_alloc, Array.size_append]; omega)))) | (with_reducible refine Grew.drewN ?_ _) | (with_reducible refine Grew.drew ?_)))⟩
      · go_enter Try.func215, Try.ntmps215
        go_wp2_with (first | (go_at_call 216; ((with_reducible refine (isinf_any b _ hB.out).mono ?_); rintro e w1 ⟨rfl, rfl⟩)) | (go_at_call 223; ((with_reducible refine (isnan_any b _ hB.out).mono ?_); rintro e w1 ⟨rfl, rfl⟩)) | (go_at_call 224; ((with_reducible refine (hnorm _).mono ?_); rintro e w1 ⟨rfl, o1, n1, rfl⟩)) | (go_at_call 225; ((with_reducible refine (hcs _).mono ?_); rintro e w1 ⟨rfl, rfl⟩)) | (go_at_call 226; ((with_reducible refine (hin1 _).mono ?_); rintro e w1 ⟨rfl, rfl⟩)) | (go_at_call 226; ((with_reducible refine (hin2 _).mono ?_); rintro e w1 ⟨rfl, rfl⟩)) | ((with_reducible refine upon_id ?_); refine upon_fop rfl (by assumption) (by assumption) ?_; intro rr nn hr))
        go_ret
        exact ⟨_, rfl, by rw [q.out]; exact Q.out, by (show Grew _ _; repeat (first | (with_reducible exact Grew.refl _) | (with_reducible assumption) | (with_reducible refine Grew.ext ?_ _ _) | (with_reducible refine Grew.alloc ?_ _) | ((with_reducible refine Grew.setCell ?_ ?_ _); rotate_left; (focus (dsimp only; first | omega | (simp only [size_ext, World.size_alloc, Array.size_append]; omega)))) | (with_reducible refine Grew.drewN ?_ _) | (with_reducible refine Grew.drew ?_)))⟩
    · have b2 : decide (1023 < T) = false := by simpa using c2
      by_cases c3 : T < -1022
      · have b3 : decide (T < -1022) = true := by simpa using c3
        obtain ⟨X', hX'⟩ : ∃ X' : Nat, (X' : Int) = T + 53 + 1023 := ⟨(T + 53 + 1023).toNat, by omega⟩
        have q := hid (ld_end2 s X' f T (by omega) (by omega) hf hX')
        have r4 : IntKind.i64.wrap (T + 53) = T + 53 := IntWalk.i64_in _ (by omega)
        have r5 : IntKind.i64.wrap (T + 53 + 1023) = T + 53 + 1023 := IntWalk.i64_in _ (by omega)
        have q := ld_end2 s X' f T (by omega) (by omega) hf hX'
        have r6 : IntKind.u64.wrap (T + 53 + 1023) = (T + 53 + 1023) := IntWalk.u64_in _ (by omega)
        have r7 : IntKind.u64.wrap ((T + 53 + 1023) * 4503599627370496) = (T + 53 + 1023) * 4503599627370496 := IntWalk.u64_in _ (by omega)
        obtain ⟨Z, hZZ⟩ : ∃ Z, Z = D64.word s (X' * BN + f) := ⟨_, rfl⟩
        have ho : bits .or .u64 (G : Int) ((T + 53 + 1023) * 4503599627370496) = (Z : Int) := by
          have := hor X' (by omega) (by omega)
          rw [show ((X' * 4503599627370496 : Nat) : Int) = (T + 53 + 1023) * 4503599627370496 by omega, ← hZZ] at this; exact this
        have hz : IsF Z Z := by have := hZ X' (by omega) (by omega); rwa [← hZZ] at this
        rw [← hZZ] at q
        have Q := hid q
        have X2 := hid hX'
        clear hor hZ q hZZ hX'
        go_enter Try.func215, Try.ntmps215
        go_wp2_with (first | (go_at_call 216; ((with_reducible refine (isinf_any b _ hB.out).mono ?_); rintro e w1 ⟨rfl, rfl⟩)) | (go_at_call 223; ((with_reducible refine (isnan_any b _ hB.out).mono ?_); rintro e w1 ⟨rfl, rfl⟩)) | (go_at_call 224; ((with_reducible refine (hnorm _).mono ?_); rintro e w1 ⟨rfl, o1, n1, rfl⟩)) | (go_at_call 225; ((with_reducible refine (hcs _).mono ?_); rintro e w1 ⟨rfl, rfl⟩)) | (go_at_call 226; ((with_reducible refine (hin1 _).mono ?_); rintro e w1 ⟨rfl, rfl⟩)) | (go_at_call 226; ((with_reducible refine (hin2 _).mono ?_); rintro e w1 ⟨rfl, rfl⟩)) | ((with_reducible refine upon_id ?_); refine upon_fop rfl (by assumption) (by assumption) ?_; intro rr nn hr))
        go_ret
        exact ⟨_, rfl, by rw [← Q.out]; exact hr, by (show Grew _ _; repeat (first | (with_reducible exact Grew.refl _) | (with_reducible assumption) | (with_reducible refine Grew.ext ?_ _ _) | (with_reducible refine Grew.alloc ?_ _) | ((with_reducible refine Grew.setCell ?_ ?_ _); rotate_left; (focus (dsimp only; first | omega | (simp only [size_ext, World.size_alloc, Array.size_append]; omega)))) | (with_reducible refine Grew.drewN ?_ _) | (with_reducible refine Grew.drew ?_)))⟩
      · have b3 : decide (T < -1022) = false := by simpa using c3
        obtain ⟨X', hX'⟩ : ∃ X' : Nat, (X' : Int) = T + 1023 := ⟨(T + 1023).toNat, by omega⟩
        have r5 : IntKind.i64.wrap (T + 1023) = T + 1023 := IntWalk.i64_in _ (by omega)
        have q := ld_end1 s X' f T (by omega) (by omega) hf hX'
        have r6 : IntKind.u64.wrap (T + 1023) = (T + 1023) := IntWalk.u64_in _ (by omega)
        have r7 : IntKind.u64.wrap ((T + 1023) * 4503599627370496) = (T + 1023) * 4503599627370496 := IntWalk.u64_in _ (by omega)
        obtain ⟨Z, hZZ⟩ : ∃ Z, Z = D64.word s (X' * BN + f) := ⟨_, rfl⟩
        have ho : bits .or .u64 (G : Int) ((T + 1023) * 4503599627370496) = (Z : Int) := by
          have := hor X' (by omega) (by omega)
          rw [show ((X' * 4503599627370496 : Nat) : Int) = (T + 1023) * 4503599627370496 by omega, ← hZZ] at this; exact this
        have hz : IsF Z Z := by have := hZ X' (by omega) (by omega); rwa [← hZZ] at this
        rw [← hZZ] at q
        have Q := hid q
        have X2 := hid hX'
        clear hor hZ q hZZ hX'
        go_enter Try.func215, Try.ntmps215
        go_wp2_with (first | (go_at_call 216; ((with_reducible refine (isinf_any b _ hB.out).mono ?_); rintro e w1 ⟨rfl, rfl⟩)) | (go_at_call 223; ((with_reducible refine (isnan_any b _ hB.out).mono ?_); rintro e w1 ⟨rfl, rfl⟩)) | (go_at_call 224; ((with_reducible refine (hnorm _).mono ?_); rintro e w1 ⟨rfl, o1, n1, rfl⟩)) | (go_at_call 225; ((with_reducible refine (hcs _).mono ?_); rintro e w1 ⟨rfl, rfl⟩)) | (go_at_call 226; ((with_reducible refine (hin1 _).mono ?_); rintro e w1 ⟨rfl, rfl⟩)) | (go_at_call 226; ((with_reducible refine (hin2 _).mono ?_); rintro e w1 ⟨rfl, rfl⟩)) | ((with_reducible refine upon_id ?_); refine upon_fop rfl (by assumption) (by assumption) ?_; intro rr nn hr))
        go_ret
        exact ⟨_, rfl, by rw [← Q.out]; exact hr, by (show Grew _ _; repeat (first | (with_reducible exact Grew.refl _) | (with_reducible assumption) | (with_reducible refine Grew.ext ?_ _ _) | (with_reducible refine Grew.alloc ?_ _) | ((with_reducible refine Grew.setCell ?_ ?_ _); rotate_left; (focus (dsimp only; first | omega | (simp only [size_ext, World.size_alloc, Array.size_append]; omega)))) | (with_reducible refine Grew.drewN ?_ _) | (with_reducible refine Grew.drew ?_)))⟩
/-- math.Ldexp. -/
theorem ldexp_any (b x : Nat) (k : Int) (w : World) (hx : IsF b x) (hk : -5000 ≤ k ∧ k ≤ 5000) : Calls Try.prog 215 #[.float .f64 b, .int .i64 k] w (fun e w' => ∃ r, e = .returned (.float .f64 r) ∧ IsF r (ldF x k) ∧ ∃ o n, w' = ext w o n) := by
  by_cases h : pKind b = 0 ∧ pMag b ≠ 0
  · have e := isF_of_kind hx (by omega)
    subst e
    have e2 : ldF b k = D64.nearest (pNeg b) (pMag b) (pExp b + k) := by unfold ldF; rw [if_pos h]
    rw [e2]
    exact ldexp_num b k w hx.1 hk h.1 h.2
  · have hk3 := kind_le b
    have e2 : ldF x k = x := by
      unfold ldF
      rw [if_neg]
      intro h2
      rw [← hx.kind] at h2
      have e := isF_of_kind hx (by omega)
      subst e
      exact h h2
    rw [e2]
    refine (ldexp_back b k w hx.1 ?_).mono fun e w' hh => ⟨b, hh.1, hx, #[], w.drawn, by rw [← hh.2]; exact ext_zero.symm⟩
    by_cases h0 : pKind b = 0
    · exact .inr (.inr ⟨h0, Decidable.not_not.1 fun hm => h ⟨h0, hm⟩⟩)
    · rcases hk3 with h3 | h3 | h3
      · exact absurd h3 h0
      · exact .inl h3
      · exact .inr (.inl h3)
/-- math.Ldexp, as it is called. -/
theorem mldexp_any (b x : Nat) (k : Int) (w : World) (hx : IsF b x) (hk : -5000 ≤ k ∧ k ≤ 5000) : Calls Try.prog 197 #[.float .f64 b, .int .i64 k] w (fun e w' => ∃ r, e = .returned (.float .f64 r) ∧ IsF r (ldF x k) ∧ ∃ o n, w' = ext w o n) := by
  go_enter Try.func197, Try.ntmps197
  go_wp2_with (first | (go_at_call 215; ((with_reducible refine (ldexp_any b x k _ hx hk).mono ?_); rintro e w1 ⟨r, rfl, hr, o1, n1, rfl⟩)))
  go_ret
  exact ⟨r, rfl, hr, _, _, rfl⟩
/-- num.Scale. -/
theorem nscale_any (b x : Nat) (k : Int) (w : World) (hx : IsF b x) : Calls Try.prog 162 #[.float .f64 b, .int .i64 k] w (fun e w' => ∃ r, e = .returned (.float .f64 r) ∧ IsF r (fscale x k) ∧ ∃ o n, w' = ext w o n) := by
  have e : fscale x k = ldF x (kcl k) := rfl
  rw [e]
  by_cases c1 : k < -5000
  · have e2 : kcl k = -5000 := by unfold kcl; omega
    have hk : (-5000 : Int) ≤ -5000 ∧ (-5000 : Int) ≤ 5000 := by decide
    rw [e2]
    go_enter Try.func162, Try.ntmps162
    go_wp2_with (first | (go_at_call 197; ((with_reducible refine (mldexp_any b x (-5000) _ hx hk).mono ?_); rintro e w1 ⟨r, rfl, hr, o1, n1, rfl⟩)))
    go_ret
    exact ⟨r, rfl, hr, _, _, rfl⟩
  · by_cases c2 : 5000 < k
    · have e2 : kcl k = 5000 := by unfold kcl; omega
      have hk : (-5000 : Int) ≤ 5000 ∧ (5000 : Int) ≤ 5000 := by decide
      rw [e2]
      go_enter Try.func162, Try.ntmps162
      go_wp2_with (first | (go_at_call 197; ((with_reducible refine (mldexp_any b x 5000 _ hx hk).mono ?_); rintro e w1 ⟨r, rfl, hr, o1, n1, rfl⟩)))
      go_ret
      exact ⟨r, rfl, hr, _, _, rfl⟩
    · have e2 : kcl k = k := by unfold kcl; omega
      have hk : -5000 ≤ k ∧ k ≤ 5000 := by omega
      rw [e2]
      go_enter Try.func162, Try.ntmps162
      go_wp2_with (first | (go_at_call 197; ((with_reducible refine (mldexp_any b x k _ hx hk).mono ?_); rintro e w1 ⟨r, rfl, hr, o1, n1, rfl⟩)))
      go_ret
      exact ⟨r, rfl, hr, _, _, rfl⟩
end Go.Proofs.Ytcmggfpcbijcjaa
end
section
/-
  Contracts: single operations on floats; sums, the greatest, the place of the greatest, products (layer 5 and its reference).
-/
set_option linter.unusedSimpArgs false
set_option linter.unusedVariables false
open Go Go.RowKit Sedge
namespace Go.Proofs.Ytcmggfpcbijcjaa
theorem gt_fact {r s X Y : Nat} (hr : IsF r X) (hs : IsF s Y) {v : Bool} (h : (FloatKind.f64.format.order r s == some .gt) = v) : fgt X Y = v := by
  unfold fgt; rw [← hr.order hs]; exact h
theorem isF_zero : IsF 0 0 := ⟨by decide, by decide +kernel⟩
theorem plus_any (a b x y : Nat) (w : World) (hx : IsF a x) (hy : IsF b y) :
   Calls Try.prog 36 #[.float .f64 a, .float .f64 b] w (fun e w' => ∃ r, e = .returned (.float .f64 r) ∧ IsF r (fadd x y) ∧ ∃ o n, w' = ext w o n) := by
  go_enter Try.func36, Try.ntmps36
  go_wp2_with ((with_reducible refine upon_id ?_); refine upon_fop rfl (by assumption) (by assumption) ?_; intro rr nn hr)
  go_ret
  exact ⟨rr, rfl, hr, _, _, drewN_ext0 _⟩
theorem times_any (a b x y : Nat) (w : World) (hx : IsF a x) (hy : IsF b y) :
   Calls Try.prog 141 #[.float .f64 a, .float .f64 b] w (fun e w' => ∃ r, e = .returned (.float .f64 r) ∧ IsF r (fmul x y) ∧ ∃ o n, w' = ext w o n) := by
  go_enter Try.func141, Try.ntmps141
  go_wp2_with ((with_reducible refine upon_id ?_); refine upon_fop rfl (by assumption) (by assumption) ?_; intro rr nn hr)
  go_ret
  exact ⟨rr, rfl, hr, _, _, drewN_ext0 _⟩
theorem less_any (a b x y : Nat) (w : World) (hx : IsF a x) (hy : IsF b y) :
   Calls Try.prog 183 #[.float .f64 a, .float .f64 b] w (fun e w' => ∃ r, e = .returned (.float .f64 r) ∧ IsF r (fsub x y) ∧ ∃ o n, w' = ext w o n) := by
  go_enter Try.func183, Try.ntmps183
  go_wp2_with ((with_reducible refine upon_id ?_); refine upon_fop rfl (by assumption) (by assumption) ?_; intro rr nn hr)
  go_ret
  exact ⟨rr, rfl, hr, _, _, drewN_ext0 _⟩
theorem over_any (a b x y : Nat) (w : World) (hx : IsF a x) (hy : IsF b y) :
   Calls Try.prog 158 #[.float .f64 a, .float .f64 b] w (fun e w' => ∃ r, e = .returned (.float .f64 r) ∧ IsF r (fdiv x y) ∧ ∃ o n, w' = ext w o n) := by
  go_enter Try.func158, Try.ntmps158
  go_wp2_with ((with_reducible refine upon_id ?_); refine upon_fop rfl (by assumption) (by assumption) ?_; intro rr nn hr)
  go_ret
  exact ⟨rr, rfl, hr, _, _, drewN_ext0 _⟩

/-- A sum in its order. -/
def fsumTo (l : List Nat) : Nat → Nat
  | 0 => 0
  | k + 1 => fadd (fsumTo l k) (l.getD k 0)
set_option maxRecDepth 100000 in
set_option maxHeartbeats 1000000 in
theorem sum_any (D : Value) (ws : List Nat) (w : World) (hD : FS w D ws) :
   Calls Try.prog 38 #[D] w (fun e w' => ∃ r, e = .returned (.float .f64 r) ∧ IsF r (fsumTo ws ws.length) ∧ ∃ o n, w' = ext w o n) := by
  obtain ⟨a, cap, rfl⟩ := hD.shape
  have hl := hD.len
  have HD := hD.at.2
  clear hD
  have hl' : (ws.length : Int) ≤ 9223372036854775807 := by omega
  go_enter Try.func38, Try.ntmps38
  go_wp2
  go_loopw [3, 8] (fun s c wr => ∃ k b : Nat, k ≤ ws.length ∧ c = .int .i64 k ∧ s = .float .f64 b ∧ IsF b (fsumTo ws k) ∧ ∃ o n, wr = ext w o n) (fun _ c _ => ws.length - (intOf c).toNat)
  case atStart => exact ⟨0, 0, Nat.zero_le _, rfl, rfl, isF_zero, _, _, ext_zero.symm⟩
  case round =>
    obtain ⟨k, s, hk, rfl, rfl, hs, oo, nn, hwr⟩ := hrel
    subst hwr
    by_cases hlt : k < ws.length
    · obtain ⟨blk, o, rfl, hblk, hc⟩ := HD (by omega)
      obtain ⟨b, hb, hx⟩ := hc k hlt
      clear hc HD
      go_wp2_with ((with_reducible refine upon_id ?_); refine upon_fop rfl (by assumption) (by assumption) ?_; intro rr nn hr)
      go_roundw
      case rel => exact ⟨k + 1, rr, by omega, by go_num, rfl, hr, _, _, rfl⟩
      case measure => simp [intOf]; omega
    · go_wp2
      go_ret
      have e : ws.length = k := by omega
      exact ⟨s, rfl, by rw [e]; exact hs, _, _, rfl⟩

/-- The greatest of numbers and 0, without NaNs. -/
def fmaxTo (l : List Nat) : Nat → Nat
  | 0 => 0
  | k + 1 => if fgt (l.getD k 0) (fmaxTo l k) = true then l.getD k 0 else fmaxTo l k
def anyNan (l : List Nat) : Bool := l.any isNan
def fgreatest (l : List Nat) : Nat := if anyNan l then QN else fmaxTo l l.length
theorem anyNan_take (l : List Nat) (k : Nat) (h : k < l.length) : anyNan (l.take (k + 1)) = (anyNan (l.take k) || isNan (l.getD k 0)) := by
  unfold anyNan
  have e1 : l.take (k + 1) = l.take k ++ [l[k]] := List.take_succ_eq_append_getElem h
  rw [e1, List.any_append]
  simp [List.getD_eq_getElem?_getD, h]
theorem anyNan_yes (l : List Nat) (k : Nat) (h : k < l.length) (hn : isNan (l.getD k 0) = true) : anyNan l = true := by
  unfold anyNan
  rw [List.any_eq_true]
  refine ⟨l.getD k 0, ?_, hn⟩
  rw [List.getD_eq_getElem?_getD, List.getElem?_eq_getElem h]; exact List.getElem_mem h
set_option maxRecDepth 100000 in
set_option maxHeartbeats 1000000 in
theorem greatest_any (D : Value) (ws : List Nat) (w : World) (hD : FS w D ws) :
   Calls Try.prog 39 #[D] w (fun e w' => ∃ r, e = .returned (.float .f64 r) ∧ IsF r (fgreatest ws) ∧ w = w') := by
  obtain ⟨a, cap, rfl⟩ := hD.shape
  have hl := hD.len
  have HD := hD.at.2
  clear hD
  have hl' : (ws.length : Int) ≤ 9223372036854775807 := by omega
  go_enter Try.func39, Try.ntmps39
  go_wp2
  go_loop [3, 8] (fun s c => ∃ k b : Nat, k ≤ ws.length ∧ c = .int .i64 k ∧ s = .float .f64 b ∧ IsF b (fmaxTo ws k) ∧ anyNan (ws.take k) = false) (fun _ c => ws.length - (intOf c).toNat)
  case atStart => exact ⟨0, 0, Nat.zero_le _, rfl, rfl, isF_zero, rfl⟩
  case round =>
    obtain ⟨k, s, hk, rfl, rfl, hs, hn⟩ := hrel
    have Hn := hid hn
    clear hn
    by_cases hlt : k < ws.length
    · obtain ⟨blk, o, rfl, hblk, hc⟩ := HD (by omega)
      obtain ⟨b, hb, hx⟩ := hc k hlt
      clear hc HD
      have e1 := order_self b
      rw [hx.nan] at e1
      cases hnan : isNan (ws.getD k 0)
      · have q1 : (FloatKind.f64.format.order b b != some .eq) = false := e1.trans hnan
        have e2 : (FloatKind.f64.format.order b s == some .gt) = fgt (ws.getD k 0) (fmaxTo ws k) := by
          unfold fgt; rw [← hx.order hs]; rfl
        have Hnan := hid hnan
        clear hnan e1
        cases hg : fgt (ws.getD k 0) (fmaxTo ws k)
        · have q2 := e2.trans hg
          have Hg := hid hg
          clear hg e2
          go_wp2
          go_round
          case rel => exact ⟨k + 1, s, by omega, by go_num, rfl, by unfold fmaxTo; rw [if_neg (by rw [Hg.out]; decide)]; exact hs, by rw [anyNan_take _ _ hlt, Hn.out, Hnan.out]; rfl⟩
          case measure => simp [intOf]; omega
        · have q2 := e2.trans hg
          have Hg := hid hg
          clear hg e2
          go_wp2
          go_round
          case rel => exact ⟨k + 1, b, by omega, by go_num, rfl, by unfold fmaxTo; rw [if_pos Hg.out]; exact hx, by rw [anyNan_take _ _ hlt, Hn.out, Hnan.out]; rfl⟩
          case measure => simp [intOf]; omega
      · have q1 : (FloatKind.f64.format.order b b != some .eq) = true := e1.trans hnan
        have Hnan := hid hnan
        clear hnan e1
        go_wp2
        go_ret
        refine ⟨b, rfl, ?_, rfl⟩
        unfold fgreatest
        rw [if_pos (anyNan_yes _ _ hlt Hnan.out)]
        exact ⟨hx.1, by rw [hx.2]; exact isNan_can hx.canonical Hnan.out⟩
    · go_wp2
      go_ret
      refine ⟨s, rfl, ?_, rfl⟩
      have e := Hn.out
      rw [List.take_of_length_le (by omega)] at e
      unfold fgreatest
      rw [e]
      have e : ws.length = k := by omega
      rw [e]; exact hs
set_option maxRecDepth 100000 in
set_option maxHeartbeats 1000000 in
theorem rgreatest_any (D : Value) (ws : List Nat) (w : World) (hD : FS w D ws) :
   Calls Try.prog 40 #[D] w (fun e w' => ∃ r, e = .returned (.float .f64 r) ∧ IsF r (fgreatest ws) ∧ ∃ o n, w' = ext w o n) := by
  obtain ⟨a, cap, rfl⟩ := hD.shape
  have hl := hD.len
  have HD := hD.at.2
  clear hD
  have hl' : (ws.length : Int) ≤ 9223372036854775807 := by omega
  go_enter Try.func40, Try.ntmps40
  go_wp2
  go_loopw [4] (fun c wr => ∃ k : Nat, k ≤ ws.length ∧ c = .int .i64 k ∧ anyNan (ws.take k) = false ∧ ∃ o n, wr = ext w o n) (fun c _ => ws.length - (intOf c).toNat)
  case atStart => exact ⟨0, Nat.zero_le _, rfl, rfl, _, _, ext_zero.symm⟩
  case round =>
    obtain ⟨k, hk, rfl, hn, oo, nn, hwr⟩ := hrel
    subst hwr
    have Hn := hid hn
    clear hn
    by_cases hlt : k < ws.length
    · obtain ⟨blk, o, rfl, hblk, hc⟩ := HD (by omega)
      obtain ⟨b, hb, hx⟩ := hc k hlt
      clear hc HD
      have e1 := order_self b
      rw [hx.nan] at e1
      have hi0 : (0 : Int) ≤ (k : Int) := by omega
      have hi1 : (k : Int) < (ws.length : Int) := by omega
      cases hnan : isNan (ws.getD k 0)
      · have q1 : (FloatKind.f64.format.order b b != some .eq) = false := e1.trans hnan
        have Hnan := hid hnan
        clear hnan e1
        go_wp2
        refine wp_region_R (Grew w) [] [(0,0), (0,1), (0,2), (0,3), (0,4), (0,5), (0,6), (0,7), (0,8)] (by kernel_rfl) (by kernel_rfl) (fun _ _ _ _ h _ => h) (by first | exact ⟨_, _, ext_drew⟩ | exact ⟨_, _, drew_ext0⟩ | (show Grew _ _; repeat (first | (with_reducible exact Grew.refl _) | (with_reducible assumption) | (with_reducible refine Grew.ext ?_ _ _) | (with_reducible refine Grew.alloc ?_ _) | ((with_reducible refine Grew.setCell ?_ ?_ _); rotate_left; (focus (dsimp only; first | omega | (simp only [size_ext, World.size_alloc, Array.size_append]; omega)))) | (with_reducible refine Grew.drewN ?_ _) | (with_reducible refine Grew.drew ?_)))) ?_
        go_wp2_with (first | ((with_reducible refine wpR_id ?_); first | (refine wpR_take (v := ?_) rfl rfl ?_ ?_; rotate_left; (focus (rintro w' ⟨o', n', rfl⟩; go_simp; try with_reducible rfl)); simp only [Act.put, List.setIfInBounds_toArray, List.set_cons_zero, List.set_cons_succ]) | (refine wpR_pure (v := ?_) rfl rfl ?_ ?_; rotate_left; (focus (intro w'; go_simp; try with_reducible rfl)); simp only [Act.put, List.setIfInBounds_toArray, List.set_cons_zero, List.set_cons_succ]) | (refine wpR_takeG (v := ?_) rfl rfl rfl rfl rfl ?_ ?_; rotate_left; (focus (rintro w' ⟨o', n', rfl⟩; go_simp; try with_reducible rfl)); simp only [Act.put, List.setIfInBounds_toArray, List.set_cons_zero, List.set_cons_succ]) | (refine wpR_skip rfl rfl rfl rfl rfl rfl ?_; simp only [Act.put, List.setIfInBounds_toArray, List.set_cons_zero, List.set_cons_succ]) | (refine wpR_skipU rfl rfl rfl rfl rfl ?_; simp only [Act.put, List.setIfInBounds_toArray, List.set_cons_zero, List.set_cons_succ]) | (refine wpR_do rfl rfl (fun K hK => ?_)) | (refine wpR_doG rfl rfl rfl rfl rfl (fun K hK => ?_)) | (refine wpR_last rfl rfl (fun K hK => ?_)) | (refine wpR_nil ?_)) | ((with_reducible refine wpR_go ?_ ?_); (focus exact ⟨_, _, rfl⟩)) | ((with_reducible refine upon_id ?_); refine upon_fop rfl (by assumption) (by assumption) ?_; intro rr nn hr))
        go_roundw
        case rel => exact ⟨k + 1, by omega, by go_num, by rw [anyNan_take _ _ hlt, Hn.out, Hnan.out]; rfl, _, _, rfl⟩
        case measure => simp [intOf]; omega
      · have q1 : (FloatKind.f64.format.order b b != some .eq) = true := e1.trans hnan
        have Hnan := hid hnan
        clear hnan e1
        go_wp2
        refine wp_region_R (Grew w) [] [(0,0), (0,1), (0,2), (0,3), (0,4), (0,5), (0,6), (0,7), (0,8)] (by kernel_rfl) (by kernel_rfl) (fun _ _ _ _ h _ => h) (by first | exact ⟨_, _, ext_drew⟩ | exact ⟨_, _, drew_ext0⟩ | (show Grew _ _; repeat (first | (with_reducible exact Grew.refl _) | (with_reducible assumption) | (with_reducible refine Grew.ext ?_ _ _) | (with_reducible refine Grew.alloc ?_ _) | ((with_reducible refine Grew.setCell ?_ ?_ _); rotate_left; (focus (dsimp only; first | omega | (simp only [size_ext, World.size_alloc, Array.size_append]; omega)))) | (with_reducible refine Grew.drewN ?_ _) | (with_reducible refine Grew.drew ?_)))) ?_
        go_wp2_with (first | ((with_reducible refine wpR_id ?_); first | (refine wpR_take (v := ?_) rfl rfl ?_ ?_; rotate_left; (focus (rintro w' ⟨o', n', rfl⟩; go_simp; try with_reducible rfl)); simp only [Act.put, List.setIfInBounds_toArray, List.set_cons_zero, List.set_cons_succ]) | (refine wpR_pure (v := ?_) rfl rfl ?_ ?_; rotate_left; (focus (intro w'; go_simp; try with_reducible rfl)); simp only [Act.put, List.setIfInBounds_toArray, List.set_cons_zero, List.set_cons_succ]) | (refine wpR_takeG (v := ?_) rfl rfl rfl rfl rfl ?_ ?_; rotate_left; (focus (rintro w' ⟨o', n', rfl⟩; go_simp; try with_reducible rfl)); simp only [Act.put, List.setIfInBounds_toArray, List.set_cons_zero, List.set_cons_succ]) | (refine wpR_skip rfl rfl rfl rfl rfl rfl ?_; simp only [Act.put, List.setIfInBounds_toArray, List.set_cons_zero, List.set_cons_succ]) | (refine wpR_skipU rfl rfl rfl rfl rfl ?_; simp only [Act.put, List.setIfInBounds_toArray, List.set_cons_zero, List.set_cons_succ]) | (refine wpR_do rfl rfl (fun K hK => ?_)) | (refine wpR_doG rfl rfl rfl rfl rfl (fun K hK => ?_)) | (refine wpR_last rfl rfl (fun K hK => ?_)) | (refine wpR_nil ?_)) | ((with_reducible refine wpR_go ?_ ?_); (focus exact ⟨_, _, rfl⟩)) | ((with_reducible refine upon_id ?_); refine upon_fop rfl (by assumption) (by assumption) ?_; intro rr nn hr))
        go_ret
        refine ⟨b, rfl, ?_, _, _, rfl⟩
        unfold fgreatest
        rw [if_pos (anyNan_yes _ _ hlt Hnan.out)]
        exact ⟨hx.1, by rw [hx.2]; exact isNan_can hx.canonical Hnan.out⟩
    · have hall : anyNan ws = false := by
        have e := Hn.out
        rwa [List.take_of_length_le (by omega)] at e
      have Hall := hid hall
      clear hall
      go_wp2
      go_loopw [3, 5] (fun s c wr => ∃ j b : Nat, j ≤ ws.length ∧ c = .int .i64 j ∧ s = .float .f64 b ∧ IsF b (fmaxTo ws j) ∧ ∃ o n, wr = ext w o n) (fun _ c _ => ws.length - (intOf c).toNat)
      case atStart => exact ⟨0, 0, Nat.zero_le _, rfl, rfl, isF_zero, _, _, rfl⟩
      case round =>
        obtain ⟨j, s, hj, rfl, rfl, hs, oo2, nn2, hwr2⟩ := hrel
        subst hwr2
        by_cases hlt2 : j < ws.length
        · obtain ⟨blk, o, rfl, hblk, hc⟩ := HD (by omega)
          obtain ⟨b, hb, hx⟩ := hc j hlt2
          clear hc HD
          have e2 : (FloatKind.f64.format.order b s == some .gt) = fgt (ws.getD j 0) (fmaxTo ws j) := by
            unfold fgt; rw [← hx.order hs]; rfl
          cases hg : fgt (ws.getD j 0) (fmaxTo ws j)
          · have q2 := e2.trans hg
            have Hg := hid hg
            clear hg e2
            go_wp2
            go_roundw
            case rel => exact ⟨j + 1, s, by omega, by go_num, rfl, by unfold fmaxTo; rw [if_neg (by rw [Hg.out]; decide)]; exact hs, _, _, rfl⟩
            case measure => simp [intOf]; omega
          · have q2 := e2.trans hg
            have Hg := hid hg
            clear hg e2
            go_wp2
            go_roundw
            case rel => exact ⟨j + 1, b, by omega, by go_num, rfl, by unfold fmaxTo; rw [if_pos Hg.out]; exact hx, _, _, rfl⟩
            case measure => simp [intOf]; omega
        · go_wp2
          go_ret
          refine ⟨s, rfl, ?_, _, _, rfl⟩
          unfold fgreatest
          rw [Hall.out]
          have e : ws.length = j := by omega
          rw [e]; exact hs
end Go.Proofs.Ytcmggfpcbijcjaa
end
section
/-
  Contracts: a number of a vector, products of vectors, the place of the greatest (layer 5).
-/
set_option linter.unusedSimpArgs false
set_option linter.unusedVariables false
open Go Go.RowKit Sedge
namespace Go.Proofs.Ytcmggfpcbijcjaa
set_option maxHeartbeats 400000 in
theorem at_any (x : VecM) (D : Value) (i : Nat) (w : World) (hD : FS w D x.ws) (hr : x.right = true) (hi : (i : Int) < x.n) :
   Calls Try.prog 192 #[.agg #[D, .int .i64 x.off, .int .i64 x.n, .int .i64 x.inc], .int .i64 i] w (fun e w' => ∃ b, e = .returned (.float .f64 b) ∧ IsF b (x.num i) ∧ ∃ o n, w' = ext w o n) := by
  have hp := VecM.right_place hr hi
  have hn := VecM.right_n hr
  have hlen := hD.len
  obtain ⟨blk, o, cap, rfl, hlt, hc⟩ := hD.open (by omega)
  obtain ⟨b, hb, hf⟩ := hc (x.place i) (by unfold VecM.place; omega)
  unfold VecM.place at hb
  have h2 : IntKind.i64.wrap (i * x.inc) = i * x.inc := IntWalk.i64_in _ (by omega)
  have h3 : IntKind.i64.wrap (x.off + i * x.inc) = x.off + i * x.inc := IntWalk.i64_in _ (by omega)
  clear hc
  go_enter Try.func192, Try.ntmps192
  go_wp2
  go_ret
  exact ⟨b, rfl, hf, (Grew.refl _).alloc _⟩

/-- The sum of products, in its order. -/
def dotTo (x y : VecM) : Nat → Nat
  | 0 => 0
  | k + 1 => fadd (dotTo x y k) (fmul (x.num k) (y.num k))
set_option maxRecDepth 100000 in
set_option maxHeartbeats 1000000 in
theorem dot_ok (x y : VecM) (D E : Value) (w : World) (hD : FS w D x.ws) (hE : FS w E y.ws) (hxw : x.wf) (hyw : y.wf) (hx : x.right = true) (hy : y.right = true) (hn : x.n = y.n) :
   Calls Try.prog 128 #[.agg #[D, .int .i64 x.off, .int .i64 x.n, .int .i64 x.inc], .agg #[E, .int .i64 y.off, .int .i64 y.n, .int .i64 y.inc]] w
    (fun e w' => ∃ b, e = .returned (.tuple #[.float .f64 b, .int .i64 0]) ∧ IsF b (dotTo x y x.n.toNat) ∧ ∃ o n, w' = ext w o n) := by
  have hx0 : 0 ≤ x.n := by have := VecM.right_n hx; omega
  have hx1 : x.n ≤ 9223372036854775807 := by have := hxw.2.1.2; omega
  have k1 : (!x.right) = false := by simp [hx]
  have k2 : (!y.right) = false := by simp [hy]
  have k3 : (x.n != y.n) = false := by simp [hn]
  have Hx := hid hx
  have Hy := hid hy
  have Hn := hid hn
  have Hw1 := hid hxw
  have Hw2 := hid hyw
  clear hn hxw hyw hx hy
  go_enter Try.func128, Try.ntmps128
  refine seq_stop ?_
  go_wp2
  refine stop_go (fun W hW => ?_)
  have s1 : w.heap.size < W.heap.size := by rw [hW]; simp only [World.size_alloc]; omega
  have b1 : ∀ i, W.cell? ⟨w.heap.size, i, none⟩ = (#[D, .int .i64 x.off, .int .i64 x.n, .int .i64 x.inc] : Array Value)[i]? := by intro i; rw [hW]; go_simp
  have s2 : w.heap.size + 1 < W.heap.size := by rw [hW]; simp only [World.size_alloc]; omega
  have b2 : ∀ i, W.cell? ⟨w.heap.size + 1, i, none⟩ = (#[E, .int .i64 y.off, .int .i64 y.n, .int .i64 y.inc] : Array Value)[i]? := by intro i; rw [hW]; go_simp
  have g0 : Grew w W := by rw [hW]; exact ((Grew.refl _).alloc _).alloc _
  clear hW
  have hDW : FS W D x.ws := hD.grew g0
  have hEW : FS W E y.ws := hE.grew g0
  go_wp2_with (first | (go_at_call 135; ((with_reducible refine (right_any x D _ ?_ Hw1.out).mono ?_); (focus (first | (with_reducible assumption) | (with_reducible refine FS.ext ?_ _ _; with_reducible assumption) | (with_reducible refine IS.ext ?_ _ _; with_reducible assumption) | (refine hDu _ ?_; with_reducible assumption) | (refine hOu _ ?_; with_reducible assumption) | (refine hDa _ ?_; with_reducible assumption) | (refine hDb _ ?_; with_reducible assumption) | (refine hDc _ ?_; with_reducible assumption) | (refine hDd _ ?_; with_reducible assumption) | (refine FW.fs ?_ (by omega) _; with_reducible assumption) | (refine WS.fs ?_; with_reducible assumption) | (refine FW.fs ?_ (by omega) _; assumption) | omega | assumption)); rintro e w1 ⟨rfl, o1, n1, rfl⟩)) | (go_at_call 135; ((with_reducible refine (right_any y E _ ?_ Hw2.out).mono ?_); (focus (first | (with_reducible assumption) | (with_reducible refine FS.ext ?_ _ _; with_reducible assumption) | (with_reducible refine IS.ext ?_ _ _; with_reducible assumption) | (refine hDu _ ?_; with_reducible assumption) | (refine hOu _ ?_; with_reducible assumption) | (refine hDa _ ?_; with_reducible assumption) | (refine hDb _ ?_; with_reducible assumption) | (refine hDc _ ?_; with_reducible assumption) | (refine hDd _ ?_; with_reducible assumption) | (refine FW.fs ?_ (by omega) _; with_reducible assumption) | (refine WS.fs ?_; with_reducible assumption) | (refine FW.fs ?_ (by omega) _; assumption) | omega | assumption)); rintro e w1 ⟨rfl, o1, n1, rfl⟩)))
  go_loopw [6, 25] (fun s c wr => ∃ (j : Nat) (b : Nat), (j : Int) ≤ x.n ∧ c = .int .i64 j ∧ s = .float .f64 b ∧ IsF b (dotTo x y j) ∧
     ∃ o n, wr = ext W o n) (fun _ c _ => (x.n - intOf c).toNat)
  case atStart => exact ⟨0, 0, hx0, rfl, rfl, isF_zero, _, _, rfl⟩
  case round =>
    obtain ⟨j, b, hj, rfl, rfl, hb, o3, n3, hwr⟩ := hrel
    subst hwr
    by_cases hlt : (j : Int) < x.n
    · have hlt2 : (j : Int) < y.n := by have := Hn.out; omega
      go_wp2
      refine wp_region_R (Grew W) [] [(0,0), (0,1), (0,2), (0,4), (0,5), (1,3), (1,6), (1,7), (1,8), (0,9)] (by kernel_rfl) (by kernel_rfl) (fun _ _ _ _ h _ => h) (by first | exact ⟨_, _, ext_drew⟩ | exact ⟨_, _, drew_ext0⟩ | (show Grew _ _; repeat (first | (with_reducible exact Grew.refl _) | (with_reducible assumption) | (with_reducible refine Grew.ext ?_ _ _) | (with_reducible refine Grew.alloc ?_ _) | ((with_reducible refine Grew.setCell ?_ ?_ _); rotate_left; (focus (dsimp only; first | omega | (simp only [size_ext, World.size_alloc, Array.size_append]; omega)))) | (with_reducible refine Grew.drewN ?_ _) | (with_reducible refine Grew.drew ?_)))) ?_
      go_wp2_with (first | ((with_reducible refine wpR_id ?_); first | (refine wpR_take (v := ?_) rfl rfl ?_ ?_; rotate_left; (focus (rintro w' ⟨o', n', rfl⟩; go_simp; try with_reducible rfl)); simp only [Act.put, List.setIfInBounds_toArray, List.set_cons_zero, List.set_cons_succ]) | (refine wpR_pure (v := ?_) rfl rfl ?_ ?_; rotate_left; (focus (intro w'; go_simp; try with_reducible rfl)); simp only [Act.put, List.setIfInBounds_toArray, List.set_cons_zero, List.set_cons_succ]) | (refine wpR_takeG (v := ?_) rfl rfl rfl rfl rfl ?_ ?_; rotate_left; (focus (rintro w' ⟨o', n', rfl⟩; go_simp; try with_reducible rfl)); simp only [Act.put, List.setIfInBounds_toArray, List.set_cons_zero, List.set_cons_succ]) | (refine wpR_skip rfl rfl rfl rfl rfl rfl ?_; simp only [Act.put, List.setIfInBounds_toArray, List.set_cons_zero, List.set_cons_succ]) | (refine wpR_skipU rfl rfl rfl rfl rfl ?_; simp only [Act.put, List.setIfInBounds_toArray, List.set_cons_zero, List.set_cons_succ]) | (refine wpR_do rfl rfl (fun K hK => ?_)) | (refine wpR_doG rfl rfl rfl rfl rfl (fun K hK => ?_)) | (refine wpR_last rfl rfl (fun K hK => ?_)) | (refine wpR_nil ?_)) | ((with_reducible refine wpR_go ?_ ?_); (focus exact ⟨_, _, rfl⟩)) | ((with_reducible refine upon_id ?_); refine upon_fop rfl (by assumption) (by assumption) ?_; intro rr nn hr) | (go_at_call 192; ((with_reducible refine (at_any x D _ _ ?_ Hx.out hlt).mono ?_); (focus (first | (with_reducible assumption) | (with_reducible refine FS.ext ?_ _ _; with_reducible assumption) | (with_reducible refine IS.ext ?_ _ _; with_reducible assumption) | (refine hDu _ ?_; with_reducible assumption) | (refine hOu _ ?_; with_reducible assumption) | (refine hDa _ ?_; with_reducible assumption) | (refine hDb _ ?_; with_reducible assumption) | (refine hDc _ ?_; with_reducible assumption) | (refine hDd _ ?_; with_reducible assumption) | (refine FW.fs ?_ (by omega) _; with_reducible assumption) | (refine WS.fs ?_; with_reducible assumption) | (refine FW.fs ?_ (by omega) _; assumption) | omega | assumption)); rintro e w1 ⟨bx, rfl, hbx, o4, n4, rfl⟩)) | (go_at_call 192; ((with_reducible refine (at_any y E _ _ ?_ Hy.out hlt2).mono ?_); (focus (first | (with_reducible assumption) | (with_reducible refine FS.ext ?_ _ _; with_reducible assumption) | (with_reducible refine IS.ext ?_ _ _; with_reducible assumption) | (refine hDu _ ?_; with_reducible assumption) | (refine hOu _ ?_; with_reducible assumption) | (refine hDa _ ?_; with_reducible assumption) | (refine hDb _ ?_; with_reducible assumption) | (refine hDc _ ?_; with_reducible assumption) | (refine hDd _ ?_; with_reducible assumption) | (refine FW.fs ?_ (by omega) _; with_reducible assumption) | (refine WS.fs ?_; with_reducible assumption) | (refine FW.fs ?_ (by omega) _; assumption) | omega | assumption)); rintro e w1 ⟨bx, rfl, hbx, o4, n4, rfl⟩)))
      go_roundw
      case rel => exact ⟨j + 1, rr, by omega, by go_num, rfl, hr, _, _, rfl⟩
      case measure => simp [intOf]; omega
    · go_wp2
      go_ret2
      have e : x.n.toNat = j := by omega
      exact ⟨b, rfl, by rw [e]; exact hb, g0.ext _ _⟩

/-- The place of the greatest number without its sign, so far; -1: none. -/
def mostTo (x : VecM) : Nat → Int
  | 0 => -1
  | k + 1 => if mostTo x k < 0 ∨ fgt (fabs (x.num k)) (fabs (x.num (mostTo x k).toNat)) = true then k else mostTo x k
theorem mostTo_range (x : VecM) : ∀ k, -1 ≤ mostTo x k ∧ mostTo x k < k
  | 0 => by simp [mostTo]
  | k + 1 => by
    have := mostTo_range x k
    unfold mostTo
    split <;> omega
set_option maxRecDepth 100000 in
set_option maxHeartbeats 2000000 in
theorem most_ok (x : VecM) (D : Value) (w : World) (hD : FS w D x.ws) (hxw : x.wf) (hx : x.right = true) :
   Calls Try.prog 127 #[.agg #[D, .int .i64 x.off, .int .i64 x.n, .int .i64 x.inc]] w
    (fun e w' => e = .returned (.tuple #[.int .i64 (mostTo x x.n.toNat), .int .i64 0]) ∧ ∃ o n, w' = ext w o n) := by
  have hx0 : 0 ≤ x.n := by have := VecM.right_n hx; omega
  have hx1 : x.n ≤ 9223372036854775807 := by have := hxw.2.1.2; omega
  have k1 : (!x.right) = false := by simp [hx]
  have Hx := hid hx
  have Hw1 := hid hxw
  clear hxw hx
  go_enter Try.func127, Try.ntmps127
  refine seq_stop ?_
  go_wp2
  refine stop_go (fun W hW => ?_)
  have s1 : w.heap.size < W.heap.size := by rw [hW]; simp only [World.size_alloc]; omega
  have b1 : ∀ i, W.cell? ⟨w.heap.size, i, none⟩ = (#[D, .int .i64 x.off, .int .i64 x.n, .int .i64 x.inc] : Array Value)[i]? := by intro i; rw [hW]; go_simp
  have g0 : Grew w W := by rw [hW]; exact (Grew.refl _).alloc _
  clear hW
  have hDW : FS W D x.ws := hD.grew g0
  go_wp2_with (first | (go_at_call 135; ((with_reducible refine (right_any x D _ ?_ Hw1.out).mono ?_); (focus (first | (with_reducible assumption) | (with_reducible refine FS.ext ?_ _ _; with_reducible assumption) | (with_reducible refine IS.ext ?_ _ _; with_reducible assumption) | (refine hDu _ ?_; with_reducible assumption) | (refine hOu _ ?_; with_reducible assumption) | (refine hDa _ ?_; with_reducible assumption) | (refine hDb _ ?_; with_reducible assumption) | (refine hDc _ ?_; with_reducible assumption) | (refine hDd _ ?_; with_reducible assumption) | (refine FW.fs ?_ (by omega) _; with_reducible assumption) | (refine WS.fs ?_; with_reducible assumption) | (refine FW.fs ?_ (by omega) _; assumption) | omega | assumption)); rintro e w1 ⟨rfl, o1, n1, rfl⟩)))
  go_loopw [4, 11] (fun s c wr => ∃ (j : Nat) (m : Int), (j : Int) ≤ x.n ∧ c = .int .i64 j ∧ s = .int .i64 m ∧ m = mostTo x j ∧
     ∃ o n, wr = ext W o n) (fun _ c _ => (x.n - intOf c).toNat)
  case atStart => exact ⟨0, -1, hx0, rfl, rfl, rfl, _, _, rfl⟩
  case round =>
    obtain ⟨j, m, hj, rfl, rfl, hm, o3, n3, hwr⟩ := hrel
    subst hwr
    have hmr := mostTo_range x j
    rw [← hm] at hmr
    have Hm := hid hm
    clear hm
    by_cases hlt : (j : Int) < x.n
    · by_cases hm0 : m < 0
      · go_wp2
        refine wp_region_R (Grew W) [] [(0,0), (0,1), (0,2), (0,3), (0,4), (0,7), (0,8), (1,5), (1,6), (1,9), (1,10), (0,11), (0,12)] (by kernel_rfl) (by kernel_rfl) (fun _ _ _ _ h _ => h) (by first | exact ⟨_, _, ext_drew⟩ | exact ⟨_, _, drew_ext0⟩ | (show Grew _ _; repeat (first | (with_reducible exact Grew.refl _) | (with_reducible assumption) | (with_reducible refine Grew.ext ?_ _ _) | (with_reducible refine Grew.alloc ?_ _) | ((with_reducible refine Grew.setCell ?_ ?_ _); rotate_left; (focus (dsimp only; first | omega | (simp only [size_ext, World.size_alloc, Array.size_append]; omega)))) | (with_reducible refine Grew.drewN ?_ _) | (with_reducible refine Grew.drew ?_)))) ?_
        go_wp2_with (first | ((with_reducible refine wpR_id ?_); first | (refine wpR_take (v := ?_) rfl rfl ?_ ?_; rotate_left; (focus (rintro w' ⟨o', n', rfl⟩; go_simp; try with_reducible rfl)); simp only [Act.put, List.setIfInBounds_toArray, List.set_cons_zero, List.set_cons_succ]) | (refine wpR_pure (v := ?_) rfl rfl ?_ ?_; rotate_left; (focus (intro w'; go_simp; try with_reducible rfl)); simp only [Act.put, List.setIfInBounds_toArray, List.set_cons_zero, List.set_cons_succ]) | (refine wpR_takeG (v := ?_) rfl rfl rfl rfl rfl ?_ ?_; rotate_left; (focus (rintro w' ⟨o', n', rfl⟩; go_simp; try with_reducible rfl)); simp only [Act.put, List.setIfInBounds_toArray, List.set_cons_zero, List.set_cons_succ]) | (refine wpR_skip rfl rfl rfl rfl rfl rfl ?_; simp only [Act.put, List.setIfInBounds_toArray, List.set_cons_zero, List.set_cons_succ]) | (refine wpR_skipU rfl rfl rfl rfl rfl ?_; simp only [Act.put, List.setIfInBounds_toArray, List.set_cons_zero, List.set_cons_succ]) | (refine wpR_do rfl rfl (fun K hK => ?_)) | (refine wpR_doG rfl rfl rfl rfl rfl (fun K hK => ?_)) | (refine wpR_last rfl rfl (fun K hK => ?_)) | (refine wpR_nil ?_)) | ((with_reducible refine wpR_go ?_ ?_); (focus exact ⟨_, _, rfl⟩)) | ((with_reducible refine upon_id ?_); refine upon_fop rfl (by assumption) (by assumption) ?_; intro rr nn hr))
        go_roundw
        case rel => exact ⟨j + 1, j, by omega, by go_num, rfl, by unfold mostTo; rw [if_pos (.inl (by rw [← Hm.out]; exact hm0))], _, _, rfl⟩
        case measure => simp [intOf]; omega
      · obtain ⟨m', rfl⟩ : ∃ m' : Nat, m = m' := ⟨m.toNat, by omega⟩
        have hlt2 : (m' : Int) < x.n := by omega
        have hm1 : decide ((m' : Int) < 0) = false := by simp
        go_wp2
        refine wp_region_R (Grew W) [] [(0,0), (0,1), (0,2), (0,3), (0,4), (0,7), (0,8), (1,5), (1,6), (1,9), (1,10), (0,11), (0,12)] (by kernel_rfl) (by kernel_rfl) (fun _ _ _ _ h _ => h) (by first | exact ⟨_, _, ext_drew⟩ | exact ⟨_, _, drew_ext0⟩ | (show Grew _ _; repeat (first | (with_reducible exact Grew.refl _) | (with_reducible assumption) | (with_reducible refine Grew.ext ?_ _ _) | (with_reducible refine Grew.alloc ?_ _) | ((with_reducible refine Grew.setCell ?_ ?_ _); rotate_left; (focus (dsimp only; first | omega | (simp only [size_ext, World.size_alloc, Array.size_append]; omega)))) | (with_reducible refine Grew.drewN ?_ _) | (with_reducible refine Grew.drew ?_)))) ?_
        go_wp2_with (first | ((with_reducible refine wpR_id ?_); first | (refine wpR_take (v := ?_) rfl rfl ?_ ?_; rotate_left; (focus (rintro w' ⟨o', n', rfl⟩; go_simp; try with_reducible rfl)); simp only [Act.put, List.setIfInBounds_toArray, List.set_cons_zero, List.set_cons_succ]) | (refine wpR_pure (v := ?_) rfl rfl ?_ ?_; rotate_left; (focus (intro w'; go_simp; try with_reducible rfl)); simp only [Act.put, List.setIfInBounds_toArray, List.set_cons_zero, List.set_cons_succ]) | (refine wpR_takeG (v := ?_) rfl rfl rfl rfl rfl ?_ ?_; rotate_left; (focus (rintro w' ⟨o', n', rfl⟩; go_simp; try with_reducible rfl)); simp only [Act.put, List.setIfInBounds_toArray, List.set_cons_zero, List.set_cons_succ]) | (refine wpR_skip rfl rfl rfl rfl rfl rfl ?_; simp only [Act.put, List.setIfInBounds_toArray, List.set_cons_zero, List.set_cons_succ]) | (refine wpR_skipU rfl rfl rfl rfl rfl ?_; simp only [Act.put, List.setIfInBounds_toArray, List.set_cons_zero, List.set_cons_succ]) | (refine wpR_do rfl rfl (fun K hK => ?_)) | (refine wpR_doG rfl rfl rfl rfl rfl (fun K hK => ?_)) | (refine wpR_last rfl rfl (fun K hK => ?_)) | (refine wpR_nil ?_)) | ((with_reducible refine wpR_go ?_ ?_); (focus exact ⟨_, _, rfl⟩)) | ((with_reducible refine upon_id ?_); refine upon_fop rfl (by assumption) (by assumption) ?_; intro rr nn hr) | (go_at_call 192; ((with_reducible refine (at_any x D j _ ?_ Hx.out hlt).mono ?_); (focus (first | (with_reducible assumption) | (with_reducible refine FS.ext ?_ _ _; with_reducible assumption) | (with_reducible refine IS.ext ?_ _ _; with_reducible assumption) | (refine hDu _ ?_; with_reducible assumption) | (refine hOu _ ?_; with_reducible assumption) | (refine hDa _ ?_; with_reducible assumption) | (refine hDb _ ?_; with_reducible assumption) | (refine hDc _ ?_; with_reducible assumption) | (refine hDd _ ?_; with_reducible assumption) | (refine FW.fs ?_ (by omega) _; with_reducible assumption) | (refine WS.fs ?_; with_reducible assumption) | (refine FW.fs ?_ (by omega) _; assumption) | omega | assumption)); rintro e w1 ⟨bx, rfl, hbx, o4, n4, rfl⟩)) | (go_at_call 192; ((with_reducible refine (at_any x D m' _ ?_ Hx.out hlt2).mono ?_); (focus (first | (with_reducible assumption) | (with_reducible refine FS.ext ?_ _ _; with_reducible assumption) | (with_reducible refine IS.ext ?_ _ _; with_reducible assumption) | (refine hDu _ ?_; with_reducible assumption) | (refine hOu _ ?_; with_reducible assumption) | (refine hDa _ ?_; with_reducible assumption) | (refine hDb _ ?_; with_reducible assumption) | (refine hDc _ ?_; with_reducible assumption) | (refine hDd _ ?_; with_reducible assumption) | (refine FW.fs ?_ (by omega) _; with_reducible assumption) | (refine WS.fs ?_; with_reducible assumption) | (refine FW.fs ?_ (by omega) _; assumption) | omega | assumption)); rintro e w1 ⟨by', rfl, hby, o4, n4, rfl⟩)) | (go_at_call 164; ((with_reducible refine (mabs_any _ _ _ (by assumption)).mono ?_); rintro e w1 ⟨ra, rfl, hra, rfl⟩)))
        · have q : fgt (fabs (x.num j)) (fabs (x.num m')) = true := gt_fact (by assumption) (by assumption) (by assumption)
          go_roundw
          case rel => exact ⟨j + 1, j, by omega, by go_num, rfl, by unfold mostTo; rw [if_pos (.inr (by rw [← Hm.out]; exact q))], _, _, rfl⟩
          case measure => simp [intOf]; omega
        · have q : fgt (fabs (x.num j)) (fabs (x.num m')) = false := gt_fact (by assumption) (by assumption) (by assumption)
          go_roundw
          case rel => exact ⟨j + 1, m', by omega, by go_num, rfl, by unfold mostTo; rw [if_neg (by rw [← Hm.out]; simp [q])]; exact Hm.out, _, _, rfl⟩
          case measure => simp [intOf]; omega
    · go_wp2
      go_ret2
      have e : x.n.toNat = j := by omega
      exact ⟨by rw [e, ← Hm.out]; rfl, g0.ext _ _⟩
end Go.Proofs.Ytcmggfpcbijcjaa
end
section
/-
  A region that draws, and where several operations act in no fixed order: a tree of orders.
-/
set_option linter.unusedSimpArgs false
set_option linter.unusedVariables false
namespace Sedge
open Go Go.RowKit
/-- A tree of orders: step k i t (kind 0: the same in every world of the class; 3: in every world); alt i t m: either i acts, then t; or one of m; stop: no more. -/
inductive OT where
  | done
  | step (k i : Nat) (t : OT)
  | alt (i : Nat) (t m : OT)
  | stop
def OT.alts : OT → List Nat
  | .alt i _ m => i :: m.alts
  | _ => []
def OT.fuel : OT → Nat
  | .done => 0
  | .step _ _ t => t.fuel + 1
  | .alt _ t _ => t.fuel + 1
  | .stop => 0
section
variable {P : Program} {ops : Array Oper} {Q : Exit → Act → World → Prop} {S : World → Prop}
def wpF (P : Program) (ops : Array Oper) (Q : Exit → Act → World → Prop) (S : World → Prop) : OT → Act → World → Prop
  | .done, a, w => Q .normal a w
  | .stop, _, _ => True
  | .step k i t, a, w =>
    match ops[i]? with
    | none => False
    | some o =>
      if Region.wanted o (yielded ops a.tmps) = true then
        ∃ v, (∀ w', (k = 0 → S w') → (execOp a.eval o).run P w' = .ok (.value v) w') ∧ wpF P ops Q S t (a.put o.dst v) w
      else wpF P ops Q S t (a.put o.dst undef) w
  | .alt i t m, a, w =>
    (match ops[i]? with
    | none => False
    | some o => o.guard = none ∧ o.wp P a w (fun a' w' => S w' ∧ wpF P ops Q S t a' w') Q) ∧ wpF P ops Q S m a w
def okF (ops : Array Oper) : OT → Array Bool → Bool → Bool
  | .done, listed, _ => (Region.ready .any ops listed).isEmpty
  | .stop, _, inner => inner
  | .step _ i t, listed, inner => !inner && (Region.ready .any ops listed).contains i && Region.free .any ops listed i && okF ops t (listed.setIfInBounds i true) false
  | .alt i t m, listed, inner => (inner || Region.ready .any ops listed == i :: m.alts) && okF ops t (listed.setIfInBounds i true) false && t.fuel == (match m with | .alt _ t' _ => t'.fuel | _ => t.fuel) && okF ops m listed true
theorem wanted_none' {o : Oper} {y : Nat → Option Bool} (hg : o.guard = none) : Region.wanted o y = true := by unfold Region.wanted; rw [hg]
theorem anyF (hsel : Region.noSelect ops = true) (hQ : ∀ c a d v w, Q (.panic c) (Act.put a d v) w → Q (.panic c) a w) : ∀ (t : OT),
    (∀ listed a w, okF ops t listed false = true → S w → wpF P ops Q S t a w → AnyT P .any ops Q S (fun _ => false) t.fuel listed a w) ∧
    (∀ listed a w n, okF ops t listed true = true → S w → wpF P ops Q S t a w → (∀ i t' m, t = .alt i t' m → t'.fuel = n) →
      ∀ j ∈ t.alts, wpOp P ops Q j (fun a' w' => (false = false → S w → S w') ∧ AnyT P .any ops Q S (fun _ => false) n (listed.setIfInBounds j true) a' w') a w)
  | .done => ⟨fun listed a w hok _ h => ⟨by simpa [okF] using hok, h⟩, fun _ _ _ _ _ _ _ _ j hj => by cases hj⟩
  | .stop => ⟨fun listed a w hok _ _ => by simp [okF] at hok, fun _ _ _ _ _ _ _ _ j hj => by cases hj⟩
  | .step k i t => by
    refine ⟨fun listed a w hok hS h => ?_, fun _ _ _ _ _ _ _ _ j hj => by cases hj⟩
    simp only [okF, Bool.and_eq_true, Bool.not_false, true_and] at hok
    obtain ⟨⟨h1, h2⟩, h3⟩ := hok
    unfold wpF at h
    cases ho : ops[i]? with
    | none => rw [ho] at h; exact h.elim
    | some o =>
      rw [ho] at h
      simp only at h
      by_cases hw : Region.wanted o (yielded ops a.tmps) = true
      · rw [if_pos hw] at h
        obtain ⟨v, hv, hn⟩ := h
        exact anyT_first (tail := fun _ => false) ho hsel hQ rfl (fun _ _ _ h => by cases h) t.fuel listed a w (Region.free_spec ho h2) (by simpa using h1) (.inl ⟨hw, fun w' hw' => hv w' fun _ => hw'⟩) hS ((anyF hsel hQ t).1 _ _ _ h3 hS hn)
      · rw [if_neg hw] at h
        exact anyT_first (tail := fun _ => false) ho hsel hQ rfl (fun _ _ _ h => by cases h) t.fuel listed a w (Region.free_spec ho h2) (by simpa using h1) (.inr ⟨by simpa using hw, rfl⟩) hS ((anyF hsel hQ t).1 _ _ _ h3 hS h)
  | .alt i t m => by
    have two : ∀ listed a w n, okF ops t (listed.setIfInBounds i true) false = true → okF ops m listed true = true → t.fuel = (match m with | .alt _ t' _ => t'.fuel | _ => t.fuel) → S w → wpF P ops Q S (.alt i t m) a w → t.fuel = n →
        ∀ j ∈ (OT.alt i t m).alts, wpOp P ops Q j (fun a' w' => (false = false → S w → S w') ∧ AnyT P .any ops Q S (fun _ => false) n (listed.setIfInBounds j true) a' w') a w := by
      intro listed a w n h1 h2 h3 hS h hn j hj
      unfold wpF at h
      obtain ⟨h4, h5⟩ := h
      rcases List.mem_cons.1 hj with rfl | hj
      · cases ho : ops[j]? with
        | none => rw [ho] at h4; exact h4.elim
        | some o =>
          rw [ho] at h4
          obtain ⟨hg, hwp⟩ := h4
          unfold wpOp
          rw [ho]
          simp only [wanted_none' hg, if_true]
          exact .inl (Oper.wp_mono (fun a' w' h' => ⟨fun _ _ => h'.1, by rw [← hn]; exact (anyF hsel hQ t).1 _ _ _ h1 h'.1 h'.2⟩) hwp)
      · refine (anyF hsel hQ m).2 listed a w n h2 hS h5 (fun i' t' m' hm => ?_) j hj
        subst hm
        simp only at h3
        omega
    refine ⟨fun listed a w hok hS h => ?_, fun listed a w n hok hS h hn => ?_⟩
    · simp only [okF, Bool.false_or, Bool.and_eq_true, beq_iff_eq] at hok
      obtain ⟨⟨⟨h1, h2⟩, h3⟩, h4⟩ := hok
      show AnyT P .any ops Q S _ (t.fuel + 1) listed a w
      refine ⟨fun h0 => (by rw [h1] at h0; cases h0), fun j hj => ?_⟩
      rw [h1] at hj
      exact two listed a w t.fuel h2 h4 h3 hS h rfl j hj
    · simp only [okF, Bool.true_or, Bool.true_and, Bool.and_eq_true, beq_iff_eq] at hok
      obtain ⟨⟨h2, h3⟩, h4⟩ := hok
      exact two listed a w n h2 h4 h3 hS h (hn i t m rfl)
theorem wp_region_F {id : Nat} {a : Act} {w : World} {l : List Oper} (S : World → Prop) (t : OT) (hm : P.follows .mixedOrders = true)
    (hB : (Region.noSelect l.toArray && okF l.toArray t (Array.replicate l.length false) false && t.fuel == l.length) = true)
    (hQ : ∀ c t df w, Q (.panic c) ⟨t, df⟩ w → ∀ t', Q (.panic c) ⟨t', df⟩ w) (hS : S w.drew)
    (h : wpF P l.toArray Q S t a w.drew) : (Code.region id l.toArray true).wp P Q a w := by
  simp only [Bool.and_eq_true, beq_iff_eq] at hB
  refine wp_region_any hm (any_of_anyT (S := S) (tail := fun _ => false) _ _ _ _ ?_)
  have hQ' : ∀ c a d v w, Q (.panic c) (Act.put a d v) w → Q (.panic c) a w := fun c a d v w h => by
    cases d with
    | none => exact h
    | some d => exact hQ c _ _ w h _
  have := (anyF (P := P) (Q := Q) (S := S) hB.1.1 hQ' t).1 (Array.replicate l.length false) a w.drew hB.1.2 hS h
  rw [hB.2] at this
  simpa using this
variable {l : List Oper}
theorem wpF_id {r : OT} {a : Act} {w : World} (h : wpF P ops Q S r a w) : wpF P ops Q S r a w := h
theorem wpF_done {a : Act} {w : World} (h : Q .normal a w) : wpF P ops Q S .done a w := h
theorem wpF_stop {a : Act} {w : World} : wpF P ops Q S .stop a w := trivial
theorem wpF_take {i : Nat} {o : Oper} {r : OT} {a : Act} {w : World} {v : Value} (ho : nth l i = some o) (hg : o.guard = none)
    (hv : ∀ w', S w' → (execOp a.eval o).run P w' = .ok (.value v) w')
    (h : wpF P l.toArray Q S r (a.put o.dst v) w) : wpF P l.toArray Q S (.step 0 i r) a w := by
  have hw := wanted_none (y := yielded l.toArray a.tmps) hg
  unfold wpF; rw [← nth_eq, ho]; simp only [hw, if_true]; exact ⟨v, fun w' h0 => hv w' (by simpa using h0), h⟩
theorem wpF_alt {i : Nat} {o : Oper} {r m : OT} {a : Act} {w : World} (ho : nth l i = some o) (hg : o.guard = none)
    (h : ∀ K : Act → World → Prop, (∀ a w, S w ∧ wpF P l.toArray Q S r a w → K a w) → o.wp P a w K Q) (hm : wpF P l.toArray Q S m a w) : wpF P l.toArray Q S (.alt i r m) a w := by
  unfold wpF; rw [← nth_eq, ho]; exact ⟨⟨hg, h _ fun _ _ h => h⟩, hm⟩
theorem wpF_go {r : OT} {a : Act} {w : World} (hS : S w) (h : wpF P ops Q S r a w) : S w ∧ wpF P ops Q S r a w := ⟨hS, h⟩
attribute [irreducible] wpF
end
end Sedge
end
