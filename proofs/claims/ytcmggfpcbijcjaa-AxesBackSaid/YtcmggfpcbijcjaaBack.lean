/-
  Plain: a number scaled up by a power of 2, and back.
-/
import Derived.Test.YtcmggfpcbijcjaaBnd
import Derived.Test.YtcmggfpcbijcjaaFltErr
set_option linter.unusedSimpArgs false
set_option linter.unusedVariables false
open Go Go.RowKit Sedge Ieee
namespace Go.Proofs.Ytcmggfpcbijcjaa
theorem parts_of_read {y : Nat} (hy : y < 2 ^ 64) {s : Bool} {m : Nat} {p : Int} (h : D64.read y = .number s m p) : pKind y = 0 ∧ pNeg y = s ∧ pMag y = m ∧ pExp y = p := by
  rw [read_eq y hy] at h
  by_cases k : pKind y = 0
  · rw [if_pos k] at h
    simp only [Datum.number.injEq] at h
    exact ⟨k, h.1, h.2.1, h.2.2⟩
  · rw [if_neg k] at h
    split at h <;> cases h
/-- Digits as they are kept, read back. -/
theorem read_made (s : Bool) (l : Int) (M : Nat) (hl : -1074 ≤ l) (hM : M < 2 ^ 53) (hn : 2 ^ 52 ≤ M ∨ l = -1074) (hf : (l + 1074).toNat * BN + M < IR) :
    D64.read (D64.word s ((l + 1074).toNat * BN + M)) = .number s M l := by
  have p52 : (2:Nat) ^ 52 = 4503599627370496 := by decide
  have p53 : (2:Nat) ^ 53 = 9007199254740992 := by decide
  rw [p52] at hn
  rw [p53] at hM
  have hIR : IR = 9218868437227405312 := by decide +kernel
  by_cases h : 4503599627370496 ≤ M
  · have e : (l + 1074).toNat * BN + M = (l + 1075).toNat * BN + (M - 4503599627370496) := by unfold BN; omega
    have h2 : (l + 1075).toNat ≤ 2046 := by rw [hIR] at hf; unfold BN at hf; omega
    rw [e, read_mid s _ _ (by omega) h2 (by unfold BN; omega)]
    rw [show BN + (M - 4503599627370496) = M by unfold BN; omega, show (((l + 1075).toNat : Nat) : Int) - 1075 = l by omega]
  · have hl0 : l = -1074 := by omega
    subst hl0
    have e : (-1074 + 1074 : Int).toNat * BN + M = M := by simp
    rw [e, read_word s M (by unfold SW; omega), if_pos (by unfold BN; omega)]
theorem canon_word {x : Nat} (hx : x < 2 ^ 64) : x = D64.word (pNeg x) (expo x * BN + frac x) := by
  have p63 : (2:Nat) ^ 63 = 9223372036854775808 := by decide
  have p64 : (2:Nat) ^ 64 = 18446744073709551616 := by decide
  have hSW : SW = 9223372036854775808 := by decide +kernel
  rw [word_sN, ← rung_eq, p63]
  unfold pNeg sN
  rw [hSW]
  rw [p64] at hx
  by_cases h : x / 9223372036854775808 = 1
  · simp [h]; omega
  · simp [h]; omega
theorem rung_norm (E F : Nat) (h : E ≠ 0) : ((E : Int) - 1075 + ((0 : Nat) : Int) + 1074).toNat * BN + (F + BN) = E * BN + F := by
  have e : ((E : Int) - 1075 + ((0 : Nat) : Int) + 1074).toNat = E - 1 := by omega
  rw [e]
  obtain ⟨n, rfl⟩ : ∃ n, E = n + 1 := ⟨E - 1, by omega⟩
  rw [Nat.add_sub_cancel, Nat.add_mul, Nat.one_mul]
  generalize n * BN = a
  generalize BN = b
  omega
theorem rung_le {x : Nat} (h : expo x ≠ 2047) : expo x * BN + frac x ≤ IR := by
  have h1 := expo_lt x
  have h2 := frac_lt' x
  unfold BN IR; omega
/-- A finite number is the nearest to itself. -/
theorem nearest_parts {x : Nat} (hx : x < 2 ^ 64) (hk : pKind x = 0) (h0 : pMag x ≠ 0) : D64.nearest (pNeg x) (pMag x) (pExp x) = x := by
  have hge := pExp_ge x hk
  have hf := frac_lt' x
  have he := expo_lt x
  have hIR : IR = 9218868437227405312 := by decide +kernel
  have p52 : (2:Nat) ^ 52 = 4503599627370496 := by decide
  have hne : expo x ≠ 2047 := by
    intro e; unfold pKind at hk; rw [if_pos e] at hk; split at hk <;> omega
  have h2 : 2 ^ 52 ≤ pMag x ∨ pExp x ≤ -1074 := by
    unfold pMag pExp
    rw [if_neg hne, if_neg hne, p52]
    by_cases h : expo x = 0
    · right; rw [if_pos h]; omega
    · left; rw [if_neg h]; unfold BN; omega
  have hm := pMag_lt x
  rw [nearest_at (pNeg x) (pMag x) (pExp x) 0 h0 hm h2 (by simp; omega) (by simp), rne_zero]
  have e : (pExp x + (0 : Nat) + 1074).toNat * BN + pMag x = expo x * BN + frac x := by
    unfold pMag pExp
    rw [if_neg hne, if_neg hne]
    by_cases h : expo x = 0
    · rw [if_pos h, if_pos h, h]; simp
    · rw [if_neg h, if_neg h]; exact rung_norm _ _ h
  have hle := rung_le hne
  rw [e, Nat.min_eq_left hle]
  exact (canon_word hx).symm
theorem kcl_in {k : Int} (h : -5000 ≤ k ∧ k ≤ 5000) : kcl k = k := by unfold kcl; omega
/-- Up, and back. -/
theorem fscale_back {x : Nat} (hx : IsF x x) {k : Int} (h0 : 0 ≤ k) (h1 : k ≤ 255) (hf : finB (fscale x k) = true) : fscale (fscale x k) (-k) = x := by
  by_cases hp : pKind x = 0 ∧ pMag x ≠ 0
  · obtain ⟨hk, hm⟩ := hp
    have hge := pExp_ge x hk
    have hlt := pMag_lt x
    have e1 : fscale x k = D64.nearest (pNeg x) (pMag x) (pExp x + k) := by
      unfold fscale; rw [if_pos ⟨hk, hm⟩, kcl_in (by omega)]
    rw [e1] at hf ⊢
    have hself := nearest_parts hx.1 hk hm
    generalize pNeg x = s at *
    generalize pExp x = e at *
    generalize pMag x = m at *
    have hlog := log2_le_52 hm hlt
    have hle : lastP m (e + k) ≤ e + k := by unfold lastP; omega
    have hge2 := lastP_ge m (e + k)
    have hor := lastP_or m (e + k)
    obtain ⟨j, hj⟩ : ∃ j : Nat, lastP m (e + k) = e + k - j := ⟨(e + k - lastP m (e + k)).toNat, by omega⟩
    have hkept : keptP m (e + k) = m * 2 ^ j := by
      unfold keptP
      rw [hj, show (e + k - j - (e + k)).toNat = 0 by omega, show (e + k - (e + k - (j : Int))).toNat = j by omega, rne_zero, Nat.shiftLeft_eq]
    obtain ⟨a, b⟩ := log2_spec m hm
    have hj52 : m.log2 + j ≤ 52 := by omega
    have hM : m * 2 ^ j < 2 ^ 53 := by
      have := Nat.mul_lt_mul_of_pos_right b (Nat.two_pow_pos j)
      rw [← Nat.pow_add] at this
      exact Nat.lt_of_lt_of_le this (Nat.pow_le_pow_right (by decide) (by omega))
    have hn : 2 ^ 52 ≤ m * 2 ^ j ∨ e + k - j = -1074 := by
      rcases hor with h | h
      · left
        have hh : m.log2 + j = 52 := by omega
        have := Nat.mul_le_mul_right (2 ^ j) a
        rw [← Nat.pow_add, hh] at this
        exact this
      · right; omega
    have hnz : m * 2 ^ j ≠ 0 := Nat.mul_ne_zero hm (Nat.pos_iff_ne_zero.1 (Nat.two_pow_pos j))
    have hw := nearest_eq s m (e + k) hm
    rw [hj, hkept] at hw
    rw [hj] at hge2
    by_cases hfin : (e + k - j + 1074).toNat * BN + m * 2 ^ j < IR
    · rw [Nat.min_eq_left (Nat.le_of_lt hfin)] at hw
      have hr := read_made s (e + k - j) (m * 2 ^ j) hge2 hM hn hfin
      have hlt64 := (isF_word s _ (Nat.le_of_lt hfin)).1
      rw [← hw] at hr hlt64
      obtain ⟨p1, p2, p3, p4⟩ := parts_of_read hlt64 hr
      have e2 : fscale (D64.nearest s m (e + k)) (-k) = D64.nearest s (m * 2 ^ j) (e + k - j + -k) := by
        unfold fscale
        rw [if_pos ⟨p1, by rw [p3]; exact hnz⟩, p2, p3, p4, kcl_in (by omega)]
      rw [e2, show e + k - (j : Int) + -k = e - j by omega, nearest_scale s m j e hm]
      exact hself
    · rw [Nat.min_eq_right (by omega)] at hw
      rw [hw] at hf
      exfalso
      have : ∀ s, finB (D64.word s IR) = false := by intro s; cases s <;> decide +kernel
      rw [this s] at hf
      cases hf
  · have e1 : fscale x k = x := by unfold fscale; rw [if_neg hp]
    rw [e1]
    unfold fscale; rw [if_neg hp]
end Go.Proofs.Ytcmggfpcbijcjaa
