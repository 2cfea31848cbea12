/-
  Plain: what a number times a power of 2 is, by words.
-/
import Derived.Test.YtcmggfpcbijcjaaFltVal
set_option linter.unusedSimpArgs false
set_option linter.unusedVariables false
namespace Sedge
open Ieee
theorem log2_mul_pow (m k : Nat) (h : m ≠ 0) : (m * 2 ^ k).log2 = m.log2 + k := by
  have hp : 0 < 2 ^ k := Nat.two_pow_pos _
  have hm : m * 2 ^ k ≠ 0 := Nat.mul_ne_zero h (by omega)
  obtain ⟨h1, h2⟩ := log2_spec m h
  refine (Nat.log2_eq_iff hm).2 ⟨?_, ?_⟩
  · rw [Nat.pow_add]; exact Nat.mul_le_mul_right _ h1
  · rw [show m.log2 + k + 1 = m.log2 + 1 + k from by omega, Nat.pow_add]; exact Nat.mul_lt_mul_of_pos_right h2 hp
theorem rne_scale (m k D : Nat) : rne (m * 2 ^ k) (D + k) = rne m D := by
  have hp : 0 < 2 ^ k := Nat.two_pow_pos _
  unfold rne
  rw [Nat.pow_add, Nat.mul_div_mul_right _ _ hp, Nat.mul_mod_mul_right]
  generalize m % 2 ^ D = r
  generalize 2 ^ D = g
  generalize 2 ^ k = q at *
  have e1 : decide (g * q < 2 * (r * q)) = decide (g < 2 * r) := by
    rw [Bool.eq_iff_iff]; simp only [decide_eq_true_eq]
    rw [← Nat.mul_assoc]
    exact Nat.mul_lt_mul_right hp
  have e2 : decide (g * q = 2 * (r * q)) = decide (g = 2 * r) := by
    rw [Bool.eq_iff_iff]; simp only [decide_eq_true_eq]
    rw [← Nat.mul_assoc]
    exact ⟨fun h => Nat.eq_of_mul_eq_mul_right hp h, fun h => by rw [h]⟩
  rw [e1, e2]
theorem lastP_scale (m k : Nat) (p : Int) (h : m ≠ 0) : lastP (m * 2 ^ k) (p - k) = lastP m p := by
  unfold lastP; rw [log2_mul_pow m k h]; push_cast; congr 1; omega
theorem keptP_scale (m k : Nat) (p : Int) (h : m ≠ 0) : keptP (m * 2 ^ k) (p - k) = keptP m p := by
  unfold keptP; rw [lastP_scale m k p h]
  generalize lastP m p = L
  by_cases h1 : p ≤ L
  · obtain ⟨D, hD⟩ : ∃ D : Nat, L = p + D := ⟨(L - p).toNat, by omega⟩
    rw [show (p - ↑k - L).toNat = 0 by omega, show (L - (p - ↑k)).toNat = D + k by omega, show (p - L).toNat = 0 by omega, show (L - p).toNat = D by omega]
    simp only [Nat.shiftLeft_zero]
    exact rne_scale m k D
  · obtain ⟨u, hu⟩ : ∃ u : Nat, p = L + u := ⟨(p - L).toNat, by omega⟩
    rw [show (p - L).toNat = u by omega, show (L - p).toNat = 0 by omega, rne_zero]
    simp only [Nat.shiftLeft_eq]
    by_cases h2 : k ≤ u
    · rw [show (p - ↑k - L).toNat = u - k by omega, show (L - (p - ↑k)).toNat = 0 by omega, rne_zero, Nat.mul_assoc, ← Nat.pow_add, show k + (u - k) = u by omega]
    · rw [show (p - ↑k - L).toNat = 0 by omega, show (L - (p - ↑k)).toNat = k - u by omega, show m * 2 ^ k * 2 ^ 0 = m * 2 ^ u * 2 ^ (k - u) by
        rw [Nat.pow_zero, Nat.mul_one, Nat.mul_assoc, ← Nat.pow_add, show u + (k - u) = k by omega], rne_exact]
theorem nearest_scale (s : Bool) (m k : Nat) (p : Int) (h : m ≠ 0) : D64.nearest s (m * 2 ^ k) (p - k) = D64.nearest s m p := by
  rw [nearest_eq s m p h, nearest_eq s _ _ (Nat.mul_ne_zero h (by have := Nat.two_pow_pos k; omega)), lastP_scale m k p h, keptP_scale m k p h]
/-- Halved so often: what is left, the last digit that went, and whether one before it was 1. -/
def hvM (m t : Nat) : Nat := m / 2 ^ t
def hvH (m t : Nat) : Bool := decide (2 ^ t ≤ 2 * (m % 2 ^ t))
def hvL (m t : Nat) : Bool := decide (m % 2 ^ t ≠ 0) && decide (2 ^ t ≠ 2 * (m % 2 ^ t))
theorem hv_zero (m : Nat) : hvM m 0 = m ∧ hvH m 0 = false ∧ hvL m 0 = false := by
  refine ⟨by simp [hvM], ?_, ?_⟩
  · simp [hvH, Nat.mod_one]
  · simp [hvL, Nat.mod_one]
theorem hv_succ (m t : Nat) : hvM m (t + 1) = hvM m t / 2 ∧ hvH m (t + 1) = decide (hvM m t % 2 = 1) ∧ hvL m (t + 1) = (hvL m t || hvH m t) := by
  have hp : 0 < 2 ^ t := Nat.two_pow_pos _
  have h1 : m / 2 ^ (t + 1) = m / 2 ^ t / 2 := by rw [Nat.pow_succ, Nat.div_div_eq_div_mul]
  have h2 : m % 2 ^ (t + 1) = m % 2 ^ t + 2 ^ t * (m / 2 ^ t % 2) := by rw [Nat.pow_succ, Nat.mod_mul]
  have h3 := Nat.mod_lt m hp
  refine ⟨h1, ?_, ?_⟩
  · unfold hvH hvM; rw [h2, Nat.pow_succ]
    rcases Nat.mod_two_eq_zero_or_one (m / 2 ^ t) with h | h
    · rw [h]; simp; omega
    · rw [h]; simp; omega
  · unfold hvL hvH; rw [h2, Nat.pow_succ]
    generalize m % 2 ^ t = r at *
    generalize 2 ^ t = g at *
    rw [Bool.eq_iff_iff]
    rcases Nat.mod_two_eq_zero_or_one (m / g) with h | h
    · rw [h]; simp only [Nat.mul_zero, Nat.add_zero, Bool.and_eq_true, Bool.or_eq_true, decide_eq_true_eq]; omega
    · rw [h]; simp only [Nat.mul_one, Bool.and_eq_true, Bool.or_eq_true, decide_eq_true_eq]; omega
theorem hv_rne (m t : Nat) : rne m t = hvM m t + (hvH m t && (hvL m t || decide (hvM m t % 2 = 1))).toNat := by
  have hp : 0 < 2 ^ t := Nat.two_pow_pos _
  have h3 := Nat.mod_lt m hp
  unfold rne hvM hvH hvL
  congr 2
  generalize m % 2 ^ t = r at *
  generalize 2 ^ t = g at *
  rw [Bool.eq_iff_iff]
  simp only [Bool.and_eq_true, Bool.or_eq_true, decide_eq_true_eq, beq_iff_eq]
  omega
theorem log2_le_52 {m : Nat} (h0 : m ≠ 0) (h1 : m < 2 ^ 53) : m.log2 ≤ 52 := by
  have := (Nat.log2_lt h0).2 h1; omega
theorem log2_ge_52 {m : Nat} (h0 : m ≠ 0) (h1 : 2 ^ 52 ≤ m) : 52 ≤ m.log2 := (Nat.le_log2 h0).2 h1
/-- The digits and their place, as they stand before the end. -/
theorem nearest_at (s : Bool) (m : Nat) (e : Int) (t : Nat) (h0 : m ≠ 0) (h1 : m < 2 ^ 53) (h2 : 2 ^ 52 ≤ m ∨ e ≤ -1074) (h3 : -1074 ≤ e + t) (h4 : t ≠ 0 → e + t = -1074) :
    D64.nearest s m e = D64.word s (min ((e + t + 1074).toNat * BN + rne m t) IR) := by
  have hl : lastP m e = e + t := by
    obtain ⟨a, b⟩ := log2_spec m h0
    have hle : m.log2 ≤ 52 := log2_le_52 h0 h1
    unfold lastP
    rcases h2 with h2 | h2
    · have : m.log2 = 52 := by
        have := log2_ge_52 h0 h2; omega
      rw [this]
      by_cases ht : t = 0
      · subst ht; simp only [Int.natCast_zero, Int.add_zero] at *; omega
      · have := h4 ht; omega
    · by_cases ht : t = 0
      · subst ht; simp only [Int.natCast_zero, Int.add_zero] at *; omega
      · have := h4 ht; omega
  rw [nearest_eq s m e h0, hl]
  unfold keptP
  rw [hl, show (e - (e + ↑t)).toNat = 0 by omega, show (e + ↑t - e).toNat = t by omega, Nat.shiftLeft_zero]
/-- The word off digits and a place. -/
def makeW (s : Bool) (M : Nat) (e : Int) : Nat := D64.word s (min ((e + 1074).toNat * BN + M) IR)
theorem makeW_top (s : Bool) (e : Int) (he : -1074 ≤ e) : makeW s (2 ^ 53) e = makeW s (2 ^ 52) (e + 1) := by
  have : (e + 1074).toNat * BN + 2 ^ 53 = (e + 1 + 1074).toNat * BN + 2 ^ 52 := by unfold BN; omega
  unfold makeW; rw [this]
theorem makeW_inf (s : Bool) (M : Nat) (e : Int) (h : 2 ^ 52 ≤ M) (he : 972 ≤ e) : makeW s M e = D64.word s IR := by
  have : min ((e + 1074).toNat * BN + M) IR = IR := by unfold BN IR; omega
  unfold makeW; rw [this]
theorem makeW_low (s : Bool) (M : Nat) (h : M < 2 ^ 52) : makeW s M (-1074) = D64.word s M := by
  have : min ((-1074 + 1074 : Int).toNat * BN + M) IR = M := by unfold BN IR; omega
  unfold makeW; rw [this]
theorem makeW_mid (s : Bool) (M : Nat) (e : Int) (h : 2 ^ 52 ≤ M) (h2 : M < 2 ^ 53) (he : -1074 ≤ e) (he2 : e < 972) : makeW s M e = D64.word s ((e + 1075).toNat * BN + M - BN) := by
  have : min ((e + 1074).toNat * BN + M) IR = (e + 1075).toNat * BN + M - BN := by unfold BN IR; omega
  unfold makeW; rw [this]
theorem rne_small (m t : Nat) (h : 2 * m < 2 ^ t) : rne m t = 0 := by
  have h1 : m < 2 ^ t := by omega
  unfold rne
  rw [Nat.div_eq_of_lt h1, Nat.mod_eq_of_lt h1]
  have f1 : decide (2 ^ t < 2 * m) = false := by simp; omega
  have f2 : decide (2 ^ t = 2 * m) = false := by simp; omega
  rw [f1, f2]; rfl
theorem nearest_low (s : Bool) (m : Nat) (e : Int) (h0 : m ≠ 0) (h1 : m < 2 ^ 53) (h2 : e ≤ -1128) : D64.nearest s m e = D64.word s 0 := by
  obtain ⟨t, ht⟩ : ∃ t : Nat, e + t = -1074 := ⟨(-1074 - e).toNat, by omega⟩
  rw [nearest_at s m e t h0 h1 (.inr (by omega)) (by omega) (fun _ => ht), ht, rne_small]
  · rfl
  · have := Nat.pow_le_pow_right (n := 2) (by decide) (show 54 ≤ t by omega); omega
theorem nearest_high (s : Bool) (m : Nat) (e : Int) (h0 : m ≠ 0) (h1 : m < 2 ^ 53) (h2 : 1024 ≤ e) : D64.nearest s m e = D64.word s IR := by
  obtain ⟨a, b⟩ := log2_spec m h0
  have hle : m.log2 ≤ 52 := log2_le_52 h0 h1
  rw [nearest_eq s m e h0]
  have hl : 972 ≤ lastP m e := by unfold lastP; omega
  by_cases h5 : 973 ≤ lastP m e
  · have : min ((lastP m e + 1074).toNat * BN + keptP m e) IR = IR := by unfold BN IR; omega
    rw [this]
  · have h6 : lastP m e = 972 := by omega
    have h7 : e = 1024 ∧ m.log2 = 0 := by unfold lastP at h6; omega
    have h8 : m = 1 := by have := h7.2; rw [this] at a b; omega
    have h9 := h7.1
    subst h8; subst h9
    have : (lastP 1 1024 + 1074).toNat * BN + keptP 1 1024 = IR := by decide +kernel
    rw [this]; simp
/-- Halved down to its place. -/
theorem nearest_hv (s : Bool) (m : Nat) (e : Int) (t : Nat) (h0 : m ≠ 0) (h1 : m < 2 ^ 53) (h2 : 2 ^ 52 ≤ m ∨ e ≤ -1074) (h3 : -1074 ≤ e + t) (h4 : t ≠ 0 → e + t = -1074) :
    D64.nearest s m e = makeW s (hvM m t + (hvH m t && (hvL m t || decide (hvM m t % 2 = 1))).toNat) (e + t) := by
  rw [nearest_at s m e t h0 h1 h2 h3 h4, hv_rne]; rfl
/-- The exponent, held. -/
def kcl (k : Int) : Int := max (min k 5000) (-5000)
/-- x times 2^k. -/
def fscale (x : Nat) (k : Int) : Nat := if pKind x = 0 ∧ pMag x ≠ 0 then D64.nearest (pNeg x) (pMag x) (pExp x + kcl k) else x
end Sedge
