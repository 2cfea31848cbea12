/-
  Plain laws on 64-bit floats: what a word is worth, and how far what is written is from what was meant.
-/
import Derived.Test.YtcmggfpcbijcjaaFlt
set_option linter.unusedSimpArgs false
set_option linter.unusedVariables false
namespace Sedge
open Ieee

/-- n / 2^drop, to the nearest, of two the even one. -/
def rne (n drop : Nat) : Nat :=
  n / 2 ^ drop + (decide (2 ^ drop < 2 * (n % 2 ^ drop)) || (decide (2 ^ drop = 2 * (n % 2 ^ drop)) && n / 2 ^ drop % 2 == 1)).toNat

theorem cut_even (neg : Bool) (n drop : Nat) : Toward.even.cut neg n drop = rne n drop := by
  unfold Toward.cut rne
  by_cases h : drop ≤ n.log2 + 2
  · rw [Nat.min_eq_left h]
    simp only [Nat.one_shiftLeft]
    have e1 : (2 ^ drop == 2 * (n % 2 ^ drop)) = decide (2 ^ drop = 2 * (n % 2 ^ drop)) := by rw [Bool.eq_iff_iff]; simp
    simp only [e1]
  · rw [Nat.min_eq_right (by omega)]
    simp only [Nat.one_shiftLeft]
    have h1 : n < 2 ^ (n.log2 + 1) := Nat.lt_log2_self
    have h2 : 2 ^ (n.log2 + 2) = 2 * 2 ^ (n.log2 + 1) := by rw [Nat.pow_succ, Nat.mul_comm]
    have h3 : 2 ^ (n.log2 + 2) ≤ 2 ^ drop := Nat.pow_le_pow_right (by decide) (by omega)
    have d1 : n / 2 ^ (n.log2 + 2) = 0 := Nat.div_eq_of_lt (by omega)
    have m1 : n % 2 ^ (n.log2 + 2) = n := Nat.mod_eq_of_lt (by omega)
    have d2 : n / 2 ^ drop = 0 := Nat.div_eq_of_lt (by omega)
    have m2 : n % 2 ^ drop = n := Nat.mod_eq_of_lt (by omega)
    rw [d1, m1, d2, m2]
    have f1 : decide (2 ^ (n.log2 + 2) < 2 * n) = false := by simp; omega
    have f2 : decide (2 ^ drop < 2 * n) = false := by simp; omega
    rw [f1, f2]; simp

theorem rne_lo (n drop : Nat) : 2 * n ≤ 2 * (rne n drop * 2 ^ drop) + 2 ^ drop := by
  unfold rne
  have hd := Nat.div_add_mod n (2 ^ drop)
  have hp : 0 < 2 ^ drop := Nat.two_pow_pos _
  have hm := Nat.mod_lt n hp
  generalize n / 2 ^ drop = q at *
  generalize n % 2 ^ drop = r at *
  generalize 2 ^ drop = g at *
  subst hd
  rw [Nat.add_mul, Nat.mul_comm q g]
  by_cases h1 : g < 2 * r
  · simp [h1]; omega
  · have : 2 * r ≤ g := by omega
    omega
theorem rne_hi (n drop : Nat) : 2 * (rne n drop * 2 ^ drop) ≤ 2 * n + 2 ^ drop := by
  unfold rne
  have hd := Nat.div_add_mod n (2 ^ drop)
  have hp : 0 < 2 ^ drop := Nat.two_pow_pos _
  have hm := Nat.mod_lt n hp
  generalize n / 2 ^ drop = q at *
  generalize n % 2 ^ drop = r at *
  generalize 2 ^ drop = g at *
  subst hd
  rw [Nat.add_mul, Nat.mul_comm q g]
  by_cases h1 : g < 2 * r
  · simp [h1]; omega
  · by_cases h2 : g = 2 * r
    · cases h3 : (q % 2 == 1)
      · simp [h1]; omega
      · simp [h2]; omega
    · simp [h1, h2]; omega
/-- What divides is not rounded. -/
theorem rne_exact (k drop : Nat) : rne (k * 2 ^ drop) drop = k := by
  unfold rne
  have hp : 0 < 2 ^ drop := Nat.two_pow_pos _
  rw [Nat.mul_div_cancel _ hp, Nat.mul_mod_left]
  have f1 : decide (2 ^ drop < 2 * 0) = false := by simp
  have f2 : decide (2 ^ drop = 2 * 0) = false := by simp
  rw [f1, f2]; simp
theorem rne_zero (n : Nat) : rne n 0 = n := by
  have := rne_exact n 0
  simpa using this
theorem rne_mono {m n : Nat} (h : m ≤ n) (drop : Nat) : rne m drop ≤ rne n drop := by
  have hp : 0 < 2 ^ drop := Nat.two_pow_pos _
  unfold rne
  have h1 : m / 2 ^ drop ≤ n / 2 ^ drop := Nat.div_le_div_right h
  rcases Nat.lt_or_ge (m / 2 ^ drop) (n / 2 ^ drop) with h2 | h2
  · have : ∀ b : Bool, b.toNat ≤ 1 := by intro b; cases b <;> decide
    have := this (decide (2 ^ drop < 2 * (m % 2 ^ drop)) || (decide (2 ^ drop = 2 * (m % 2 ^ drop)) && m / 2 ^ drop % 2 == 1))
    omega
  · have h3 : m / 2 ^ drop = n / 2 ^ drop := Nat.le_antisymm h1 h2
    have h4 : m % 2 ^ drop ≤ n % 2 ^ drop := by
      have a := Nat.div_add_mod m (2 ^ drop)
      have b := Nat.div_add_mod n (2 ^ drop)
      rw [h3] at a
      omega
    rw [h3]
    refine Nat.add_le_add_left ?_ _
    generalize m % 2 ^ drop = r at *
    generalize n % 2 ^ drop = s at *
    generalize 2 ^ drop = g at *
    by_cases c1 : g < 2 * r
    · have c2 : g < 2 * s := by omega
      simp [c1, c2]
    · by_cases c3 : g = 2 * r
      · by_cases c2 : g < 2 * s
        · simp [c2]; exact Bool.toNat_le _
        · have : s = r := by omega
          subst this; exact Nat.le_refl _
      · simp [c1, c3]

/-- The place of the last digit that is kept. -/
def lastP (m : Nat) (p : Int) : Int := max (p + m.log2 - 52) (-1074)
/-- The digits that are kept. -/
def keptP (m : Nat) (p : Int) : Nat := rne (m <<< (p - lastP m p).toNat) (lastP m p - p).toNat

theorem nearest_eq (neg : Bool) (m : Nat) (p : Int) (h : m ≠ 0) :
    D64.nearest neg m p = D64.word neg (min ((lastP m p + 1074).toNat * BN + keptP m p) IR) := by
  unfold Format.nearest
  rw [if_neg h]
  simp only [leastPlace_eq, binade_eq, infRung_eq, cut_even]
  have : (D64.fractionBits : Int) = 52 := rfl
  rw [this]
  unfold keptP
  have e : lastP m p - -1074 = lastP m p + 1074 := by omega
  show D64.word neg (min ((lastP m p - -1074).toNat * BN + _) IR) = _
  rw [e]
  rfl

theorem log2_spec (m : Nat) (h : m ≠ 0) : 2 ^ m.log2 ≤ m ∧ m < 2 ^ (m.log2 + 1) := ⟨Nat.log2_self_le h, Nat.lt_log2_self⟩

end Sedge
