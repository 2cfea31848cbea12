/-
  Plain: what math.Ldexp does to a number's word.
-/
import Derived.Test.YtcmggfpcbijcjaaFltScale
set_option linter.unusedSimpArgs false
set_option linter.unusedVariables false
namespace Sedge
open Ieee
theorem BN_eq' : BN = 2 ^ 52 := by decide +kernel
theorem fmul_num {x y : Nat} {s t : Bool} {m n : Nat} {p q : Int} (hx : D64.read x = .number s m p) (hy : D64.read y = .number t n q) : fmul x y = D64.nearest (s ^^ t) (m * n) (p + q) := by
  unfold fmul Format.mul; rw [hx, hy]; rfl
theorem read_one : D64.read 4607182418800017408 = .number false 4503599627370496 (-52) := by decide +kernel
theorem read_m53 : D64.read 4368491638549381120 = .number false 4503599627370496 (-105) := by decide +kernel
theorem read_p52 : D64.read 4841369599423283200 = .number false 4503599627370496 0 := by decide +kernel
theorem read_mid (s : Bool) (X f : Nat) (h1 : 1 ≤ X) (h2 : X ≤ 2046) (hf : f < BN) : D64.read (D64.word s (X * BN + f)) = .number s (BN + f) ((X : Int) - 1075) := by
  have hb : X * BN + f < SW := by unfold BN SW at *; omega
  have hd : (X * BN + f) / BN = X := by rw [Nat.mul_comm, Nat.mul_add_div (by decide +kernel), Nat.div_eq_of_lt hf, Nat.add_zero]
  have hm : (X * BN + f) % BN = f := by rw [Nat.mul_comm, Nat.mul_add_mod, Nat.mod_eq_of_lt hf]
  rw [read_word s _ hb, if_neg (by unfold BN; omega), if_pos (by unfold IR BN at *; omega), hd, hm]
  congr 1
  omega
/-- The end of Ldexp, by 1. -/
theorem ld_end1 (s : Bool) (X f : Nat) (e : Int) (h1 : 1 ≤ X) (h2 : X ≤ 2046) (hf : f < BN) (he : (X : Int) = e + 1023) : fmul 4607182418800017408 (D64.word s (X * BN + f)) = D64.nearest s (BN + f) (e - 52) := by
  rw [fmul_num read_one (read_mid s X f h1 h2 hf), ← nearest_scale s (BN + f) 52 (e - 52) (by unfold BN; omega)]
  have a1 : 4503599627370496 * (BN + f) = (BN + f) * 2 ^ 52 := by rw [Nat.mul_comm]
  have a2 : (-52 : Int) + ((X : Int) - 1075) = e - 52 - (52 : Nat) := by omega
  rw [a1, a2]; simp
/-- The end of Ldexp, by 2^-53. -/
theorem ld_end2 (s : Bool) (X f : Nat) (e : Int) (h1 : 1 ≤ X) (h2 : X ≤ 2046) (hf : f < BN) (he : (X : Int) = e + 53 + 1023) : fmul 4368491638549381120 (D64.word s (X * BN + f)) = D64.nearest s (BN + f) (e - 52) := by
  rw [fmul_num read_m53 (read_mid s X f h1 h2 hf), ← nearest_scale s (BN + f) 52 (e - 52) (by unfold BN; omega)]
  have a1 : 4503599627370496 * (BN + f) = (BN + f) * 2 ^ 52 := by rw [Nat.mul_comm]
  have a2 : (-105 : Int) + ((X : Int) - 1075) = e - 52 - (52 : Nat) := by omega
  rw [a1, a2]; simp
theorem ld_low (s : Bool) (f : Nat) (e : Int) (hf : f < BN) (he : e < -1075) : D64.nearest s (BN + f) (e - 52) = D64.word s 0 :=
  nearest_low s _ _ (by unfold BN; omega) (by unfold BN at *; omega) (by omega)
theorem ld_high (s : Bool) (f : Nat) (e : Int) (hf : f < BN) (he : 1023 < e) : D64.nearest s (BN + f) (e - 52) = D64.word s IR := by
  have h := nearest_hv s (BN + f) (e - 52) 0 (by unfold BN; omega) (by unfold BN at *; omega) (.inl (by unfold BN; omega)) (by omega) (fun h => absurd rfl h)
  rw [h, (hv_zero _).1, (hv_zero _).2.1]
  simp only [Bool.false_and, Bool.toNat_false, Nat.add_zero, Int.natCast_zero, Int.add_zero]
  exact makeW_inf s _ _ (by unfold BN; omega) (by omega)
theorem kept_of {A L : Nat} {p : Int} (h : lastP A p = p + L) : keptP A p = rne A L := by
  unfold keptP; rw [h, show (p - (p + (L : Int))).toNat = 0 by omega, show (p + (L : Int) - p).toNat = L by omega, Nat.shiftLeft_zero]
/-- A finite number that isn't 0, made normal: its word, and what it stands for. -/
theorem normal_of {x : Nat} (hx : x < 2 ^ 64) (hk : pKind x = 0) (h0 : pMag x ≠ 0) (he : expo x ≠ 0) :
    ∃ X f, 1 ≤ X ∧ X ≤ 2046 ∧ f < BN ∧ x = D64.word (pNeg x) (X * BN + f) ∧ ∀ k : Int, D64.nearest (pNeg x) (pMag x) (pExp x + k) = D64.nearest (pNeg x) (BN + f) (k + X - 1023 - 52) := by
  have h1 := expo_lt x
  have h2 : expo x ≠ 2047 := by
    intro h; unfold pKind at hk; rw [if_pos h] at hk; split at hk <;> cases hk
  refine ⟨expo x, frac x, by omega, by omega, frac_lt x, ?_, fun k => ?_⟩
  · have hr := rung_eq x
    unfold Format.word
    simp only [signWeight_eq]
    unfold pNeg
    by_cases h : x / SW = 1
    · rw [if_pos (by simpa using h), ← hr]
      have := Nat.div_add_mod x SW
      rw [h] at this; omega
    · rw [if_neg (by simpa using h), ← hr]
      have h3 : x / SW = 0 := by unfold SW at *; omega
      have := Nat.div_add_mod x SW
      rw [h3] at this; omega
  · have e1 : pMag x = BN + frac x := by unfold pMag; rw [if_neg h2, if_neg he, Nat.add_comm]
    have e2 : pExp x = (expo x : Int) - 1075 := by unfold pExp; rw [if_neg h2, if_neg he]
    rw [e1, e2]; congr 1; omega
theorem normal_sub {x : Nat} (hx : x < 2 ^ 64) (hk : pKind x = 0) (h0 : pMag x ≠ 0) (he : expo x = 0) :
    ∃ X f, 1 ≤ X ∧ X ≤ 2046 ∧ f < BN ∧ fmul x 4841369599423283200 = D64.word (pNeg x) (X * BN + f) ∧ ∀ k : Int, D64.nearest (pNeg x) (pMag x) (pExp x + k) = D64.nearest (pNeg x) (BN + f) (k - 52 + X - 1023 - 52) := by
  have e1 : pMag x = frac x := by unfold pMag; rw [if_neg (by omega), if_pos he]
  have e2 : pExp x = -1074 := by unfold pExp; rw [if_neg (by omega), if_pos he]
  have hr : D64.read x = .number (pNeg x) (frac x) (-1074) := by rw [read_eq x hx, if_pos hk, e1, e2]
  obtain ⟨m, hm⟩ : ∃ m, m = frac x := ⟨_, rfl⟩
  have hm0 : m ≠ 0 := by rw [hm, ← e1]; exact h0
  have hmb : m < BN := by rw [hm]; exact frac_lt x
  rw [e1, e2, fmul_num hr read_p52, ← hm, Bool.xor_false]
  obtain ⟨a, b⟩ := log2_spec m hm0
  obtain ⟨L, hL⟩ : ∃ L, L = m.log2 := ⟨_, rfl⟩
  have hL51 : L ≤ 51 := by
    have : m < 2 ^ 52 := by rw [← BN_eq']; exact hmb
    have := (Nat.log2_lt hm0).2 this; omega
  rw [← hL] at a b
  have hp : 2 ^ L * 2 ^ (52 - L) = 2 ^ 52 := by rw [← Nat.pow_add]; congr 1; omega
  have hM1 : 2 ^ 52 ≤ m * 2 ^ (52 - L) := by rw [← hp]; exact Nat.mul_le_mul_right _ a
  have hM2 : m * 2 ^ (52 - L) < 2 ^ 53 := by
    have : m * 2 ^ (52 - L) < 2 ^ (L + 1) * 2 ^ (52 - L) := Nat.mul_lt_mul_of_pos_right b (Nat.two_pow_pos _)
    rw [← Nat.pow_add, show L + 1 + (52 - L) = 53 by omega] at this; exact this
  obtain ⟨f, hf⟩ : ∃ f, m * 2 ^ (52 - L) = BN + f := ⟨m * 2 ^ (52 - L) - BN, by rw [BN_eq']; omega⟩
  have hfb : f < BN := by rw [BN_eq'] at *; omega
  refine ⟨L + 1, f, by omega, by omega, hfb, ?_, fun k => ?_⟩
  · rw [Int.add_zero]
    have e3 : m * 4503599627370496 = m * 2 ^ 52 := by rw [show (2 : Nat) ^ 52 = 4503599627370496 from by decide]
    obtain ⟨A, hA⟩ : ∃ A, A = m * 4503599627370496 := ⟨_, rfl⟩
    have hA0 : A ≠ 0 := by omega
    have hA2 : A = (BN + f) * 2 ^ L := by rw [hA, e3, ← hf, Nat.mul_assoc, ← Nat.pow_add, show 52 - L + L = 52 by omega]
    have hAl : A.log2 = L + 52 := by rw [hA, e3, log2_mul_pow m 52 hm0, hL]
    rw [← hA]
    clear hA e3
    have hl : lastP A (-1074) = -1074 + L := by unfold lastP; rw [hAl]; push_cast; omega
    rw [nearest_eq _ _ _ hA0, kept_of hl, hl, hA2, rne_exact]
    have h3 : (-1074 + (L : Int) + 1074).toNat = L := by omega
    rw [h3]
    have h4 : L * BN + (BN + f) ≤ IR := by unfold IR BN at *; omega
    rw [Nat.min_eq_left h4]
    have h5 : (L + 1) * BN = L * BN + BN := Nat.succ_mul L BN
    rw [h5, Nat.add_assoc]
  · rw [← nearest_scale (pNeg x) m (52 - L) (-1074 + k) hm0, hf]
    congr 1
    omega
theorem shl_eq (m k : Nat) : m <<< k = m * 2 ^ k := Nat.shiftLeft_eq m k
theorem read_zero : D64.read 0 = .number false 0 (-1074) := by decide +kernel
theorem read_min : D64.read 4503599627370496 = .number false 4503599627370496 (-1074) := by decide +kernel
theorem read_max : D64.read 9218868437227405311 = .number false 9007199254740991 971 := by decide +kernel
theorem pExp_ge (b : Nat) (hk : pKind b = 0) : -1074 ≤ pExp b ∧ pExp b ≤ 971 := by
  have h1 := expo_lt b
  have h2 : expo b ≠ 2047 := by
    intro h; unfold pKind at hk; rw [if_pos h] at hk; split at hk <;> cases hk
  unfold pExp; rw [if_neg h2]; split <;> omega
theorem pMag_lt (b : Nat) : pMag b < 2 ^ 53 := by
  have := frac_lt' b
  unfold pMag BN; split
  · decide
  · split <;> omega
theorem cmp_lt (a b : Int) : (compare a b == Ordering.lt) = decide (a < b) := by
  simp only [compare, compareOfLessAndEq]
  by_cases h : a < b
  · simp [h]
  · by_cases h2 : a = b <;> simp [h, h2]
theorem cmp_eq (a b : Int) : (compare a b == Ordering.eq) = decide (a = b) := by
  simp only [compare, compareOfLessAndEq]
  by_cases h : a < b
  · have : a ≠ b := by omega
    simp [h, this]
  · by_cases h2 : a = b <;> simp [h, h2]
theorem cmp_gt (a b : Int) : (compare a b == Ordering.gt) = decide (b < a) := by
  simp only [compare, compareOfLessAndEq]
  by_cases h : a < b
  · have : ¬ b < a := by omega
    simp [h, this]
  · by_cases h2 : a = b
    · simp [h2]
    · have : b < a := by omega
      simp [h, h2, this]
theorem some_beq (a b : Ordering) : (some a == some b) = (a == b) := rfl
theorem ord_zero (b : Nat) (hb : b < 2 ^ 64) (hk : pKind b = 0) : D64.order b 0 = some (compare (signed (pNeg b) (pMag b) (pExp b + 1074).toNat) 0) := by
  have h1 := pExp_ge b hk
  unfold Format.order
  rw [read_eq b hb, if_pos hk, read_zero]
  simp only [Datum.order]
  rw [show min (pExp b) (-1074 : Int) = -1074 by omega, show (pExp b - -1074).toNat = (pExp b + 1074).toNat by congr 1]
  have : signed false 0 ((-1074 : Int) - -1074).toNat = 0 := by decide
  rw [this]
theorem signed_zero_iff (s : Bool) (m k : Nat) : signed s m k = 0 ↔ m = 0 := by
  have hp := Nat.two_pow_pos k
  unfold signed
  rw [shl_eq]
  have h : m * 2 ^ k = 0 ↔ m = 0 := ⟨fun h => (Nat.mul_eq_zero.1 h).resolve_right (by omega), fun h => by rw [h, Nat.zero_mul]⟩
  rw [← h]
  generalize m * 2 ^ k = q
  cases s
  · rw [if_neg (by decide)]; omega
  · rw [if_pos rfl]; omega
theorem ord_zero_eq (b : Nat) (hb : b < 2 ^ 64) (hk : pKind b = 0) : (D64.order b 0 == some .eq) = decide (pMag b = 0) := by
  rw [ord_zero b hb hk, some_beq, cmp_eq, Bool.eq_iff_iff, decide_eq_true_eq, decide_eq_true_eq]
  exact signed_zero_iff _ _ _
theorem ord_zero_lt (b : Nat) (hb : b < 2 ^ 64) (hk : pKind b = 0) (h0 : pMag b ≠ 0) : (D64.order b 0 == some .lt) = pNeg b := by
  rw [ord_zero b hb hk, some_beq, cmp_lt, Bool.eq_iff_iff, decide_eq_true_eq]
  have hz : signed (pNeg b) (pMag b) (pExp b + 1074).toNat ≠ 0 := fun h => h0 ((signed_zero_iff _ _ _).1 h)
  unfold signed at *
  rw [shl_eq] at *
  generalize pMag b * 2 ^ (pExp b + 1074).toNat = q at *
  generalize pNeg b = s at *
  cases s
  · rw [if_neg (by decide)] at hz ⊢; simp
  · rw [if_pos rfl] at hz ⊢; simp; omega
theorem pNeg_abs (b : Nat) : pNeg (fabs b) = false := by
  unfold pNeg fabs
  rw [decide_eq_false_iff_not, Nat.div_eq_of_lt (Nat.mod_lt _ (by decide))]; decide
theorem parts_abs (b : Nat) : pKind (fabs b) = pKind b ∧ pMag (fabs b) = pMag b ∧ pExp (fabs b) = pExp b := by
  unfold pKind pMag pExp fabs; rw [(kind_abs b).1, (kind_abs b).2]; exact ⟨rfl, rfl, rfl⟩
/-- Below the least normal one. -/
theorem ord_min (b : Nat) (hb : b < 2 ^ 64) (hk : pKind b = 0) : (D64.order (fabs b) 4503599627370496 == some .lt) = decide (expo b = 0) := by
  have hb' : fabs b < 2 ^ 64 := Nat.lt_of_le_of_lt (Nat.mod_le _ _) hb
  obtain ⟨k1, k2, k3⟩ := parts_abs b
  have h1 := pExp_ge b hk
  have h2 : expo b ≠ 2047 := by
    intro h; unfold pKind at hk; rw [if_pos h] at hk; split at hk <;> cases hk
  have hf := frac_lt' b
  unfold Format.order
  rw [read_eq _ hb', k1, if_pos hk, read_min, pNeg_abs, k2, k3]
  simp only [Datum.order]
  rw [show min (pExp b) (-1074 : Int) = -1074 by omega, some_beq, cmp_lt, Bool.eq_iff_iff, decide_eq_true_eq, decide_eq_true_eq]
  unfold signed
  simp only [Bool.false_eq_true, if_false, shl_eq]
  have e1 : ((-1074 : Int) - -1074).toNat = 0 := by decide
  rw [e1]
  by_cases he : expo b = 0
  · have m1 : pMag b = frac b := by unfold pMag; rw [if_neg h2, if_pos he]
    have m2 : pExp b = -1074 := by unfold pExp; rw [if_neg h2, if_pos he]
    rw [m1, m2, e1]
    refine ⟨fun _ => he, fun _ => ?_⟩
    rw [Nat.pow_zero, Nat.mul_one, Nat.mul_one]; omega
  · have m1 : pMag b = frac b + BN := by unfold pMag; rw [if_neg h2, if_neg he]
    have hp := Nat.two_pow_pos (pExp b - -1074).toNat
    have : pMag b * 1 ≤ pMag b * 2 ^ (pExp b - -1074).toNat := Nat.mul_le_mul_left _ hp
    unfold BN at m1
    constructor
    · intro h; exfalso; rw [Nat.pow_zero, Nat.mul_one] at h; omega
    · intro h; exact absurd h he
/-- Above the greatest one: infinite. -/
theorem ord_max (b : Nat) (hb : b < 2 ^ 64) : (D64.order (fabs b) 9218868437227405311 == some .gt) = decide (pKind b = 1) := by
  have hb' : fabs b < 2 ^ 64 := Nat.lt_of_le_of_lt (Nat.mod_le _ _) hb
  obtain ⟨k1, k2, k3⟩ := parts_abs b
  unfold Format.order
  rw [read_eq _ hb', k1, read_max, pNeg_abs, k2, k3]
  by_cases h0 : pKind b = 0
  · have h1 := pExp_ge b h0
    have hm := pMag_lt b
    rw [if_pos h0]
    simp only [Datum.order]
    rw [show min (pExp b) (971 : Int) = pExp b by omega, some_beq, cmp_gt, Bool.eq_iff_iff, decide_eq_true_eq, decide_eq_true_eq]
    unfold signed
    simp only [Bool.false_eq_true, if_false, shl_eq]
    rw [show (pExp b - pExp b).toNat = 0 by omega]
    have hp := Nat.two_pow_pos (971 - pExp b).toNat
    have : 9007199254740991 * 1 ≤ 9007199254740991 * 2 ^ (971 - pExp b).toNat := Nat.mul_le_mul_left _ hp
    constructor
    · intro h; exfalso; rw [Nat.pow_zero, Nat.mul_one] at h; omega
    · intro h; omega
  · rw [if_neg h0]
    by_cases h1 : pKind b = 1
    · rw [if_pos h1]; simp [Datum.order, h1]
    · rw [if_neg h1]; simp [Datum.order, h1]
end Sedge
