/-
  Texts laid one behind the other (a claim has at most 60 files): FltLd, FltBest, Close1, FltSum, FltRest, FltGemv, GclP, Par, Par2, OwnI, Dig, Dint, Dy1, Dy2.
-/
import Derived.Laws.FloatBits
import Derived.Laws.Tables
import Derived.Maps.AppendAt
import Derived.Deep.CutBlock
import Derived.Deep.DeepCutAuto
import Derived.Test.YtcmggfpcbijcjaaQGemvClose1
import Derived.Test.YtcmggfpcbijcjaaQGemvClose2
import Derived.Test.YtcmggfpcbijcjaaQGemvClose3
import Derived.Test.YtcmggfpcbijcjaaQGemvClose4
import Derived.Test.YtcmggfpcbijcjaaQGemvClose5
section
/-
  Plain: what math.Ldexp does to a number's word.
-/
set_option linter.unusedSimpArgs false
set_option linter.unusedVariables false
namespace Sedge
open Ieee
theorem BN_eq' : BN = 2 ^ 52 := by decide +kernel
theorem fmul_num {x y : Nat} {s t : Bool} {m n : Nat} {p q : Int} (hx : D64.read x = .number s m p) (hy : D64.read y = .number t n q) : fmul x y = D64.nearest (s ^^ t) (m * n) (p + q) := by
  unfold fmul Format.mul; rw [hx, hy]; rfl
theorem read_one : D64.read 4607182418800017408 = .number false 4503599627370496 (-52) := by decide +kernel
theorem read_m53 : D64.read 4368491638549381120 = .number false 4503599627370496 (-105) := by decide +kernel
theorem read_p52 : D64.read 4841369599423283200 = .number false 4503599627370496 0 := by decide +kernel
theorem read_mid (s : Bool) (X f : Nat) (h1 : 1 ≤ X) (h2 : X ≤ 2046) (hf : f < BN) : D64.read (D64.word s (X * BN + f)) = .number s (BN + f) ((X : Int) - 1075) := by
  have hb : X * BN + f < SW := by unfold BN SW at *; omega
  have hd : (X * BN + f) / BN = X := by rw [Nat.mul_comm, Nat.mul_add_div (by decide +kernel), Nat.div_eq_of_lt hf, Nat.add_zero]
  have hm : (X * BN + f) % BN = f := by rw [Nat.mul_comm, Nat.mul_add_mod, Nat.mod_eq_of_lt hf]
  rw [read_word s _ hb, if_neg (by unfold BN; omega), if_pos (by unfold IR BN at *; omega), hd, hm]
  congr 1
  omega
/-- The end of Ldexp, by 1. -/
theorem ld_end1 (s : Bool) (X f : Nat) (e : Int) (h1 : 1 ≤ X) (h2 : X ≤ 2046) (hf : f < BN) (he : (X : Int) = e + 1023) : fmul 4607182418800017408 (D64.word s (X * BN + f)) = D64.nearest s (BN + f) (e - 52) := by
  rw [fmul_num read_one (read_mid s X f h1 h2 hf), ← nearest_scale s (BN + f) 52 (e - 52) (by unfold BN; omega)]
  have a1 : 4503599627370496 * (BN + f) = (BN + f) * 2 ^ 52 := by rw [Nat.mul_comm]
  have a2 : (-52 : Int) + ((X : Int) - 1075) = e - 52 - (52 : Nat) := by omega
  rw [a1, a2]; simp
/-- The end of Ldexp, by 2^-53. -/
theorem ld_end2 (s : Bool) (X f : Nat) (e : Int) (h1 : 1 ≤ X) (h2 : X ≤ 2046) (hf : f < BN) (he : (X : Int) = e + 53 + 1023) : fmul 4368491638549381120 (D64.word s (X * BN + f)) = D64.nearest s (BN + f) (e - 52) := by
  rw [fmul_num read_m53 (read_mid s X f h1 h2 hf), ← nearest_scale s (BN + f) 52 (e - 52) (by unfold BN; omega)]
  have a1 : 4503599627370496 * (BN + f) = (BN + f) * 2 ^ 52 := by rw [Nat.mul_comm]
  have a2 : (-105 : Int) + ((X : Int) - 1075) = e - 52 - (52 : Nat) := by omega
  rw [a1, a2]; simp
theorem ld_low (s : Bool) (f : Nat) (e : Int) (hf : f < BN) (he : e < -1075) : D64.nearest s (BN + f) (e - 52) = D64.word s 0 :=
  nearest_low s _ _ (by unfold BN; omega) (by unfold BN at *; omega) (by omega)
theorem ld_high (s : Bool) (f : Nat) (e : Int) (hf : f < BN) (he : 1023 < e) : D64.nearest s (BN + f) (e - 52) = D64.word s IR := by
  have h := nearest_hv s (BN + f) (e - 52) 0 (by unfold BN; omega) (by unfold BN at *; omega) (.inl (by unfold BN; omega)) (by omega) (fun h => absurd rfl h)
  rw [h, (hv_zero _).1, (hv_zero _).2.1]
  simp only [Bool.false_and, Bool.toNat_false, Nat.add_zero, Int.natCast_zero, Int.add_zero]
  exact makeW_inf s _ _ (by unfold BN; omega) (by omega)
theorem kept_of {A L : Nat} {p : Int} (h : lastP A p = p + L) : keptP A p = rne A L := by
  unfold keptP; rw [h, show (p - (p + (L : Int))).toNat = 0 by omega, show (p + (L : Int) - p).toNat = L by omega, Nat.shiftLeft_zero]
/-- A finite number that isn't 0, made normal: its word, and what it stands for. -/
theorem normal_of {x : Nat} (hx : x < 2 ^ 64) (hk : pKind x = 0) (h0 : pMag x ≠ 0) (he : expo x ≠ 0) :
    ∃ X f, 1 ≤ X ∧ X ≤ 2046 ∧ f < BN ∧ x = D64.word (pNeg x) (X * BN + f) ∧ ∀ k : Int, D64.nearest (pNeg x) (pMag x) (pExp x + k) = D64.nearest (pNeg x) (BN + f) (k + X - 1023 - 52) := by
  have h1 := expo_lt x
  have h2 : expo x ≠ 2047 := by
    intro h; unfold pKind at hk; rw [if_pos h] at hk; split at hk <;> cases hk
  refine ⟨expo x, frac x, by omega, by omega, frac_lt x, ?_, fun k => ?_⟩
  · have hr := rung_eq x
    unfold Format.word
    simp only [signWeight_eq]
    unfold pNeg
    by_cases h : x / SW = 1
    · rw [if_pos (by simpa using h), ← hr]
      have := Nat.div_add_mod x SW
      rw [h] at this; omega
    · rw [if_neg (by simpa using h), ← hr]
      have h3 : x / SW = 0 := by unfold SW at *; omega
      have := Nat.div_add_mod x SW
      rw [h3] at this; omega
  · have e1 : pMag x = BN + frac x := by unfold pMag; rw [if_neg h2, if_neg he, Nat.add_comm]
    have e2 : pExp x = (expo x : Int) - 1075 := by unfold pExp; rw [if_neg h2, if_neg he]
    rw [e1, e2]; congr 1; omega
theorem normal_sub {x : Nat} (hx : x < 2 ^ 64) (hk : pKind x = 0) (h0 : pMag x ≠ 0) (he : expo x = 0) :
    ∃ X f, 1 ≤ X ∧ X ≤ 2046 ∧ f < BN ∧ fmul x 4841369599423283200 = D64.word (pNeg x) (X * BN + f) ∧ ∀ k : Int, D64.nearest (pNeg x) (pMag x) (pExp x + k) = D64.nearest (pNeg x) (BN + f) (k - 52 + X - 1023 - 52) := by
  have e1 : pMag x = frac x := by unfold pMag; rw [if_neg (by omega), if_pos he]
  have e2 : pExp x = -1074 := by unfold pExp; rw [if_neg (by omega), if_pos he]
  have hr : D64.read x = .number (pNeg x) (frac x) (-1074) := by rw [read_eq x hx, if_pos hk, e1, e2]
  obtain ⟨m, hm⟩ : ∃ m, m = frac x := ⟨_, rfl⟩
  have hm0 : m ≠ 0 := by rw [hm, ← e1]; exact h0
  have hmb : m < BN := by rw [hm]; exact frac_lt x
  rw [e1, e2, fmul_num hr read_p52, ← hm, Bool.xor_false]
  obtain ⟨a, b⟩ := log2_spec m hm0
  obtain ⟨L, hL⟩ : ∃ L, L = m.log2 := ⟨_, rfl⟩
  have hL51 : L ≤ 51 := by
    have : m < 2 ^ 52 := by rw [← BN_eq']; exact hmb
    have := (Nat.log2_lt hm0).2 this; omega
  rw [← hL] at a b
  have hp : 2 ^ L * 2 ^ (52 - L) = 2 ^ 52 := by rw [← Nat.pow_add]; congr 1; omega
  have hM1 : 2 ^ 52 ≤ m * 2 ^ (52 - L) := by rw [← hp]; exact Nat.mul_le_mul_right _ a
  have hM2 : m * 2 ^ (52 - L) < 2 ^ 53 := by
    have : m * 2 ^ (52 - L) < 2 ^ (L + 1) * 2 ^ (52 - L) := Nat.mul_lt_mul_of_pos_right b (Nat.two_pow_pos _)
    rw [← Nat.pow_add, show L + 1 + (52 - L) = 53 by omega] at this; exact this
  obtain ⟨f, hf⟩ : ∃ f, m * 2 ^ (52 - L) = BN + f := ⟨m * 2 ^ (52 - L) - BN, by rw [BN_eq']; omega⟩
  have hfb : f < BN := by rw [BN_eq'] at *; omega
  refine ⟨L + 1, f, by omega, by omega, hfb, ?_, fun k => ?_⟩
  · rw [Int.add_zero]
    have e3 : m * 4503599627370496 = m * 2 ^ 52 := by rw [show (2 : Nat) ^ 52 = 4503599627370496 from by decide]
    obtain ⟨A, hA⟩ : ∃ A, A = m * 4503599627370496 := ⟨_, rfl⟩
    have hA0 : A ≠ 0 := by omega
    have hA2 : A = (BN + f) * 2 ^ L := by rw [hA, e3, ← hf, Nat.mul_assoc, ← Nat.pow_add, show 52 - L + L = 52 by omega]
    have hAl : A.log2 = L + 52 := by rw [hA, e3, log2_mul_pow m 52 hm0, hL]
    rw [← hA]
    clear hA e3
    have hl : lastP A (-1074) = -1074 + L := by unfold lastP; rw [hAl]; push_cast; omega
    rw [nearest_eq _ _ _ hA0, kept_of hl, hl, hA2, rne_exact]
    have h3 : (-1074 + (L : Int) + 1074).toNat = L := by omega
    rw [h3]
    have h4 : L * BN + (BN + f) ≤ IR := by unfold IR BN at *; omega
    rw [Nat.min_eq_left h4]
    have h5 : (L + 1) * BN = L * BN + BN := Nat.succ_mul L BN
    rw [h5, Nat.add_assoc]
  · rw [← nearest_scale (pNeg x) m (52 - L) (-1074 + k) hm0, hf]
    congr 1
    omega
theorem shl_eq (m k : Nat) : m <<< k = m * 2 ^ k := Nat.shiftLeft_eq m k
theorem read_zero : D64.read 0 = .number false 0 (-1074) := by decide +kernel
theorem read_min : D64.read 4503599627370496 = .number false 4503599627370496 (-1074) := by decide +kernel
theorem read_max : D64.read 9218868437227405311 = .number false 9007199254740991 971 := by decide +kernel
theorem pExp_ge (b : Nat) (hk : pKind b = 0) : -1074 ≤ pExp b ∧ pExp b ≤ 971 := by
  have h1 := expo_lt b
  have h2 : expo b ≠ 2047 := by
    intro h; unfold pKind at hk; rw [if_pos h] at hk; split at hk <;> cases hk
  unfold pExp; rw [if_neg h2]; split <;> omega
theorem pMag_lt (b : Nat) : pMag b < 2 ^ 53 := by
  have := frac_lt' b
  unfold pMag BN; split
  · decide
  · split <;> omega
theorem cmp_lt (a b : Int) : (compare a b == Ordering.lt) = decide (a < b) := by
  simp only [compare, compareOfLessAndEq]
  by_cases h : a < b
  · simp [h]
  · by_cases h2 : a = b <;> simp [h, h2]
theorem cmp_eq (a b : Int) : (compare a b == Ordering.eq) = decide (a = b) := by
  simp only [compare, compareOfLessAndEq]
  by_cases h : a < b
  · have : a ≠ b := by omega
    simp [h, this]
  · by_cases h2 : a = b <;> simp [h, h2]
theorem cmp_gt (a b : Int) : (compare a b == Ordering.gt) = decide (b < a) := by
  simp only [compare, compareOfLessAndEq]
  by_cases h : a < b
  · have : ¬ b < a := by omega
    simp [h, this]
  · by_cases h2 : a = b
    · simp [h2]
    · have : b < a := by omega
      simp [h, h2, this]
theorem some_beq (a b : Ordering) : (some a == some b) = (a == b) := rfl
theorem ord_zero (b : Nat) (hb : b < 2 ^ 64) (hk : pKind b = 0) : D64.order b 0 = some (compare (signed (pNeg b) (pMag b) (pExp b + 1074).toNat) 0) := by
  have h1 := pExp_ge b hk
  unfold Format.order
  rw [read_eq b hb, if_pos hk, read_zero]
  simp only [Datum.order]
  rw [show min (pExp b) (-1074 : Int) = -1074 by omega, show (pExp b - -1074).toNat = (pExp b + 1074).toNat by congr 1]
  have : signed false 0 ((-1074 : Int) - -1074).toNat = 0 := by decide
  rw [this]
theorem signed_zero_iff (s : Bool) (m k : Nat) : signed s m k = 0 ↔ m = 0 := by
  have hp := Nat.two_pow_pos k
  unfold signed
  rw [shl_eq]
  have h : m * 2 ^ k = 0 ↔ m = 0 := ⟨fun h => (Nat.mul_eq_zero.1 h).resolve_right (by omega), fun h => by rw [h, Nat.zero_mul]⟩
  rw [← h]
  generalize m * 2 ^ k = q
  cases s
  · rw [if_neg (by decide)]; omega
  · rw [if_pos rfl]; omega
theorem ord_zero_eq (b : Nat) (hb : b < 2 ^ 64) (hk : pKind b = 0) : (D64.order b 0 == some .eq) = decide (pMag b = 0) := by
  rw [ord_zero b hb hk, some_beq, cmp_eq, Bool.eq_iff_iff, decide_eq_true_eq, decide_eq_true_eq]
  exact signed_zero_iff _ _ _
theorem ord_zero_lt (b : Nat) (hb : b < 2 ^ 64) (hk : pKind b = 0) (h0 : pMag b ≠ 0) : (D64.order b 0 == some .lt) = pNeg b := by
  rw [ord_zero b hb hk, some_beq, cmp_lt, Bool.eq_iff_iff, decide_eq_true_eq]
  have hz : signed (pNeg b) (pMag b) (pExp b + 1074).toNat ≠ 0 := fun h => h0 ((signed_zero_iff _ _ _).1 h)
  unfold signed at *
  rw [shl_eq] at *
  generalize pMag b * 2 ^ (pExp b + 1074).toNat = q at *
  generalize pNeg b = s at *
  cases s
  · rw [if_neg (by decide)] at hz ⊢; simp
  · rw [if_pos rfl] at hz ⊢; simp; omega
theorem pNeg_abs (b : Nat) : pNeg (fabs b) = false := by
  unfold pNeg fabs
  rw [decide_eq_false_iff_not, Nat.div_eq_of_lt (Nat.mod_lt _ (by decide))]; decide
theorem parts_abs (b : Nat) : pKind (fabs b) = pKind b ∧ pMag (fabs b) = pMag b ∧ pExp (fabs b) = pExp b := by
  unfold pKind pMag pExp fabs; rw [(kind_abs b).1, (kind_abs b).2]; exact ⟨rfl, rfl, rfl⟩
/-- Below the least normal one. -/
theorem ord_min (b : Nat) (hb : b < 2 ^ 64) (hk : pKind b = 0) : (D64.order (fabs b) 4503599627370496 == some .lt) = decide (expo b = 0) := by
  have hb' : fabs b < 2 ^ 64 := Nat.lt_of_le_of_lt (Nat.mod_le _ _) hb
  obtain ⟨k1, k2, k3⟩ := parts_abs b
  have h1 := pExp_ge b hk
  have h2 : expo b ≠ 2047 := by
    intro h; unfold pKind at hk; rw [if_pos h] at hk; split at hk <;> cases hk
  have hf := frac_lt' b
  unfold Format.order
  rw [read_eq _ hb', k1, if_pos hk, read_min, pNeg_abs, k2, k3]
  simp only [Datum.order]
  rw [show min (pExp b) (-1074 : Int) = -1074 by omega, some_beq, cmp_lt, Bool.eq_iff_iff, decide_eq_true_eq, decide_eq_true_eq]
  unfold signed
  simp only [Bool.false_eq_true, if_false, shl_eq]
  have e1 : ((-1074 : Int) - -1074).toNat = 0 := by decide
  rw [e1]
  by_cases he : expo b = 0
  · have m1 : pMag b = frac b := by unfold pMag; rw [if_neg h2, if_pos he]
    have m2 : pExp b = -1074 := by unfold pExp; rw [if_neg h2, if_pos he]
    rw [m1, m2, e1]
    refine ⟨fun _ => he, fun _ => ?_⟩
    rw [Nat.pow_zero, Nat.mul_one, Nat.mul_one]; omega
  · have m1 : pMag b = frac b + BN := by unfold pMag; rw [if_neg h2, if_neg he]
    have hp := Nat.two_pow_pos (pExp b - -1074).toNat
    have : pMag b * 1 ≤ pMag b * 2 ^ (pExp b - -1074).toNat := Nat.mul_le_mul_left _ hp
    unfold BN at m1
    constructor
    · intro h; exfalso; rw [Nat.pow_zero, Nat.mul_one] at h; omega
    · intro h; exact absurd h he
/-- Above the greatest one: infinite. -/
theorem ord_max (b : Nat) (hb : b < 2 ^ 64) : (D64.order (fabs b) 9218868437227405311 == some .gt) = decide (pKind b = 1) := by
  have hb' : fabs b < 2 ^ 64 := Nat.lt_of_le_of_lt (Nat.mod_le _ _) hb
  obtain ⟨k1, k2, k3⟩ := parts_abs b
  unfold Format.order
  rw [read_eq _ hb', k1, read_max, pNeg_abs, k2, k3]
  by_cases h0 : pKind b = 0
  · have h1 := pExp_ge b h0
    have hm := pMag_lt b
    rw [if_pos h0]
    simp only [Datum.order]
    rw [show min (pExp b) (971 : Int) = pExp b by omega, some_beq, cmp_gt, Bool.eq_iff_iff, decide_eq_true_eq, decide_eq_true_eq]
    unfold signed
    simp only [Bool.false_eq_true, if_false, shl_eq]
    rw [show (pExp b - pExp b).toNat = 0 by omega]
    have hp := Nat.two_pow_pos (971 - pExp b).toNat
    have : 9007199254740991 * 1 ≤ 9007199254740991 * 2 ^ (971 - pExp b).toNat := Nat.mul_le_mul_left _ hp
    constructor
    · intro h; exfalso; rw [Nat.pow_zero, Nat.mul_one] at h; omega
    · intro h; omega
  · rw [if_neg h0]
    by_cases h1 : pKind b = 1
    · rw [if_pos h1]; simp [Datum.order, h1]
    · rw [if_neg h1]; simp [Datum.order, h1]
end Sedge
end
section
/-
  Plain laws on 64-bit floats: what is written is no farther off than any float; sums have no error of their own near 0.
-/
set_option linter.unusedSimpArgs false
set_option linter.unusedVariables false
namespace Sedge
open Ieee

theorem grid_best (m : Nat) (p : Int) (k : Int) : ((keptP m p : Rat) * p2 (lastP m p) - (m : Rat) * p2 p).abs ≤ ((k : Rat) * p2 (lastP m p) - (m : Rat) * p2 p).abs := by
  have h1 := kept_err m p
  have hu := p2_pos (lastP m p)
  have hu1 : 2 * p2 (lastP m p - 1) = p2 (lastP m p) := by rw [← p2_succ]; congr 1; omega
  have hK : ((keptP m p : Nat) : Rat) = ((keptP m p : Int) : Rat) := (Rat.intCast_natCast _).symm
  rw [hK] at h1 ⊢
  generalize p2 (lastP m p - 1) = h at *
  generalize p2 (lastP m p) = u at *
  generalize (m : Rat) * p2 p = Z at *
  generalize (keptP m p : Int) = K at *
  have h2 : -h ≤ (K : Rat) * u - Z ∧ (K : Rat) * u - Z ≤ h := by
    rcases Rat.le_total (a := 0) (b := (K : Rat) * u - Z) with h0 | h0
    · rw [Rat.abs_of_nonneg h0] at h1; constructor <;> grind
    · rw [Rat.abs_of_nonpos h0] at h1; constructor <;> grind
  have hKk : k = K ∨ k + 1 ≤ K ∨ K + 1 ≤ k := by omega
  rcases hKk with rfl | hk | hk
  · exact Rat.le_refl
  · have hk' := Rat.intCast_le_intCast.2 hk
    rw [Rat.intCast_add] at hk'
    have hk2 := Rat.mul_le_mul_of_nonneg_right hk' (Rat.le_of_lt hu)
    have e1 : ((1 : Int) : Rat) = 1 := rfl
    rw [e1] at hk2
    have h3 : (k : Rat) * u - Z ≤ -h := by grind
    have h4 : (k : Rat) * u - Z ≤ 0 := by grind
    rw [Rat.abs_of_nonpos h4]
    exact Rat.le_trans h1 (by grind)
  · have hk' := Rat.intCast_le_intCast.2 hk
    rw [Rat.intCast_add] at hk'
    have hk2 := Rat.mul_le_mul_of_nonneg_right hk' (Rat.le_of_lt hu)
    have e1 : ((1 : Int) : Rat) = 1 := rfl
    rw [e1] at hk2
    have h3 : h ≤ (k : Rat) * u - Z := by grind
    have h4 : 0 ≤ (k : Rat) * u - Z := by grind
    rw [Rat.abs_of_nonneg h4]
    exact Rat.le_trans h1 (by grind)

theorem sgn_sq (s : Bool) : sgn s * sgn s = 1 := by cases s <;> decide +kernel
theorem abs_sgn (s : Bool) (x y : Rat) : (x - sgn s * y).abs = (sgn s * x - y).abs := by
  have : x - sgn s * y = sgn s * (sgn s * x - y) := by
    have := sgn_sq s
    grind
  rw [this, abs_sgn_mul]
theorem abs_le_of {x y : Rat} (h1 : -y ≤ x) (h2 : x ≤ y) : x.abs ≤ y := by
  rcases Rat.le_total (a := 0) (b := x) with h0 | h0
  · rw [Rat.abs_of_nonneg h0]; exact h2
  · rw [Rat.abs_of_nonpos h0]; grind
theorem le_abs (x : Rat) : x ≤ x.abs := by
  rcases Rat.le_total (a := 0) (b := x) with h0 | h0
  · rw [Rat.abs_of_nonneg h0]; exact Rat.le_refl
  · rw [Rat.abs_of_nonpos h0]; grind
theorem neg_le_abs (x : Rat) : -x ≤ x.abs := by
  rcases Rat.le_total (a := 0) (b := x) with h0 | h0
  · rw [Rat.abs_of_nonneg h0]; grind
  · rw [Rat.abs_of_nonpos h0]; exact Rat.le_refl

/-- NO FLOAT IS NEARER. -/
theorem nearest_best (s : Bool) (m : Nat) (p : Int) (h : m ≠ 0) (hf : fin (D64.nearest s m p) = true) {x : Nat} (hx : x < 2 ^ 64) (hfx : fin x = true) :
    (val (D64.nearest s m p) - dat s m p).abs ≤ (val x - dat s m p).abs := by
  rw [(nearest_err s m p h hf).2]
  have e1 : dat s (keptP m p) (lastP m p) - dat s m p = sgn s * ((keptP m p : Rat) * p2 (lastP m p) - (m : Rat) * p2 p) := by unfold dat; grind
  rw [e1, abs_sgn_mul]
  have e2 : dat s m p = sgn s * ((m : Rat) * p2 p) := rfl
  rw [e2, abs_sgn]
  have hk : pKind x = 0 := by
    have := read_eq x hx
    rcases Nat.lt_or_ge 0 (pKind x) with h0 | h0
    · rw [if_neg (by omega)] at this
      obtain ⟨s', m', p', hr⟩ := (fin_iff x).1 hfx
      rw [hr] at this
      split at this <;> cases this
    · omega
  have hr : D64.read x = .number (pNeg x) (pMag x) (pExp x) := by rw [read_eq x hx, if_pos hk]
  have hq := (pExp_ge x hk).1
  have hn := pMag_lt x
  rw [val_of hr]
  generalize pNeg x = t at *
  generalize pMag x = n at *
  generalize pExp x = q at *
  by_cases hqL : lastP m p ≤ q
  · -- on the grid
    have e3 : sgn s * dat t n q = (((if s = t then (1 : Int) else -1) * ((n * 2 ^ (q - lastP m p).toNat : Nat) : Int) : Int) : Rat) * p2 (lastP m p) := by
      have e4 : p2 q = p2 ((q - lastP m p).toNat : Nat) * p2 (lastP m p) := by rw [← p2_add]; congr 1; omega
      unfold dat
      rw [Rat.intCast_mul, Rat.intCast_natCast, Rat.natCast_mul, ← p2_nat, e4]
      have e5 : sgn s * sgn t = (((if s = t then (1 : Int) else -1) : Int) : Rat) := by cases s <;> cases t <;> decide +kernel
      rw [← e5]; grind
    rw [e3]
    exact grid_best m p _
  · have hL : lastP m p = p + m.log2 - 52 := by
      rcases lastP_or m p with h1 | h1
      · exact h1
      · omega
    have hb := grid_best m p ((2 ^ 52 : Nat) : Int)
    refine Rat.le_trans hb ?_
    have hZ : ((2 ^ 52 : Nat) : Rat) * p2 (lastP m p) ≤ (m : Rat) * p2 p := by
      have h3 : p2 (m.log2 : Nat) ≤ (m : Rat) := by rw [p2_nat]; exact Rat.natCast_le_natCast.2 (log2_spec m h).1
      have h4 := Rat.mul_le_mul_of_nonneg_right h3 (Rat.le_of_lt (p2_pos p))
      rw [← p2_nat, ← p2_add]
      rw [← p2_add] at h4
      rw [show ((52 : Nat) : Int) + lastP m p = (m.log2 : Nat) + p by omega]
      exact h4
    have hX : (dat t n q).abs ≤ ((2 ^ 52 : Nat) : Rat) * p2 (lastP m p) := by
      rw [dat_abs, ← p2_nat, ← p2_add]
      have h5 : (n : Rat) ≤ p2 ((53 : Nat) : Int) := by rw [p2_nat]; exact Rat.natCast_le_natCast.2 (Nat.le_of_lt hn)
      have h6 := Rat.mul_le_mul_of_nonneg_right h5 (Rat.le_of_lt (p2_pos q))
      rw [← p2_add] at h6
      exact Rat.le_trans h6 (p2_mono (by omega))
    have hX2 : (sgn s * dat t n q).abs ≤ ((2 ^ 52 : Nat) : Rat) * p2 (lastP m p) := by rw [abs_sgn_mul]; exact hX
    rw [Rat.intCast_natCast]
    have h7 := le_abs (sgn s * dat t n q)
    have h8 := neg_le_abs (sgn s * dat t n q - (m : Rat) * p2 p)
    refine Rat.le_trans (abs_le_of (y := (m : Rat) * p2 p - ((2 ^ 52 : Nat) : Rat) * p2 (lastP m p)) (by grind) (by grind)) ?_
    grind

theorem kept_exact (m : Nat) (p : Int) (h : lastP m p ≤ p) : (keptP m p : Rat) * p2 (lastP m p) = (m : Rat) * p2 p := by
  have h1 := numP_val m p
  have h2 : dropP m p = 0 := by unfold dropP; omega
  have h3 : keptP m p = numP m p := by
    show rne (numP m p) (dropP m p) = _
    rw [h2, rne_zero]
  rw [h3, h1, h2]
  have : ((2 ^ 0 : Nat) : Rat) = 1 := rfl
  rw [this]; grind
/-- What is written, of places that a float may have. -/
theorem write_err' (s : Bool) (m : Nat) (p : Int) (hp : -1074 ≤ p) (hf : fin (D64.write (.number s m p)) = true) :
    (val (D64.write (.number s m p)) - dat s m p).abs ≤ U * (dat s m p).abs := by
  by_cases h : m = 0
  · subst h
    have e : D64.write (.number s 0 p) = D64.word s 0 := by
      show D64.nearest s 0 p = _; unfold Format.nearest; rw [if_pos rfl]
    rw [e, (word_zero s).1, dat_zero]
    decide +kernel
  · have h0 : D64.write (.number s m p) = D64.nearest s m p := rfl
    rw [h0] at hf ⊢
    obtain ⟨h1, h2⟩ := nearest_err s m p h hf
    by_cases hL : lastP m p ≤ p
    · have h3 := kept_exact m p hL
      rw [h2]
      have e1 : dat s (keptP m p) (lastP m p) - dat s m p = 0 := by unfold dat; rw [h3]; grind
      rw [e1]
      have : (0 : Rat).abs = 0 := by decide +kernel
      rw [this]
      exact Rat.mul_nonneg (Rat.le_of_lt U_pos) (by rw [dat_abs]; exact Rat.mul_nonneg Rat.natCast_nonneg (Rat.le_of_lt (p2_pos p)))
    · have hL2 : lastP m p = p + m.log2 - 52 := by
        rcases lastP_or m p with h1 | h1
        · exact h1
        · omega
      refine Rat.le_trans h1 ?_
      rw [dat_abs, hL2]
      have h2 : p2 (p + m.log2 - 52 - 1) = U * (p2 p * p2 (m.log2 : Nat)) := by
        unfold U; rw [← p2_add, ← p2_add]; congr 1; omega
      rw [h2]
      have h3 : p2 (m.log2 : Nat) ≤ (m : Rat) := by rw [p2_nat]; exact Rat.natCast_le_natCast.2 (log2_spec m h).1
      have h4 := Rat.mul_le_mul_of_nonneg_left h3 (Rat.le_of_lt (p2_pos p))
      have h5 := Rat.mul_le_mul_of_nonneg_left h4 (Rat.le_of_lt U_pos)
      grind
theorem sum_val' {s t : Bool} {m n : Nat} {i j : Int} (hi : -1074 ≤ i) (hj : -1074 ≤ j) : ∃ c z b, (Datum.number s m i).sum (.number t n j) = some (.number c z b) ∧ -1074 ≤ b ∧ dat c z b = dat s m i + dat t n j := by
  refine ⟨_, _, _, rfl, ?_, ?_⟩
  · omega
  rw [natAbs_val _ _ (by intro h; simp [h])]
  rw [Rat.intCast_add, Rat.add_mul, signed_val, signed_val]
  congr 2 <;> omega
theorem fin_parts {x : Nat} (hx : x < 2 ^ 64) (hf : fin x = true) : pKind x = 0 ∧ D64.read x = .number (pNeg x) (pMag x) (pExp x) ∧ -1074 ≤ pExp x ∧ pMag x < 2 ^ 53 := by
  have hk : pKind x = 0 := by
    have := read_eq x hx
    rcases Nat.lt_or_ge 0 (pKind x) with h0 | h0
    · rw [if_neg (by omega)] at this
      obtain ⟨s', m', p', hr⟩ := (fin_iff x).1 hf
      rw [hr] at this
      split at this <;> cases this
    · omega
  exact ⟨hk, by rw [read_eq x hx, if_pos hk], (pExp_ge x hk).1, pMag_lt x⟩
theorem fin_kind {x : Nat} (hx : x < 2 ^ 64) : fin x = decide (pKind x = 0) := by
  cases h : fin x
  · symm; rw [decide_eq_false_iff_not]; intro hk
    have : fin x = true := fin_of_read (by rw [read_eq x hx, if_pos hk])
    rw [this] at h; cases h
  · rw [(fin_parts hx h).1]; rfl
theorem val_parts {x : Nat} (hx : x < 2 ^ 64) (hf : pKind x = 0) : val x = dat (pNeg x) (pMag x) (pExp x) := val_of (by rw [read_eq x hx, if_pos hf])
theorem fadd_read' {x y : Nat} (hx : x < 2 ^ 64) (hy : y < 2 ^ 64) (fx : fin x = true) (fy : fin y = true) : ∃ c z b, fadd x y = D64.write (.number c z b) ∧ -1074 ≤ b ∧ dat c z b = val x + val y := by
  obtain ⟨_, rx, px, _⟩ := fin_parts hx fx
  obtain ⟨_, ry, py, _⟩ := fin_parts hy fy
  obtain ⟨c, z, b, h1, h2, h3⟩ := sum_val' (s := pNeg x) (t := pNeg y) (m := pMag x) (n := pMag y) px py
  refine ⟨c, z, b, ?_, h2, ?_⟩
  · unfold fadd Format.add; rw [rx, ry, h1]; rfl
  · rw [h3, val_of rx, val_of ry]
theorem fadd_err' {x y : Nat} (hx : x < 2 ^ 64) (hy : y < 2 ^ 64) (h : fin (fadd x y) = true) : (val (fadd x y) - (val x + val y)).abs ≤ U * (val x + val y).abs := by
  obtain ⟨fx, fy⟩ := fadd_fin h
  obtain ⟨c, z, b, h1, h2, h3⟩ := fadd_read' hx hy fx fy
  rw [h1] at h ⊢
  rw [← h3]
  exact write_err' c z b h2 h
theorem fadd_best {x y f : Nat} (h : fin (fadd x y) = true) (hf : f < 2 ^ 64) (ff : fin f = true) : (val (fadd x y) - (val x + val y)).abs ≤ (val f - (val x + val y)).abs := by
  obtain ⟨fx, fy⟩ := fadd_fin h
  obtain ⟨c, z, b, h1, h2⟩ := fadd_read fx fy
  rw [h1] at h ⊢
  rw [← h2]
  by_cases hz : z = 0
  · subst hz
    have e : D64.write (.number c 0 b) = D64.word c 0 := by
      show D64.nearest c 0 b = _; unfold Format.nearest; rw [if_pos rfl]
    rw [e, (word_zero c).1, dat_zero]
    have : ((0 : Rat) - 0).abs = 0 := by decide +kernel
    rw [this]
    exact Rat.abs_nonneg
  · exact nearest_best c z b hz h hf ff
theorem fsub_read' {x y : Nat} (hx : x < 2 ^ 64) (hy : y < 2 ^ 64) (fx : fin x = true) (fy : fin y = true) : ∃ c z b, fsub x y = D64.write (.number c z b) ∧ -1074 ≤ b ∧ dat c z b = val x - val y := by
  obtain ⟨_, rx, px, _⟩ := fin_parts hx fx
  obtain ⟨_, ry, py, _⟩ := fin_parts hy fy
  obtain ⟨c, z, b, h1, h2, h3⟩ := sum_val' (s := pNeg x) (t := !(pNeg y)) (m := pMag x) (n := pMag y) px py
  refine ⟨c, z, b, ?_, h2, ?_⟩
  · unfold fsub Format.sub; rw [rx, ry]; simp only [Datum.opposite]; rw [h1]; rfl
  · rw [h3, val_of rx, val_of ry, dat_not]; grind
theorem fsub_err' {x y : Nat} (hx : x < 2 ^ 64) (hy : y < 2 ^ 64) (h : fin (fsub x y) = true) : (val (fsub x y) - (val x - val y)).abs ≤ U * (val x - val y).abs := by
  obtain ⟨fx, fy⟩ := fsub_fin h
  obtain ⟨c, z, b, h1, h2, h3⟩ := fsub_read' hx hy fx fy
  rw [h1] at h ⊢
  rw [← h3]
  exact write_err' c z b h2 h
end Sedge
end
section
/-
  Plain: a product added is close.
-/
set_option linter.unusedSimpArgs false
set_option linter.unusedVariables false
namespace Sedge
open Ieee
theorem pow64 : (2 : Nat) ^ D64.width = 2 ^ 64 := by decide +kernel
theorem fmul_lt (x y : Nat) : fmul x y < 2 ^ 64 := by
  unfold fmul
  cases h : D64.mul x y with
  | none => decide
  | some r => rw [← pow64]; exact D64.mul_lt h
theorem fadd_lt (x y : Nat) : fadd x y < 2 ^ 64 := by
  unfold fadd
  cases h : D64.add x y with
  | none => decide
  | some r => rw [← pow64]; exact D64.add_lt h
theorem fsub_lt (x y : Nat) : fsub x y < 2 ^ 64 := by
  unfold fsub
  cases h : D64.sub x y with
  | none => decide
  | some r => rw [← pow64]; exact D64.sub_lt h
theorem fdiv_lt (x y : Nat) : fdiv x y < 2 ^ 64 := by
  unfold fdiv
  cases h : D64.div x y with
  | none => decide
  | some r => rw [← pow64]; exact D64.div_lt h
theorem U_le : U ≤ 1 := by unfold U; decide +kernel
theorem abs_add_le (x y : Rat) : (x + y).abs ≤ x.abs + y.abs := by
  have h1 := le_abs x
  have h2 := le_abs y
  have h3 := neg_le_abs x
  have h4 := neg_le_abs y
  exact abs_le_of (by grind) (by grind)
theorem abs_sub_comm (x y : Rat) : (x - y).abs = (y - x).abs := by
  rw [show x - y = -(y - x) by grind, Rat.abs_neg]
theorem close_law {a x y : Nat} (hy : y < 2 ^ 64) (h : fin (fadd y (fmul a x)) = true) :
    (val (fadd y (fmul a x)) - val a * val x - val y).abs ≤ ((val a * val x).abs + (val y).abs) * p2 (-52) + p2 (-1074) := by
  obtain ⟨fy, fp⟩ := fadd_fin h
  have h1 := fmul_err fp
  have h2 := fadd_err' hy (fmul_lt a x) h
  have h3 := fadd_best h (fmul_lt a x) fp
  have hU := U_pos
  have hU1 := U_le
  have hE := ETA_pos
  have e1 : p2 (-52) = 2 * U := by unfold U; rw [← p2_succ]; rfl
  have e2 : p2 (-1074) = 2 * ETA := by unfold ETA; rw [← p2_succ]; rfl
  rw [e1, e2]
  have e3 : val (fmul a x) - (val y + val (fmul a x)) = -(val y) := by grind
  rw [e3, Rat.abs_neg] at h3
  generalize val (fadd y (fmul a x)) = d at *
  generalize val (fmul a x) = P at *
  generalize val a * val x = A at *
  generalize val y = Y at *
  have t1 := abs_add_le (d - (Y + P)) (P - A)
  have t2 := abs_add_le (Y + A) (P - A)
  have t3 := abs_add_le Y A
  rw [show d - (Y + P) + (P - A) = d - A - Y by grind] at t1
  rw [show Y + A + (P - A) = Y + P by grind] at t2
  have n1 : 0 ≤ A.abs := Rat.abs_nonneg
  have n2 : 0 ≤ Y.abs := Rat.abs_nonneg
  generalize (d - (Y + P)).abs = E2 at *
  generalize (P - A).abs = E1 at *
  generalize (d - A - Y).abs = G at *
  generalize (Y + P).abs = S at *
  generalize (Y + A).abs = T at *
  generalize A.abs = a' at *
  generalize Y.abs = y' at *
  have m1 := Rat.mul_le_mul_of_nonneg_left h1 (Rat.le_of_lt hU)
  rcases Rat.le_total (a := y') (b := U * a') with hc | hc
  · have p0 : 0 ≤ U * y' := Rat.mul_nonneg (Rat.le_of_lt hU) n2
    grind
  · have m2 := Rat.mul_le_mul_of_nonneg_left hc (Rat.le_of_lt hU)
    have m3 := Rat.mul_le_mul_of_nonneg_left (Rat.le_trans t2 (Rat.add_le_add_right.2 t3)) (Rat.le_of_lt hU)
    have m4 := Rat.mul_le_mul_of_nonneg_right hU1 (Rat.le_of_lt hE)
    grind
end Sedge
end
section
/-
  Plain: how far sums of products, made step by step, are from the exact ones.
-/
set_option linter.unusedSimpArgs false
set_option linter.unusedVariables false
namespace Sedge
open Ieee
/-- The exact sum, and the sum without signs. -/
def exS (s0 : Rat) (T : Nat → Rat) : Nat → Rat
  | 0 => s0
  | j + 1 => exS s0 T j + T j
def exB (s0 : Rat) (T : Nat → Rat) : Nat → Rat
  | 0 => s0.abs
  | j + 1 => exB s0 T j + (T j).abs
theorem exB_nonneg (s0 : Rat) (T : Nat → Rat) : ∀ j, 0 ≤ exB s0 T j
  | 0 => Rat.abs_nonneg
  | j + 1 => by
    have h1 := exB_nonneg s0 T j
    have h2 : 0 ≤ (T j).abs := Rat.abs_nonneg
    show 0 ≤ exB s0 T j + (T j).abs
    grind
theorem exS_le (s0 : Rat) (T : Nat → Rat) : ∀ j, (exS s0 T j).abs ≤ exB s0 T j
  | 0 => Rat.le_refl
  | j + 1 => by
    have h1 := exS_le s0 T j
    have h2 := abs_add_le (exS s0 T j) (T j)
    show (exS s0 T j + T j).abs ≤ exB s0 T j + (T j).abs
    grind
theorem exB_mono (s0 : Rat) (T : Nat → Rat) (j : Nat) : exB s0 T j ≤ exB s0 T (j + 1) := by
  have h2 : 0 ≤ (T j).abs := Rat.abs_nonneg
  show exB s0 T j ≤ exB s0 T j + (T j).abs
  grind
theorem U_small : 4096 * U ≤ 1 := by unfold U; decide +kernel
/-- SUMS OF PRODUCTS: the error. -/
theorem sum_err (S P T : Nat → Rat) (n : Nat) (hn : n ≤ 64) (hP : ∀ j, j < n → (P j - T j).abs ≤ U * (T j).abs + ETA) (hS : ∀ j, j < n → (S (j + 1) - (S j + P j)).abs ≤ U * (S j + P j).abs) :
    ∀ j, j ≤ n → (S j - exS (S 0) T j).abs ≤ (j + 1) * (33 / 32) * (U * exB (S 0) T j) + 2 * j * ETA := by
  intro j
  have hU := U_pos
  have hU1 := U_small
  have hE := ETA_pos
  induction j with
  | zero =>
    intro _
    have : S 0 - exS (S 0) T 0 = 0 := by show S 0 - S 0 = 0; grind
    rw [this]
    have h0 : (0 : Rat).abs = 0 := by decide +kernel
    rw [h0]
    have h1 := Rat.mul_nonneg (Rat.le_of_lt hU) (exB_nonneg (S 0) T 0)
    have e0 : ((0 : Nat) : Rat) = 0 := rfl
    rw [e0]
    grind
  | succ j ih =>
    intro hj
    have h1 := ih (by omega)
    have h2 := hP j (by omega)
    have h3 := hS j (by omega)
    have hb := exB_nonneg (S 0) T j
    have hx := exS_le (S 0) T j
    have ej : ((j + 1 : Nat) : Rat) = (j : Rat) + 1 := by rw [Rat.natCast_add]; rfl
    have hj64 : (j : Rat) ≤ 64 := by
      have := Rat.natCast_le_natCast.2 (show j ≤ 64 by omega)
      simpa using this
    have hj0 : (0 : Rat) ≤ (j : Rat) := Rat.natCast_nonneg
    rw [ej]
    show (S (j + 1) - (exS (S 0) T j + T j)).abs ≤ ((j : Rat) + 1 + 1) * (33 / 32) * (U * (exB (S 0) T j + (T j).abs)) + 2 * ((j : Rat) + 1) * ETA
    generalize exB (S 0) T j = B at *
    generalize exS (S 0) T j = X at *
    generalize S (j + 1) = s' at *
    generalize S j = s at *
    generalize P j = p at *
    generalize T j = t at *
    have a1 := abs_add_le (s' - (s + p)) (s - X + (p - t))
    have a2 := abs_add_le (s - X) (p - t)
    have a3 := abs_add_le (X + t) (s - X + (p - t))
    have a4 := abs_add_le X t
    rw [show s' - (s + p) + (s - X + (p - t)) = s' - (X + t) by grind] at a1
    rw [show X + t + (s - X + (p - t)) = s + p by grind] at a3
    have n1 : 0 ≤ t.abs := Rat.abs_nonneg
    generalize (s' - (s + p)).abs = e3 at *
    generalize (s - X + (p - t)).abs = e12 at *
    generalize (s - X).abs = e1 at *
    generalize (p - t).abs = e2 at *
    generalize (s' - (X + t)).abs = G at *
    generalize (s + p).abs = sp at *
    generalize (X + t).abs = xt at *
    generalize X.abs = xa at *
    generalize t.abs = ta at *
    -- e1 <= (j+1) k U B + 2 j ETA ; e2 <= U ta + ETA ; e3 <= U sp ; sp <= B + ta + e12
    have u1 : 0 ≤ U * B := Rat.mul_nonneg (Rat.le_of_lt hU) hb
    have u2 : 0 ≤ U * ta := Rat.mul_nonneg (Rat.le_of_lt hU) n1
    have j1 : (j : Rat) * (U * B) ≤ 64 * (U * B) := Rat.mul_le_mul_of_nonneg_right hj64 u1
    have j2 : (j : Rat) * ETA ≤ 64 * ETA := Rat.mul_le_mul_of_nonneg_right hj64 (Rat.le_of_lt hE)
    have j3 : 0 ≤ (j : Rat) * (U * ta) := Rat.mul_nonneg hj0 u2
    have j4 : 0 ≤ (j : Rat) * ETA := Rat.mul_nonneg hj0 (Rat.le_of_lt hE)
    have j5 : 0 ≤ (j : Rat) * (U * B) := Rat.mul_nonneg hj0 u1
    -- e1 <= 68 U B + 128 ETA
    have k1 : e1 ≤ 68 * (U * B) + 128 * ETA := by grind
    have k2 : U * e1 ≤ U * (68 * (U * B) + 128 * ETA) := Rat.mul_le_mul_of_nonneg_left k1 (Rat.le_of_lt hU)
    have k3 : U * e2 ≤ U * (U * ta + ETA) := Rat.mul_le_mul_of_nonneg_left h2 (Rat.le_of_lt hU)
    have k4 : U * sp ≤ U * (B + ta + (e1 + e2)) := Rat.mul_le_mul_of_nonneg_left (by grind) (Rat.le_of_lt hU)
    have k5 : 4096 * U * (U * B) ≤ 1 * (U * B) := Rat.mul_le_mul_of_nonneg_right hU1 u1
    have k6 : 4096 * U * (U * ta) ≤ 1 * (U * ta) := Rat.mul_le_mul_of_nonneg_right hU1 u2
    have k7 : 4096 * U * ETA ≤ 1 * ETA := Rat.mul_le_mul_of_nonneg_right hU1 (Rat.le_of_lt hE)
    have k8 : U * (68 * (U * B) + 128 * ETA) = 68 * (U * (U * B)) + 128 * (U * ETA) := by grind
    have k9 : U * (U * ta + ETA) = U * (U * ta) + U * ETA := by grind
    have k10 : U * (B + ta + (e1 + e2)) = U * B + U * ta + U * e1 + U * e2 := by grind
    have r1 : ((j : Rat) + 1 + 1) * (33 / 32) * (U * (B + ta)) = 33 / 32 * (j * (U * B)) + 33 / 32 * (j * (U * ta)) + 33 / 16 * (U * B) + 33 / 16 * (U * ta) := by grind
    have r2 : ((j : Rat) + 1) * (33 / 32) * (U * B) = 33 / 32 * (j * (U * B)) + 33 / 32 * (U * B) := by grind
    have r3 : 4096 * U * (U * B) = 4096 * (U * (U * B)) := by grind
    have r4 : 4096 * U * (U * ta) = 4096 * (U * (U * ta)) := by grind
    have r5 : 4096 * U * ETA = 4096 * (U * ETA) := by grind
    have r6 : 2 * ((j : Rat) + 1) * ETA = 2 * (j * ETA) + 2 * ETA := by grind
    have r7 : 2 * (j : Rat) * ETA = 2 * (j * ETA) := by grind
    rw [r1, r6]
    rw [r2, r7] at h1
    rw [r3] at k5
    rw [r4] at k6
    rw [r5] at k7
    rw [k8] at k2
    rw [k9] at k3
    rw [k10] at k4
    generalize (j : Rat) * (U * B) = jUB at *
    generalize (j : Rat) * (U * ta) = jUt at *
    generalize (j : Rat) * ETA = jE at *
    generalize U * (U * B) = UUB at *
    generalize U * (U * ta) = UUt at *
    generalize U * ETA = UE at *
    generalize U * B = UB at *
    generalize U * ta = Ut at *
    generalize U * e1 = Ue1 at *
    generalize U * e2 = Ue2 at *
    generalize U * sp = Usp at *
    clear r1 r2 r3 r4 r5 r6 r7 k8 k9 k10 hU hU1
    grind
end Sedge
end
section
/-
  Plain: the bound of a rest is one.
-/
set_option linter.unusedSimpArgs false
set_option linter.unusedVariables false
namespace Sedge
open Ieee
theorem U_tiny : 1048576 * U ≤ 1 := by unfold U; decide +kernel
/-- A number without its sign. -/
theorem fabs_val {x : Nat} (hx : x < 2 ^ 64) : fin (fabs x) = fin x ∧ (fin x = true → val (fabs x) = (val x).abs) := by
  have hl : fabs x < 2 ^ 64 := Nat.lt_of_le_of_lt (Nat.mod_le _ _) hx
  obtain ⟨h1, h2, h3⟩ := parts_abs x
  refine ⟨by rw [fin_kind hl, fin_kind hx, h1], fun hf => ?_⟩
  have hk := (fin_parts hx hf).1
  rw [val_parts hl (by rw [h1]; exact hk), val_parts hx hk, h2, h3, pNeg_abs, dat_abs]
  unfold dat sgn
  simp
theorem fabs_lt {x : Nat} (hx : x < 2 ^ 64) : fabs x < 2 ^ 64 := Nat.lt_of_le_of_lt (Nat.mod_le _ _) hx
/-- The inequality of the bounds. -/
theorem rest_ineq {n B X E r w gv p q t f : Rat} (hn0 : 0 ≤ n) (hn : n ≤ 16) (hB : 0 ≤ B) (hE : E = (n + 1) * (33 / 32) * (U * B) + 2 * n * ETA) (hX : X.abs ≤ B) (hr : (r - X).abs ≤ E) (hw : (w - B).abs ≤ E)
    (hg : gv = (n + 3) * (2 * U)) (ht : t = (n + 3) * (32 * ETA)) (hp : (p - gv * w).abs ≤ U * (gv * w).abs + ETA) (hq : (q - (r.abs + p)).abs ≤ U * (r.abs + p).abs) (hf : (f - (q + t)).abs ≤ U * (q + t).abs) : r.abs + 2 * E ≤ f := by
  have hU := U_pos
  have hU1 := U_tiny
  have hEt := ETA_pos
  have uB : 0 ≤ U * B := Rat.mul_nonneg (Rat.le_of_lt hU) hB
  have n1 : 0 ≤ n * (U * B) := Rat.mul_nonneg hn0 uB
  have n2 : n * (U * B) ≤ 16 * (U * B) := Rat.mul_le_mul_of_nonneg_right hn uB
  have n3 : 0 ≤ n * ETA := Rat.mul_nonneg hn0 (Rat.le_of_lt hEt)
  have n4 : n * ETA ≤ 16 * ETA := Rat.mul_le_mul_of_nonneg_right hn (Rat.le_of_lt hEt)
  have hE' : E = 33 / 32 * (n * (U * B)) + 33 / 32 * (U * B) + 2 * (n * ETA) := by rw [hE]; grind
  have E0 : 0 ≤ E := by rw [hE']; grind
  have tiny : ∀ x : Rat, 0 ≤ x → 1048576 * (U * x) ≤ x := fun x hx => by
    have := Rat.mul_le_mul_of_nonneg_right hU1 hx
    grind
  have pos : ∀ x : Rat, 0 ≤ x → 0 ≤ U * x := fun x hx => Rat.mul_nonneg (Rat.le_of_lt hU) hx
  have tE := tiny E E0
  have pE := pos E E0
  -- w
  have w1 := le_abs (w - B)
  have w2 := neg_le_abs (w - B)
  have g0 : 0 ≤ gv := by rw [hg]; exact Rat.mul_nonneg (by grind) (by grind)
  have g38 : gv ≤ 38 * U := by
    rw [hg]
    have := Rat.mul_le_mul_of_nonneg_right (show n + 3 ≤ 19 by grind) (show 0 ≤ 2 * U by grind)
    grind
  have gw1 : gv * (B - E) ≤ gv * w := Rat.mul_le_mul_of_nonneg_left (by grind) g0
  have gw2 : gv * w ≤ gv * (B + E) := Rat.mul_le_mul_of_nonneg_left (by grind) g0
  have gE : gv * E ≤ 38 * U * E := Rat.mul_le_mul_of_nonneg_right g38 E0
  have gB : gv * B = 2 * (n * (U * B)) + 6 * (U * B) := by rw [hg]; grind
  have gwL : 2 * (n * (U * B)) + 6 * (U * B) - 38 * (U * E) ≤ gv * w := by grind
  have gwH : gv * w ≤ 38 * (U * B) + 38 * (U * E) := by grind
  have agw : (gv * w).abs ≤ 38 * (U * B) + 38 * (U * E) := abs_le_of (by grind) gwH
  have uagw : U * (gv * w).abs ≤ U * (38 * (U * B) + 38 * (U * E)) := Rat.mul_le_mul_of_nonneg_left agw (Rat.le_of_lt hU)
  have tgw := tiny (38 * (U * B) + 38 * (U * E)) (by grind)
  have p1 := le_abs (p - gv * w)
  have p2' := neg_le_abs (p - gv * w)
  have pab : p.abs ≤ 76 * (U * B) + 76 * (U * E) + ETA := abs_le_of (by grind) (by grind)
  have pa0 : 0 ≤ p.abs := Rat.abs_nonneg
  have ra0 : 0 ≤ r.abs := Rat.abs_nonneg
  have upa := pos p.abs pa0
  have tpa := tiny p.abs pa0
  -- r
  have r1 := abs_add_le X (r - X)
  rw [show X + (r - X) = r by grind] at r1
  have ur : U * r.abs ≤ U * (B + E) := Rat.mul_le_mul_of_nonneg_left (by grind) (Rat.le_of_lt hU)
  have urs : U * (B + E) = U * B + U * E := by grind
  -- q
  have q0 := abs_add_le r.abs p
  rw [Rat.abs_of_nonneg ra0] at q0
  have uq0 : U * (r.abs + p).abs ≤ U * (r.abs + p.abs) := Rat.mul_le_mul_of_nonneg_left q0 (Rat.le_of_lt hU)
  have uqs : U * (r.abs + p.abs) = U * r.abs + U * p.abs := by grind
  have q1 := le_abs (q - (r.abs + p))
  have q2 := neg_le_abs (q - (r.abs + p))
  have qab : q.abs ≤ r.abs + p.abs + (U * r.abs + U * p.abs) := by
    have := le_abs p
    have := neg_le_abs p
    exact abs_le_of (by grind) (by grind)
  have uq : U * q.abs ≤ U * (r.abs + p.abs + (U * r.abs + U * p.abs)) := Rat.mul_le_mul_of_nonneg_left qab (Rat.le_of_lt hU)
  have pur := pos r.abs ra0
  have tq := tiny (U * r.abs + U * p.abs) (by grind)
  have uqss : U * (r.abs + p.abs + (U * r.abs + U * p.abs)) = U * r.abs + U * p.abs + U * (U * r.abs + U * p.abs) := by grind
  -- f
  have t0 : 0 ≤ t := by rw [ht]; exact Rat.mul_nonneg (by grind) (by grind)
  have tt := tiny t t0
  have f1 := neg_le_abs (f - (q + t))
  have f0 := abs_add_le q t
  rw [Rat.abs_of_nonneg t0] at f0
  have uf : U * (q + t).abs ≤ U * (q.abs + t) := Rat.mul_le_mul_of_nonneg_left f0 (Rat.le_of_lt hU)
  have ufs : U * (q.abs + t) = U * q.abs + U * t := by grind
  have ht' : t = 32 * (n * ETA) + 96 * ETA := by rw [ht]; grind
  generalize U * (38 * (U * B) + 38 * (U * E)) = z1 at *
  generalize U * (gv * w).abs = z2 at *
  generalize gv * w = gw at *
  generalize n * (U * B) = nUB at *
  generalize n * ETA = nE at *
  generalize U * B = UB at *
  generalize U * E = UE at *
  generalize U * (U * r.abs + U * p.abs) = z4 at *
  generalize U * r.abs = z5 at *
  generalize U * p.abs = z6 at *
  generalize U * q.abs = z7 at *
  generalize U * (q + t).abs = z8 at *
  generalize U * (r.abs + p).abs = z9 at *
  generalize U * t = z10 at *
  rw [hE']
  clear tiny pos hE hg ht gE gB g38 gw1 gw2
  grind
/-- The values of the constants in the bounds. -/
def cG (n : Nat) : Rat := ((n : Rat) + 3) * p2 (-52)
theorem row_fin {S P : Nat → Nat} {op : Nat → Nat → Nat} (hop : ∀ x y, fin (op x y) = true → fin x = true ∧ fin y = true) {n : Nat} (hS : ∀ j, j < n → S (j + 1) = op (S j) (P j)) (hf : fin (S n) = true) : ∀ j, j ≤ n → fin (S j) = true ∧ (j < n → fin (P j) = true) := by
  have key : ∀ k, k ≤ n → fin (S (n - k)) = true := by
    intro k
    induction k with
    | zero => intro _; exact hf
    | succ k ih =>
      intro hk
      have h1 := ih (by omega)
      have h2 := hS (n - (k + 1)) (by omega)
      rw [show n - (k + 1) + 1 = n - k by omega] at h2
      rw [h2] at h1
      exact (hop _ _ h1).1
  intro j hj
  have h1 := key (n - j) (by omega)
  rw [show n - (n - j) = j by omega] at h1
  refine ⟨h1, fun hlt => ?_⟩
  have h3 := key (n - (j + 1)) (by omega)
  rw [show n - (n - (j + 1)) = j + 1 by omega, hS j hlt] at h3
  exact (hop _ _ h3).2
/-- A row's rest and weight, and how far they are off. -/
theorem rest_err {S W : Nat → Nat} {A X : Nat → Nat} {n : Nat} (hn : n ≤ 64) (hA : ∀ j, A j < 2 ^ 64) (hX : ∀ j, X j < 2 ^ 64) (h0 : S 0 < 2 ^ 64) (hS : ∀ j, j < n → S (j + 1) = fsub (S j) (fmul (A j) (X j)))
    (w0 : W 0 = fabs (S 0)) (hW : ∀ j, j < n → W (j + 1) = fadd (W j) (fmul (fabs (A j)) (fabs (X j)))) (fS : fin (S n) = true) (fW : fin (W n) = true) :
    (val (S n) - exS (val (S 0)) (fun j => -(val (A j) * val (X j))) n).abs ≤ (n + 1) * (33 / 32) * (U * exB (val (S 0)) (fun j => -(val (A j) * val (X j))) n) + 2 * n * ETA ∧
    (val (W n) - exB (val (S 0)) (fun j => -(val (A j) * val (X j))) n).abs ≤ (n + 1) * (33 / 32) * (U * exB (val (S 0)) (fun j => -(val (A j) * val (X j))) n) + 2 * n * ETA := by
  have kS := row_fin (op := fsub) (P := fun j => fmul (A j) (X j)) (fun _ _ => fsub_fin) hS fS
  have kW := row_fin (op := fadd) (P := fun j => fmul (fabs (A j)) (fabs (X j))) (fun _ _ => fadd_fin) hW fW
  have lS : ∀ j, j ≤ n → S j < 2 ^ 64 := fun j hj => by
    cases j with
    | zero => exact h0
    | succ j => rw [hS j (by omega)]; exact fsub_lt _ _
  have lW : ∀ j, j ≤ n → W j < 2 ^ 64 := fun j hj => by
    cases j with
    | zero => rw [w0]; exact fabs_lt h0
    | succ j => rw [hW j (by omega)]; exact fadd_lt _ _
  constructor
  · have := sum_err (fun j => val (S j)) (fun j => -(val (fmul (A j) (X j)))) (fun j => -(val (A j) * val (X j))) n hn ?_ ?_ n (Nat.le_refl _)
    · exact this
    · intro j hj
      have h1 := fmul_err ((kS j (by omega)).2 hj)
      show (-(val (fmul (A j) (X j))) - -(val (A j) * val (X j))).abs ≤ U * (-(val (A j) * val (X j))).abs + ETA
      rw [Rat.abs_neg, show -(val (fmul (A j) (X j))) - -(val (A j) * val (X j)) = -(val (fmul (A j) (X j)) - val (A j) * val (X j)) by grind, Rat.abs_neg]
      exact h1
    · intro j hj
      have h1 := (kS (j + 1) (by omega)).1
      have h2 := hS j hj
      show (val (S (j + 1)) - (val (S j) + -(val (fmul (A j) (X j))))).abs ≤ U * (val (S j) + -(val (fmul (A j) (X j)))).abs
      rw [h2] at h1 ⊢
      have := fsub_err' (lS j (by omega)) (fmul_lt _ _) h1
      rw [show val (S j) + -(val (fmul (A j) (X j))) = val (S j) - val (fmul (A j) (X j)) by grind]
      exact this
  · have f0 := (kS 0 (by omega)).1
    have v0 : val (W 0) = (val (S 0)).abs := by rw [w0]; exact (fabs_val h0).2 f0
    have eB : ∀ k, exS (val (S 0)).abs (fun j => (val (A j) * val (X j)).abs) k = exB (val (S 0)) (fun j => -(val (A j) * val (X j))) k ∧ exB (val (S 0)).abs (fun j => (val (A j) * val (X j)).abs) k = exB (val (S 0)) (fun j => -(val (A j) * val (X j))) k := by
      intro k
      induction k with
      | zero => exact ⟨rfl, Rat.abs_of_nonneg Rat.abs_nonneg⟩
      | succ k ih =>
        have e1 : (-(val (A k) * val (X k))).abs = (val (A k) * val (X k)).abs := Rat.abs_neg
        refine ⟨?_, ?_⟩
        · show exS _ _ k + (val (A k) * val (X k)).abs = exB _ _ k + (-(val (A k) * val (X k))).abs
          rw [ih.1, e1]
        · show exB _ _ k + ((val (A k) * val (X k)).abs).abs = exB _ _ k + (-(val (A k) * val (X k))).abs
          rw [ih.2, e1, Rat.abs_of_nonneg Rat.abs_nonneg]
    have := sum_err (fun j => val (W j)) (fun j => val (fmul (fabs (A j)) (fabs (X j)))) (fun j => (val (A j) * val (X j)).abs) n hn ?_ ?_ n (Nat.le_refl _)
    · have this' : (val (W n) - exS (val (W 0)) (fun j => (val (A j) * val (X j)).abs) n).abs ≤ (n + 1) * (33 / 32) * (U * exB (val (W 0)) (fun j => (val (A j) * val (X j)).abs) n) + 2 * n * ETA := this
      rw [v0, (eB n).1, (eB n).2] at this'
      exact this'
    · intro j hj
      have h1 := (kW j (by omega)).2 hj
      have h2 := fmul_err h1
      obtain ⟨h3, h4⟩ := fmul_fin h1
      rw [(fabs_val (hA j)).1] at h3
      rw [(fabs_val (hX j)).1] at h4
      rw [(fabs_val (hA j)).2 h3, (fabs_val (hX j)).2 h4] at h2
      have e1 : (val (A j)).abs * (val (X j)).abs = (val (A j) * val (X j)).abs := by
        rcases Rat.le_total (a := 0) (b := val (A j)) with p | p <;> rcases Rat.le_total (a := 0) (b := val (X j)) with q | q
        · rw [Rat.abs_of_nonneg p, Rat.abs_of_nonneg q, Rat.abs_of_nonneg (Rat.mul_nonneg p q)]
        · rw [Rat.abs_of_nonneg p, Rat.abs_of_nonpos q, Rat.abs_of_nonpos (by have := Rat.mul_nonneg p (show 0 ≤ -(val (X j)) by grind); grind)]; grind
        · rw [Rat.abs_of_nonpos p, Rat.abs_of_nonneg q, Rat.abs_of_nonpos (by have := Rat.mul_nonneg (show 0 ≤ -(val (A j)) by grind) q; grind)]; grind
        · rw [Rat.abs_of_nonpos p, Rat.abs_of_nonpos q, Rat.abs_of_nonneg (by have := Rat.mul_nonneg (show 0 ≤ -(val (A j)) by grind) (show 0 ≤ -(val (X j)) by grind); grind)]; grind
      rw [e1] at h2
      show (val (fmul (fabs (A j)) (fabs (X j))) - (val (A j) * val (X j)).abs).abs ≤ U * ((val (A j) * val (X j)).abs).abs + ETA
      rw [Rat.abs_of_nonneg (Rat.abs_nonneg (x := val (A j) * val (X j)))] at h2 ⊢
      exact h2
    · intro j hj
      have h1 := (kW (j + 1) (by omega)).1
      have h2 := hW j hj
      show (val (W (j + 1)) - (val (W j) + val (fmul (fabs (A j)) (fabs (X j))))).abs ≤ U * (val (W j) + val (fmul (fabs (A j)) (fabs (X j)))).abs
      rw [h2] at h1 ⊢
      exact fadd_err' (lW j (by omega)) (fmul_lt _ _) h1
/-- THE BOUND: with what both are off, twice. -/
theorem bound_law {S W : Nat → Nat} {A X : Nat → Nat} {n g t : Nat} (hn : n ≤ 16) (hA : ∀ j, A j < 2 ^ 64) (hX : ∀ j, X j < 2 ^ 64) (h0 : S 0 < 2 ^ 64) (hS : ∀ j, j < n → S (j + 1) = fsub (S j) (fmul (A j) (X j)))
    (w0 : W 0 = fabs (S 0)) (hW : ∀ j, j < n → W (j + 1) = fadd (W j) (fmul (fabs (A j)) (fabs (X j)))) (hg : val g = ((n : Rat) + 3) * (2 * U)) (ht : val t = ((n : Rat) + 3) * (32 * ETA)) (htl : t < 2 ^ 64)
    (hf : fin (fadd (fadd (fabs (S n)) (fmul g (W n))) t) = true) :
    (exS (val (S 0)) (fun j => -(val (A j) * val (X j))) n).abs + ((n + 1) * (33 / 32) * (U * exB (val (S 0)) (fun j => -(val (A j) * val (X j))) n) + 2 * n * ETA) ≤ val (fadd (fadd (fabs (S n)) (fmul g (W n))) t) ∧ fin (S n) = true ∧ fin (W n) = true := by
  obtain ⟨f1, f2⟩ := fadd_fin hf
  obtain ⟨f3, f4⟩ := fadd_fin f1
  obtain ⟨f5, f6⟩ := fmul_fin f4
  have hSl : S n < 2 ^ 64 := by
    cases n with
    | zero => exact h0
    | succ n => rw [hS n (by omega)]; exact fsub_lt _ _
  have fS : fin (S n) = true := by rw [← (fabs_val hSl).1]; exact f3
  obtain ⟨e1, e2⟩ := rest_err (by omega) hA hX h0 hS w0 hW fS f6
  have hn0 : (0 : Rat) ≤ n := Rat.natCast_nonneg
  have hn16 : (n : Rat) ≤ 16 := by
    have := Rat.natCast_le_natCast.2 hn
    simpa using this
  have hp := fmul_err f4
  have hq := fadd_err' (fabs_lt hSl) (fmul_lt _ _) f1
  have hff := fadd_err' (fadd_lt _ _) htl hf
  rw [(fabs_val hSl).2 fS] at hq
  rw [ht] at hff
  rw [hg] at hp
  have := rest_ineq hn0 hn16 (exB_nonneg _ _ n) rfl (exS_le _ _ n) e1 e2 rfl rfl hp hq hff
  refine ⟨?_, fS, f6⟩
  have h3 := abs_add_le (val (S n)) (exS (val (S 0)) (fun j => -(val (A j) * val (X j))) n - val (S n))
  rw [abs_sub_comm] at e1
  rw [show val (S n) + (exS (val (S 0)) (fun j => -(val (A j) * val (X j))) n - val (S n)) = exS (val (S 0)) (fun j => -(val (A j) * val (X j))) n by grind] at h3
  grind
end Sedge
end
section
/-
  Plain: a number of a product is close.
-/
set_option linter.unusedSimpArgs false
set_option linter.unusedVariables false
namespace Sedge
open Ieee
theorem fmul_best {x y f : Nat} (h : fin (fmul x y) = true) (hf : f < 2 ^ 64) (ff : fin f = true) : (val (fmul x y) - val x * val y).abs ≤ (val f - val x * val y).abs := by
  obtain ⟨fx, fy⟩ := fmul_fin h
  obtain ⟨c, z, b, h1, h2⟩ := fmul_read fx fy
  rw [h1] at h ⊢
  rw [← h2]
  by_cases hz : z = 0
  · subst hz
    have e : D64.write (.number c 0 b) = D64.word c 0 := by
      show D64.nearest c 0 b = _; unfold Format.nearest; rw [if_pos rfl]
    rw [e, (word_zero c).1, dat_zero]
    have : ((0 : Rat) - 0).abs = 0 := by decide +kernel
    rw [this]
    exact Rat.abs_nonneg
  · exact nearest_best c z b hz h hf ff
theorem val_one : val 4607182418800017408 = 1 := by decide +kernel
theorem eq_of_abs {x y : Rat} (h : (x - y).abs ≤ 0) : x = y := by
  have h1 := le_abs (x - y)
  have h2 := neg_le_abs (x - y)
  grind
theorem fmul_exact {x y f : Nat} (h : fin (fmul x y) = true) (hf : f < 2 ^ 64) (ff : fin f = true) (e : val f = val x * val y) : val (fmul x y) = val x * val y := by
  have h1 := fmul_best h hf ff
  rw [e, show val x * val y - val x * val y = 0 by grind, show (0 : Rat).abs = 0 by decide +kernel] at h1
  exact eq_of_abs h1
theorem fmul_one {x : Nat} (hx : x < 2 ^ 64) (h : fin (fmul 4607182418800017408 x) = true) : val (fmul 4607182418800017408 x) = val x := by
  have h1 := fmul_exact h hx (fmul_fin h).2 (by rw [val_one]; grind)
  rw [h1, val_one]; grind
theorem mul_close {S A X : Nat → Nat} {Y n : Nat} (hn : n ≤ 64) (hX : ∀ j, X j < 2 ^ 64) (hY : Y < 2 ^ 64) (h0 : S 0 = fmul 4607182418800017408 Y) (hS : ∀ j, j < n → S (j + 1) = fadd (S j) (fmul (fmul 4607182418800017408 (X j)) (A j))) (hf : fin (S n) = true) :
    (val (S n) - exS (val Y) (fun j => val (A j) * val (X j)) n).abs ≤ (exB (val Y) (fun j => val (A j) * val (X j)) n * p2 (-51) + ((1 : Nat) : Rat) * p2 (-1070)) * ((n + 1 : Nat) : Rat) := by
  have kS := row_fin (op := fadd) (P := fun j => fmul (fmul 4607182418800017408 (X j)) (A j)) (fun _ _ => fadd_fin) hS hf
  have f0 : fin (S 0) = true := (kS 0 (Nat.zero_le _)).1
  have e0 : val (S 0) = val Y := by rw [h0]; rw [h0] at f0; exact fmul_one hY f0
  have hSl : ∀ j, j ≤ n → S j < 2 ^ 64 := fun j hj => by
    cases j with
    | zero => rw [h0]; exact fmul_lt _ _
    | succ j => rw [hS j (by omega)]; exact fadd_lt _ _
  have h1 := sum_err (fun j => val (S j)) (fun j => val (fmul (fmul 4607182418800017408 (X j)) (A j))) (fun j => val (A j) * val (X j)) n hn (fun j hj => by
      have f1 := (kS j (by omega)).2 hj
      obtain ⟨f2, f3⟩ := fmul_fin f1
      have := fmul_err f1
      rw [fmul_one (hX j) f2] at this
      rw [show val (A j) * val (X j) = val (X j) * val (A j) by grind]
      exact this) (fun j hj => by
      have f1 := (kS (j + 1) (by omega)).1
      show (val (S (j + 1)) - (val (S j) + _)).abs ≤ _
      rw [hS j hj] at f1 ⊢
      exact fadd_err' (hSl j (by omega)) (fmul_lt _ _) f1) n (Nat.le_refl n)
  simp only [e0] at h1
  have hB := exB_nonneg (val Y) (fun j => val (A j) * val (X j)) n
  have e1 : p2 (-51) = 4 * U := by unfold U; rw [show (-51 : Int) = -53 + 1 + 1 by rfl, p2_succ, p2_succ]; grind
  have e2 : p2 (-1070) = 32 * ETA := by
    unfold ETA; rw [show (-1070 : Int) = -1075 + 1 + 1 + 1 + 1 + 1 by rfl, p2_succ, p2_succ, p2_succ, p2_succ, p2_succ]; grind
  rw [e1, e2]
  have hn0 : (0 : Rat) ≤ n := Rat.natCast_nonneg
  have en : ((n + 1 : Nat) : Rat) = (n : Rat) + 1 := by rw [Rat.natCast_add]; rfl
  rw [en]
  have hU := U_pos
  have hE := ETA_pos
  generalize exB (val Y) (fun j => val (A j) * val (X j)) n = B at *
  have u1 : 0 ≤ U * B := Rat.mul_nonneg (Rat.le_of_lt hU) hB
  have u2 : 0 ≤ (n : Rat) * (U * B) := Rat.mul_nonneg hn0 u1
  have u3 : 0 ≤ (n : Rat) * ETA := Rat.mul_nonneg hn0 (Rat.le_of_lt hE)
  refine Rat.le_trans h1 ?_
  rw [show ((n : Rat) + 1) * (33 / 32) * (U * B) + 2 * n * ETA = 33 / 32 * (n * (U * B)) + 33 / 32 * (U * B) + 2 * (n * ETA) by grind]
  rw [show (B * (4 * U) + ((1 : Nat) : Rat) * (32 * ETA)) * ((n : Rat) + 1) = 4 * (n * (U * B)) + 4 * (U * B) + 32 * (n * ETA) + 32 * ETA by rw [show ((1 : Nat) : Rat) = 1 from rfl]; grind]
  grind
end Sedge
end
section
/-
  GemvClose: the product that is made, its numbers; New with its room.
-/
set_option linter.unusedSimpArgs false
set_option linter.unusedVariables false
open Go Go.RowKit Sedge
namespace Go.Proofs.Ytcmggfpcbijcjaa
set_option maxRecDepth 100000 in
/-- straightedgeref03.New. -/
theorem rnewc_any (r c : Nat) (w : World) (hr : r ≤ 1000) (hc : c ≤ 1000) :
   Calls Try.prog 68 #[.int .i64 r, .int .i64 c] w (fun e w' => ∃ k, e = .returned (.agg #[.int .i64 r, .int .i64 c, .slice (some ⟨k, 0, none⟩) (r * c) (r * c)]) ∧ w.heap.size ≤ k ∧ FW w' k (List.replicate (r * c) 0) ∧ ∃ o n, w' = ext w o n) := by
  have hm : r * c ≤ 1000 * 1000 := Nat.mul_le_mul hr hc
  have h2 : IntKind.i64.wrap ((r : Int) * c) = (r : Int) * c := IntWalk.i64_in _ (by rw [← Int.natCast_mul]; omega)
  go_enter Try.func68, Try.ntmps68
  refine seq_stop ?_
  go_wp2
  refine stop_go (fun W hW => ?_)
  have s1 : w.heap.size < W.heap.size := by rw [hW]; simp only [World.size_alloc]; omega
  have b1 : ∀ i, W.cell? ⟨w.heap.size, i, none⟩ = (#[.int .i64 0, .int .i64 0, .slice none 0 0] : Array Value)[i]? := by intro i; rw [hW]; go_simp
  have f1 : ∀ i, W.frozen? ⟨w.heap.size, i, none⟩ = false := by intro i; rw [hW]; go_simp
  have g0 : Grew w W := by rw [hW]; exact (Grew.refl _).alloc _
  clear hW
  go_wp2_with (at_make; refine make_f (L := (r : Int) * (c : Int)) finfo (Grew.refl W) _ _ rfl rfl (r * c) (Int.natCast_mul r c).symm rfl rfl (by omega) ?_; intro oo nn k hk ho; have hF := ho.made)
  refine bodyPost_ret (v := .agg #[.int .i64 r, .int .i64 c, .slice (some ⟨k, 0, none⟩) (r * c) (r * c)]) (by simp [results, Try.results68, go_sem, *]) rfl ?_
  exact ⟨_, rfl, by omega, by (repeat (first | (with_reducible assumption) | ((with_reducible refine FW.ext_set ?_ ?_ ?_ _); rotate_left; (focus (simp only [size_setCell', World.size_alloc, size_ext, size_upd]; omega)); (focus (dsimp only; omega))) | ((with_reducible refine FW.setCell_ne ?_ ?_ _); rotate_left; (focus (dsimp only; omega))) | (with_reducible refine FW.ext ?_ _ _) | (with_reducible refine FW.alloc ?_ _))), by (show Grew _ _; repeat (first | (with_reducible exact Grew.refl _) | (with_reducible assumption) | (with_reducible exact Grew.same_o) | (with_reducible exact Grew.app_o) | (with_reducible refine Grew.ext ?_ _ _) | (with_reducible refine Grew.alloc ?_ _) | ((with_reducible refine Grew.setCell ?_ ?_ _); rotate_left; (focus (dsimp only; first | omega | (simp only [size_ext, World.size_alloc, Array.size_append]; omega)))) | (with_reducible refine Grew.drewN ?_ _) | (with_reducible refine Grew.drew ?_)))⟩
theorem denseL_length (r c : Nat) (l : List Nat) : (denseL r c l).length = r * c := by simp [denseL, denseTo]
theorem dense_num {r c : Nat} {l : List Nat} (hl : l.length = r * c) {i j : Nat} (hi : i < r) (hj : j < c) : (denseL r c l).getD (i + j * r) 0 = l.getD (i * c + j) 0 := by
  have hc : 0 < c := by omega
  have hk : i * c + j < r * c := by
    have := Nat.mul_le_mul_right c (show i + 1 ≤ r by omega)
    rw [Nat.add_mul] at this; omega
  have e1 : (i * c + j) / c = i := by rw [Nat.add_comm, Nat.add_mul_div_right _ _ hc, Nat.div_eq_of_lt hj, Nat.zero_add]
  have e2 : (i * c + j) % c = j := by rw [Nat.add_comm, Nat.add_mul_mod_self_right, Nat.mod_eq_of_lt hj]
  unfold denseL denseTo
  rw [hl, Nat.min_self]
  have h := writes_at (l := List.replicate (r * c) 0) (p := fun k => k / c + k % c * r) (f := fun k => l.getD k 0) (r * c) (fun s t hs ht e => ?_) (fun t ht => ?_) (i * c + j) hk
  · simp only [e1, e2] at h
    exact h
  · have hs1 : s / c < r := by rw [Nat.div_lt_iff_lt_mul hc]; exact hs
    have ht1 : t / c < r := by rw [Nat.div_lt_iff_lt_mul hc]; exact ht
    have hr : 0 < r := by omega
    have m1 : (s / c + s % c * r) % r = s / c := by rw [Nat.add_mul_mod_self_right, Nat.mod_eq_of_lt hs1]
    have m2 : (t / c + t % c * r) % r = t / c := by rw [Nat.add_mul_mod_self_right, Nat.mod_eq_of_lt ht1]
    have n1 : (s / c + s % c * r) / r = s % c := by rw [Nat.add_mul_div_right _ _ hr, Nat.div_eq_of_lt hs1, Nat.zero_add]
    have n2 : (t / c + t % c * r) / r = t % c := by rw [Nat.add_mul_div_right _ _ hr, Nat.div_eq_of_lt ht1, Nat.zero_add]
    have q1 : s / c = t / c := by rw [← m1, ← m2, e]
    have q2 : s % c = t % c := by rw [← n1, ← n2, e]
    rw [← Nat.div_add_mod s c, ← Nat.div_add_mod t c, q1, q2]
  · have ht1 : t / c < r := by rw [Nat.div_lt_iff_lt_mul hc]; exact ht
    have ht2 : t % c < c := Nat.mod_lt _ hc
    rw [List.length_replicate]
    have := Nat.mul_le_mul_right r (show t % c + 1 ≤ c by omega)
    rw [Nat.add_mul, Nat.mul_comm c r] at this
    omega
theorem mul_cl (r c : Nat) (TT X Y : List Nat) (hT : TT.length = r * c) (hr : r ≤ 12) (hr1 : 1 ≤ r) (hc : c ≤ 12) (hc1 : 1 ≤ c) (gm cm bx ox cx g cg : Nat) (w : World) (hM : FW w gm (denseL r c TT)) (hX : FS w (.slice (some ⟨bx, ox, none⟩) X.length cx) X) (hcX : c ≤ X.length) (hXl : X.length ≤ 1000) (hZ : FW w g Y) (hY : Y.length = r)
    (n1 : g ≠ gm) (n2 : g ≠ bx) :
    Calls Try.prog 71 #[.float .f64 4607182418800017408, .agg #[.slice (some ⟨gm, 0, none⟩) (r * c) cm, .int .i64 0, .int .i64 r, .int .i64 c, .int .i64 r], .agg #[.slice (some ⟨bx, ox, none⟩) X.length cx, .int .i64 0, .int .i64 c, .int .i64 1], .float .f64 4607182418800017408, .agg #[.slice (some ⟨g, 0, none⟩) Y.length cg, .int .i64 0, .int .i64 Y.length, .int .i64 1]] w
      (fun e w' => e = .returned (.int .i64 0) ∧ But w [g] w' ∧ ∃ Z, FW w' g Z ∧ Z.length = r ∧ ∀ i, i < r → ∃ S : Nat → Nat, S 0 = fmul 4607182418800017408 (Y.getD i 0) ∧ (∀ j, j < c → S (j + 1) = fadd (S j) (fmul (fmul 4607182418800017408 (X.getD j 0)) (TT.getD (i * c + j) 0))) ∧ Z.getD i 0 = S c) := by
  have hm : r * c ≤ 12 * 12 := Nat.mul_le_mul hr hc
  have hDl := denseL_length r c TT
  have hms : ((c : Int) - 1) * r + ((r : Int) - 1) < (r * c : Nat) := by
    rw [Int.sub_mul, Int.one_mul, Int.natCast_mul, Int.mul_comm]; omega
  have h := mulO_ok 4607182418800017408 4607182418800017408 4607182418800017408 4607182418800017408 ⟨denseL r c TT, 0, r, c, r⟩ ⟨X, 0, c, 1⟩ ⟨Y, 0, r, 1⟩ gm cm bx ox cx g cg w (by decide +kernel) (by decide +kernel)
    ⟨hM.fs (by rw [hDl]; omega) cm, hX, hZ.fs (by omega) cg, FW.plain hM, held_fs hX (by omega), FW.plain hZ,
      by simp only [MatM.good, fitsB, hDl, Bool.and_eq_true, Bool.or_eq_true, decide_eq_true_eq]; refine ⟨by omega, .inr ⟨by omega, by omega⟩⟩,
      by simp only [VecM.right, fitsB, Bool.and_eq_true, Bool.or_eq_true, decide_eq_true_eq]; refine ⟨by omega, .inr ⟨by omega, by omega⟩⟩,
      by simp only [VecM.right, fitsB, Bool.and_eq_true, Bool.or_eq_true, decide_eq_true_eq]; refine ⟨by omega, .inr ⟨by omega, by omega⟩⟩,
      rfl, rfl, by rw [show decide (g = gm) = false by simpa using n1]; simp [meetM], n2, by simp [MatM.wf, I64]; omega, by simp [VecM.wf, I64]; omega, by simp [VecM.wf, I64]; omega, by show (denseL r c TT).length ≤ _; rw [hDl]; omega, by show X.length ≤ _; omega, by show Y.length ≤ _; omega⟩
    hZ (by show (0 : Int) < r; omega) (fun e => absurd e.symm n1) hM.lt (by obtain ⟨blk, o, e, hb, _⟩ := hX.at.2 (by omega); cases e; exact hb)
  rw [show (denseL r c TT).length = r * c from hDl] at h
  rw [hY]
  simp only at h
  rw [hY] at h
  refine h.mono fun e w' hh => ?_
  obtain ⟨rfl, q1, Z, q2, q3⟩ := hh
  refine ⟨rfl, q1, Z, q2, by rw [q3.len]; exact hY, fun i hi => ?_⟩
  have hz := q3.get i (by show (i : Int) < r; omega)
  refine ⟨fun j => mulTo 4607182418800017408 (MatM.num ⟨denseL r c TT, 0, r, c, r⟩) (VecM.num ⟨X, 0, c, 1⟩) (beginF 4607182418800017408 (VecM.num ⟨Y, 0, r, 1⟩ i)) i j, ?_, fun j hj => ?_, ?_⟩
  · show beginF _ _ = _
    have e0 : VecM.num ⟨Y, 0, r, 1⟩ i = Y.getD i 0 := by unfold VecM.num VecM.place; simp
    rw [e0]
    unfold beginF
    rw [if_neg (by decide +kernel)]
  · show fadd _ _ = _
    have e1 : VecM.num ⟨X, 0, c, 1⟩ j = X.getD j 0 := by unfold VecM.num VecM.place; simp
    have e2 : MatM.num ⟨denseL r c TT, 0, r, c, r⟩ i j = TT.getD (i * c + j) 0 := by
      rw [← dense_num hT hi hj]
      unfold MatM.num MatM.place
      simp only
      congr 1
      rw [Int.zero_add, ← Int.natCast_mul, ← Int.natCast_add, Int.toNat_natCast]
    rw [e1, e2]
  · have e3 : VecM.place ⟨Y, 0, r, 1⟩ i = i := by unfold VecM.place; simp
    rw [e3] at hz
    rw [hz]
    simp
end Go.Proofs.Ytcmggfpcbijcjaa
end
section
/-
  A region that draws, with acts in no fixed order: one goal for each operation, off facts that last.
-/
set_option linter.unusedSimpArgs false
set_option linter.unusedVariables false
namespace Sedge
open Go Go.RowKit
section
variable {P : Program} {Q : Exit → Act → World → Prop} {l : List Oper}
/-- Does an operation wait for number i? -/
def deps (o : Oper) (i : Nat) : Bool := o.after.any fun e => Region.binds .any e && e.on == i
def stepJ (P : Program) (Q : Exit → Act → World → Prop) (l : List Oper) (J : (Nat → Bool) → Act → World → Prop) (i : Nat) (o : Oper) : Prop :=
  ∀ L a w, L i = false → (∀ e, deps o e = true → L e = true) → (∀ k ok, nth l k = some ok → deps ok i = true → L k = false) → J L a w →
    ∀ K : Act → World → Prop, (∀ a' w', J (fun k => k == i || L k) a' w' → K a' w') → o.wp P a w K Q
def stepsJ (P : Program) (Q : Exit → Act → World → Prop) (l : List Oper) (J : (Nat → Bool) → Act → World → Prop) : List Oper → Nat → Prop
  | [], _ => True
  | o :: r, i => stepJ P Q l J i o ∧ stepsJ P Q l J r (i + 1)
def okAt : List Oper → Nat → Bool
  | [], _ => true
  | o :: r, i => o.guard.isNone && (o.after.all fun e => !Region.binds .any e || decide (e.on < i)) && okAt r (i + 1)
theorem stepsJ_nth {J : (Nat → Bool) → Act → World → Prop} : ∀ (r : List Oper) (b : Nat), stepsJ P Q l J r b → ∀ i o, nth r i = some o → stepJ P Q l J (b + i) o
  | [], _, _, _, _, h => by cases h
  | o :: r, b, h, 0, o', h' => by simp only [nth, Option.some.injEq] at h'; subst h'; exact h.1
  | o :: r, b, h, i + 1, o', h' => by have := stepsJ_nth r (b + 1) h.2 i o' h'; rwa [show b + (i + 1) = b + 1 + i from by omega]
theorem okAt_nth : ∀ (r : List Oper) (b : Nat), okAt r b = true → ∀ i o, nth r i = some o → o.guard = none ∧ ∀ e ∈ o.after, Region.binds .any e = true → e.on < b + i
  | [], _, _, _, _, h => by cases h
  | o :: r, b, h, 0, o', h' => by
    simp only [nth, Option.some.injEq] at h'; subst h'
    simp only [okAt, Bool.and_eq_true, Option.isNone_iff_eq_none, Array.all_eq_true_iff_forall_mem, Bool.or_eq_true, Bool.not_eq_true', decide_eq_true_eq] at h
    exact ⟨h.1.1, fun e he hb => by rcases h.1.2 e he with h1 | h1; · rw [h1] at hb; cases hb
                                    · exact h1⟩
  | o :: r, b, h, i + 1, o', h' => by
    simp only [okAt, Bool.and_eq_true] at h
    have := okAt_nth r (b + 1) h.2 i o' h'
    rwa [show b + 1 + i = b + (i + 1) from by omega] at this
theorem nth_len : ∀ (r : List Oper) (i : Nat), i < r.length → ∃ o, nth r i = some o
  | [], _, h => by simp at h
  | o :: r, 0, _ => ⟨o, rfl⟩
  | o :: r, i + 1, h => nth_len r i (by simpa using h)
theorem count_set : ∀ (b : List Bool) (i : Nat), b[i]? = some false → (b.set i true).count false + 1 = b.count false
  | [], i, h => by simp at h
  | x :: b, 0, h => by simp at h; subst h; simp
  | x :: b, i + 1, h => by
    have := count_set b i (by simpa using h)
    simp only [List.set_cons_succ, List.count_cons]; omega
theorem parJ {J : (Nat → Bool) → Act → World → Prop} (hok : okAt l 0 = true) (hs : stepsJ P Q l J l 0)
    (he : ∀ L a w, (∀ k, k < l.length → L k = true) → J L a w → Q .normal a w) :
    ∀ (fuel : Nat) (b : Array Bool) (a : Act) (w : World), b.size = l.length → b.toList.count false = fuel →
      (∀ k ok i, nth l k = some ok → deps ok i = true → b.getD k false = true → b.getD i false = true) → J (fun k => b.getD k false) a w →
      wpAny P .any l.toArray Q fuel b a w := by
  intro fuel
  induction fuel with
  | zero =>
    intro b a w hb hc _ hJ
    have hall : ∀ k, k < l.length → b.getD k false = true := by
      intro k hk
      have h1 : b[k]? = some b[k] := Array.getElem?_eq_getElem (by omega)
      have h2 : ∀ x ∈ b.toList, x ≠ false := fun x hx hf => by subst hf; exact absurd hx (List.count_eq_zero.1 hc)
      have h3 := h2 b[k] (by simp)
      simp [Array.getD, hb, hk]; simpa using h3
    refine ⟨?_, he _ _ _ hall hJ⟩
    rw [List.eq_nil_iff_forall_not_mem]
    intro j hj
    obtain ⟨h1, o, ho, _⟩ := mem_ready.1 hj
    have hjl : j < l.length := by have := (List.getElem?_eq_some_iff.1 (by simpa using ho)).1; simpa using this
    have := hall j hjl
    simp [Array.getD, hb, hjl] at h1 this
    rw [h1] at this; cases this
  | succ n ih =>
    intro b a w hb hc hcl hJ
    refine ⟨fun hr => ?_, fun i hi => ?_⟩
    · -- the least that is not listed would be ready
      have hall : ∀ k, k < l.length → b.getD k false = true := by
        intro k
        induction k using Nat.strongRecOn with
        | _ k ihk =>
          intro hk
          cases hbk : b.getD k false
          · obtain ⟨o, ho⟩ := nth_len l k hk
            have hin : k ∈ Region.ready .any l.toArray b := by
              refine mem_ready.2 ⟨?_, o, by rw [← nth_eq]; exact ho, fun e hee hbd => ?_⟩
              · simp [Array.getD, hb, hk] at hbk ⊢; exact hbk
              · have h1 := (okAt_nth l 0 hok k o ho).2 e hee hbd
                exact ihk e.on (by omega) (by omega)
            rw [hr] at hin; cases hin
          · rfl
      exact he _ _ _ hall hJ
    · obtain ⟨h1, o, ho, hd⟩ := mem_ready.1 hi
      have hil : i < l.length := by have := (List.getElem?_eq_some_iff.1 (by simpa using ho)).1; simpa using this
      have hbi : b.getD i false = false := by simp [Array.getD, hb, hil] at h1 ⊢; exact h1
      have hno : nth l i = some o := by rw [nth_eq]; exact ho
      unfold wpOp
      rw [ho]
      simp only [wanted_none' (okAt_nth l 0 hok i o hno).1, if_true]
      refine .inl ?_
      have hst := stepsJ_nth l 0 hs i o hno
      rw [Nat.zero_add] at hst
      have hdep : ∀ e, deps o e = true → b.getD e false = true := fun e hee => by
        unfold deps at hee
        simp only [Array.any_eq_true, Bool.and_eq_true, beq_iff_eq] at hee
        obtain ⟨m, hm, h2, h3⟩ := hee
        rw [← h3]; exact hd _ (Array.getElem_mem hm) h2
      refine hst (fun k => b.getD k false) a w hbi hdep (fun k ok hk hw => ?_) hJ _ (fun a' w' hJ' => ?_)
      · cases hk2 : b.getD k false
        · rfl
        · rw [hcl k ok i hk hw hk2] at hbi; cases hbi
      · have hset : ∀ k, (b.setIfInBounds i true).getD k false = (k == i || b.getD k false) := by
          intro k
          simp only [Array.getD_eq_getD_getElem?, Array.getElem?_setIfInBounds]
          by_cases hki : i = k
          · subst hki; simp [hb, hil]
          · have hki' : ¬ k = i := fun e => hki e.symm
            rw [if_neg hki]; simp [hki']
        refine ih _ a' w' (by simpa using hb) ?_ (fun k ok e hk hw hk2 => ?_) ?_
        · have := count_set b.toList i (by simp [Array.getD, hb, hil] at hbi ⊢; exact hbi)
          rw [Array.toList_setIfInBounds]; omega
        · rw [hset] at hk2 ⊢
          simp only [Bool.or_eq_true, beq_iff_eq] at hk2 ⊢
          rcases hk2 with h | h
          · subst h
            rw [hno] at hk; cases hk
            exact .inr (hdep e hw)
          · exact .inr (hcl k ok e hk hw h)
        · have : (fun k => (b.setIfInBounds i true).getD k false) = (fun k => k == i || b.getD k false) := funext hset
          rw [this]; exact hJ'
theorem wp_region_J {id : Nat} {a : Act} {w : World} {l : List Oper} (J : (Nat → Bool) → Act → World → Prop) (hm : P.follows .mixedOrders = true)
    (hok : okAt l 0 = true) (h0 : J (fun _ => false) a w.drew) (hs : stepsJ P Q l J l 0)
    (he : ∀ L a w, (∀ k, k < l.length → L k = true) → J L a w → Q .normal a w) : (Code.region id l.toArray true).wp P Q a w := by
  refine wp_region_any hm ?_
  have hrep : ∀ n k : Nat, (Array.replicate n false).getD k false = false := fun n k => by simp [Array.getD_eq_getD_getElem?, Array.getElem?_replicate]; split <;> rfl
  refine parJ hok hs he _ _ a _ (by simp) (by simp) (fun k ok i _ _ h => ?_) ?_
  · rw [hrep] at h; cases h
  · have : (fun k => (Array.replicate l.toArray.size false).getD k false) = (fun _ : Nat => false) := funext fun k => hrep _ k
    rw [this]; exact h0
end
end Sedge
end
section
/-
  The facts that last, in a region whose acts come in no fixed order: boxes, rows of floats of our own, values.
-/
set_option linter.unusedSimpArgs false
set_option linter.unusedVariables false
namespace Sedge
open Go Go.RowKit
/-- What an operation leaves that lasts. -/
inductive Fc where
  | is (v : Value)
  | box (n : Nat)
  | row (sh : Value → Value) (ws : List Nat)
  | put (d c : Nat) (cs : Value → Array Value) (ws : List Nat)
  | any
def ownRow (W : World) (own : Nat → Nat) (w : World) (t g : Nat) (ws : List Nat) : Prop := own g = t ∧ W.heap.size ≤ g ∧ FW w g ws
def Fc.holds (W : World) (ρ : Nat → Value) (own : Nat → Nat) (w : World) (d : Nat) : Fc → Prop
  | .is v => ρ d = v
  | .box n => ∃ p c e, ρ d = .pointer (some ⟨p, 0, none⟩) ∧ own p = d ∧ W.heap.size ≤ p ∧ w.heap[p]? = some (.cells c e (0, 0)) ∧ c.size = n
  | .row sh ws => ∃ g cap, ρ d = sh (.slice (some ⟨g, 0, none⟩) ws.length cap) ∧ ownRow W own w d g ws
  | .put d' c cs ws => ∃ p g cap e, ρ d' = .pointer (some ⟨p, 0, none⟩) ∧ own p = d' ∧ W.heap.size ≤ p ∧ w.heap[p]? = some (.cells (cs (.slice (some ⟨g, 0, none⟩) ws.length cap)) e (0, 0)) ∧ ownRow W own w c g ws
  | .any => True
def slotsOf (d : Nat) : Fc → List Nat
  | .put d' _ _ _ => [d']
  | .any => []
  | _ => [d]
theorem ownRow.grew {W w w' : World} {own own' : Nat → Nat} {t g : Nat} {ws : List Nat} (h : ownRow W own w t g ws) (hg : Grew w w') (ho : ∀ b, b < w.heap.size → own' b = own b) : ownRow W own' w' t g ws :=
  ⟨by rw [ho g h.2.2.lt]; exact h.1, h.2.1, h.2.2.grew hg⟩
theorem some_lt {w : World} {p : Nat} {o : Obj} (h : w.heap[p]? = some o) : p < w.heap.size := (Array.getElem?_eq_some_iff.1 h).1
theorem Fc.grew {W w w' : World} {ρ ρ' : Nat → Value} {own own' : Nat → Nat} {d : Nat} {f : Fc} (h : f.holds W ρ own w d) (hg : Grew w w') (ho : ∀ b, b < w.heap.size → own' b = own b)
    (hr : ∀ s ∈ slotsOf d f, ρ' s = ρ s) : f.holds W ρ' own' w' d := by
  cases f with
  | is v => exact (hr d (by simp [slotsOf])).trans h
  | box n =>
    obtain ⟨p, c, e, h1, h2, h3, h4, h5⟩ := h
    exact ⟨p, c, e, (hr d (by simp [slotsOf])).trans h1, by rw [ho p (some_lt h4)]; exact h2, h3, by rw [hg.below.block p (some_lt h4)]; exact h4, h5⟩
  | row sh ws =>
    obtain ⟨g, cap, h1, h2⟩ := h
    exact ⟨g, cap, (hr d (by simp [slotsOf])).trans h1, h2.grew hg ho⟩
  | put d' c cs ws =>
    obtain ⟨p, g, cap, e, h1, h2, h3, h4, h5⟩ := h
    exact ⟨p, g, cap, e, (hr d' (by simp [slotsOf])).trans h1, by rw [ho p (some_lt h4)]; exact h2, h3, by rw [hg.below.block p (some_lt h4)]; exact h4, h5.grew hg ho⟩
  | any => trivial
def setR (ρ : Nat → Value) (d : Nat) (v : Value) : Nat → Value := fun k => bif k == d then v else ρ k
theorem setR_eq {ρ : Nat → Value} {d : Nat} {v : Value} : setR ρ d v d = v := by simp [setR]
theorem setR_ne {ρ : Nat → Value} {d k : Nat} {v : Value} (h : k ≠ d) : setR ρ d v k = ρ k := by
  have : (k == d) = false := by simpa using h
  simp [setR, this]
/-- The slots, the region's own among them open. -/
def mkA (base : Array Value) (ds : List Nat) (ρ : Nat → Value) : Array Value := ds.foldl (fun t d => t.setIfInBounds d (ρ d)) base
theorem mkA_get (ρ : Nat → Value) : ∀ (ds : List Nat) (base : Array Value) (k : Nat), (mkA base ds ρ)[k]? = if k ∈ ds ∧ k < base.size then some (ρ k) else base[k]?
  | [], base, k => by simp [mkA]
  | d :: ds, base, k => by
    show (mkA (base.setIfInBounds d (ρ d)) ds ρ)[k]? = _
    rw [mkA_get ρ ds]
    simp only [Array.size_setIfInBounds, List.mem_cons]
    by_cases h1 : k ∈ ds
    · simp only [h1, true_and, or_true]
      split
      · rfl
      · rename_i h; rw [Array.getElem?_eq_none (by simpa using h), Array.getElem?_eq_none (by simpa using h)]
    · simp only [h1, false_and, if_false, or_false]
      rw [Array.getElem?_setIfInBounds]
      by_cases h2 : d = k
      · subst h2; simp only [if_true, true_and]
        split
        · rfl
        · rename_i h; rw [Array.getElem?_eq_none (by simpa using h)]
      · have : ¬ k = d := fun e => h2 e.symm
        simp [h2, this]
theorem mkA_self (base : Array Value) (ds : List Nat) : mkA base ds (fun k => base.getD k undef) = base := by
  apply Array.ext_getElem?; intro k
  rw [mkA_get]
  split
  · rename_i h; simp [Array.getD_eq_getD_getElem?, Array.getElem?_eq_getElem h.2]
  · rfl
theorem mkA_set (base : Array Value) (ds : List Nat) (ρ : Nat → Value) {d : Nat} (v : Value) (hd : d ∈ ds) : mkA base ds (setR ρ d v) = (mkA base ds ρ).setIfInBounds d v := by
  apply Array.ext_getElem?; intro k
  have hs : (mkA base ds ρ).size = base.size := by
    have : ∀ (ds : List Nat) (base : Array Value), (mkA base ds ρ).size = base.size := by
      intro ds
      induction ds with
      | nil => intro base; rfl
      | cons d ds ih => intro base; show (mkA (base.setIfInBounds d (ρ d)) ds ρ).size = _; rw [ih]; simp
    exact this ds base
  rw [mkA_get, Array.getElem?_setIfInBounds, mkA_get, hs]
  by_cases h : d = k
  · subst h; simp only [hd, setR_eq, true_and, if_true]
    split
    · rfl
    · rename_i h; rw [Array.getElem?_eq_none (by simpa using h)]
  · have : k ≠ d := fun e => h e.symm
    simp [h, setR_ne this]
def dstAt (l : List Oper) (k : Nat) : Option Nat := (nth l k).bind (·.dst)
/-- No fact speaks of another's slot, but of one that it waits for; the slots are the region's. -/
def okS (l : List Oper) (sp : List Fc) (ds : List Nat) : Bool :=
  (List.range l.length).all fun i => match nth l i with
    | none => true
    | some oi => match oi.dst with
      | none => true
      | some d => ds.contains d && (List.range l.length).all fun k => i == k || match nth l k, nth sp k with
        | some ok, some f => !(slotsOf (ok.dst.getD 0) f).contains d || deps ok i
        | _, _ => true
def JJ (W : World) (l : List Oper) (sp : List Fc) (base : Array Value) (ds : List Nat) (df : List Deferred) (L : Nat → Bool) (a : Act) (w : World) : Prop :=
  ∃ ρ own, a = ⟨mkA base ds ρ, df⟩ ∧ Grew W w ∧ ∀ k o f, nth l k = some o → nth sp k = some f → L k = true → f.holds W ρ own w (o.dst.getD 0)
section
variable {W w w' : World} {l : List Oper} {sp : List Fc} {base : Array Value} {ds : List Nat} {df : List Deferred} {L : Nat → Bool} {ρ : Nat → Value} {own own' : Nat → Nat}
theorem nth_lt {α : Type} : ∀ (l : List α) (i : Nat) (x : α), nth l i = some x → i < l.length
  | [], _, _, h => by cases h
  | _ :: _, 0, _, _ => by simp
  | _ :: l, i + 1, x, h => by have := nth_lt l i x h; simp; omega
theorem okS_spec (h : okS l sp ds = true) {i k : Nat} {oi ok : Oper} {f : Fc} {d : Nat} (hi : nth l i = some oi) (hd : oi.dst = some d) :
    d ∈ ds ∧ (i ≠ k → nth l k = some ok → nth sp k = some f → d ∈ slotsOf (ok.dst.getD 0) f → deps ok i = true) := by
  unfold okS at h
  rw [List.all_eq_true] at h
  have h1 := h i (by simpa using nth_lt _ _ _ hi)
  rw [hi] at h1
  simp only [hd, Bool.and_eq_true, List.all_eq_true, List.contains_iff_mem] at h1
  refine ⟨h1.1, fun hik hk hf hs => ?_⟩
  have h2 := h1.2 k (by simpa using nth_lt _ _ _ hk)
  rw [hk, hf] at h2
  simp only [Bool.or_eq_true, beq_iff_eq, Bool.not_eq_true'] at h2
  rcases h2 with h2 | h2 | h2
  · exact absurd h2 hik
  · rw [Bool.eq_false_iff] at h2; exact absurd (by simpa using hs) h2
  · exact h2
/-- The next fact, in a world that grew. -/
theorem JJ.next (hc : okS l sp ds = true) {i d : Nat} {o : Oper} {f : Fc} {v : Value} (hi : nth l i = some o) (hf : nth sp i = some f) (hd : o.dst = some d) 
    (hno : ∀ k ok, nth l k = some ok → deps ok i = true → L k = false) (hW : Grew W w)
    (hF : ∀ k o f, nth l k = some o → nth sp k = some f → L k = true → f.holds W ρ own w (o.dst.getD 0)) (hg : Grew w w') (ho : ∀ b, b < w.heap.size → own' b = own b)
    (hn : f.holds W (setR ρ d v) own' w' d) {t : Array Value} (ht : t = (mkA base ds ρ).setIfInBounds d v) : JJ W l sp base ds df (fun k => k == i || L k) ⟨t, df⟩ w' := by
  subst ht
  have hm := (okS_spec (k := 0) (ok := o) (f := f) hc hi hd).1
  refine ⟨setR ρ d v, own', by rw [mkA_set _ _ _ _ hm], hW.trans hg, fun k ok fk hk hfk hL => ?_⟩
  by_cases hki : k = i
  · subst hki
    rw [hi] at hk; rw [hf] at hfk
    cases hk; cases hfk
    rw [hd]; exact hn
  · have hLk : L k = true := by simpa [hki] using hL
    refine Fc.grew (hF k ok fk hk hfk hLk) hg ho fun s hs => setR_ne fun e => ?_
    subst e
    have := (okS_spec (ok := ok) (f := fk) hc hi hd).2 (fun e => hki e.symm) hk hfk hs
    rw [hno k ok hk this] at hLk; cases hLk
/-- A value. -/
theorem JJ.is (hc : okS l sp ds = true) {i d : Nat} {o : Oper} {v : Value} (hi : nth l i = some o) (hf : nth sp i = some (.is v)) (hd : o.dst = some d)
    (hno : ∀ k ok, nth l k = some ok → deps ok i = true → L k = false) (hW : Grew W w)
    (hF : ∀ k o f, nth l k = some o → nth sp k = some f → L k = true → f.holds W ρ own w (o.dst.getD 0)) {t : Array Value} (ht : t = (mkA base ds ρ).setIfInBounds d v) :
    JJ W l sp base ds df (fun k => k == i || L k) ⟨t, df⟩ w :=
  JJ.next hc hi hf hd hno hW hF (Grew.refl w) (fun _ _ => rfl) setR_eq ht
/-- A call that hands back a row of its own. -/
theorem JJ.row (hc : okS l sp ds = true) {i d : Nat} {o : Oper} {sh : Value → Value} {ws : List Nat} {g cap : Nat} (hi : nth l i = some o) (hf : nth sp i = some (.row sh ws)) (hd : o.dst = some d)
    (hno : ∀ k ok, nth l k = some ok → deps ok i = true → L k = false) (hW : Grew W w)
    (hF : ∀ k o f, nth l k = some o → nth sp k = some f → L k = true → f.holds W ρ own w (o.dst.getD 0)) (hg : Grew w w') (h1 : w.heap.size ≤ g) (h2 : FW w' g ws)
    {t : Array Value} (ht : t = (mkA base ds ρ).setIfInBounds d (sh (.slice (some ⟨g, 0, none⟩) ws.length cap))) :
    JJ W l sp base ds df (fun k => k == i || L k) ⟨t, df⟩ w' := by
  refine JJ.next (own' := fun b => if b < w.heap.size then own b else d) hc hi hf hd hno hW hF hg (fun b hb => by simp [hb]) ⟨g, cap, setR_eq, ?_, Nat.le_trans hW.below.size h1, h2⟩ ht
  have : ¬ g < w.heap.size := by omega
  simp [this]
/-- A new box. -/
theorem JJ.box (hc : okS l sp ds = true) {i d n : Nat} {o : Oper} {c : Array Value} {e : TypeId} (hi : nth l i = some o) (hf : nth sp i = some (.box n)) (hd : o.dst = some d)
    (hno : ∀ k ok, nth l k = some ok → deps ok i = true → L k = false) (hW : Grew W w)
    (hF : ∀ k o f, nth l k = some o → nth sp k = some f → L k = true → f.holds W ρ own w (o.dst.getD 0)) (hn : c.size = n)
    {t : Array Value} (ht : t = (mkA base ds ρ).setIfInBounds d (.pointer (some ⟨w.heap.size, 0, none⟩))) :
    JJ W l sp base ds df (fun k => k == i || L k) ⟨t, df⟩ (w.alloc (.cells c e)) := by
  refine JJ.next (own' := fun b => if b < w.heap.size then own b else d) hc hi hf hd hno hW hF ((Grew.refl w).alloc _) (fun b hb => by simp [hb]) ⟨w.heap.size, c, e, setR_eq, by simp, hW.below.size, ?_, hn⟩ ht
  show (w.heap.push _)[w.heap.size]? = _
  simp
def putFc (ok : Oper) (d' : Nat) : Fc → Bool
  | .put d2 c2 _ _ => d2 != d' && c2 != d'
  | .row _ _ => ok.dst.getD 0 != d'
  | _ => true
def putOk (l : List Oper) (sp : List Fc) (i d' : Nat) : Bool :=
  (List.range l.length).all fun k => i == k || match nth l k, nth sp k with
    | some ok, some f => putFc ok d' f
    | _, _ => true
/-- The store into a box of what a call handed back. -/
theorem JJ.put {i d' c n : Nat} {o : Oper} {cs : Value → Array Value} {ws : List Nat} (hi : nth l i = some o) (hf : nth sp i = some (.put d' c cs ws)) (hd : o.dst = none)
    (hp : putOk l sp i d' = true) (hne : c ≠ d') (hW : Grew W w)
    (hF : ∀ k o f, nth l k = some o → nth sp k = some f → L k = true → f.holds W ρ own w (o.dst.getD 0)) (hn : ∀ s, (cs s).size = n) (hbn : ∀ k ok m, nth l k = some ok → nth sp k = some (.box m) → ok.dst.getD 0 = d' → m = n)
    {p g cap : Nat} {c0 : Array Value} {e : TypeId} (h1 : ρ d' = .pointer (some ⟨p, 0, none⟩)) (h2 : own p = d') (h3 : W.heap.size ≤ p) (h4 : w.heap[p]? = some (.cells c0 e (0, 0))) (h6 : ownRow W own w c g ws)
    {t : Array Value} (ht : t = mkA base ds ρ) :
    JJ W l sp base ds df (fun k => k == i || L k) ⟨t, df⟩ (upd w p (cs (.slice (some ⟨g, 0, none⟩) ws.length cap))) := by
  subst ht
  refine ⟨ρ, own, rfl, hW.upd h3 _, fun k ok fk hk hfk hL => ?_⟩
  by_cases hki : k = i
  · subst hki
    rw [hi] at hk; rw [hf] at hfk
    cases hk; cases hfk
    refine ⟨p, g, cap, e, h1, h2, h3, block_upd h4, h6.1, h6.2.1, h6.2.2.upd_ne (fun hgp => ?_) _⟩
    subst hgp; rw [h6.1] at h2; exact hne h2
  · have hLk : L k = true := by simpa [hki] using hL
    have h := hF k ok fk hk hfk hLk
    have hpk : putFc ok d' fk = true := by
      unfold putOk at hp
      rw [List.all_eq_true] at hp
      have := hp k (by simpa using nth_lt _ _ _ hk)
      rw [hk, hfk] at this
      simp only [Bool.or_eq_true, beq_iff_eq] at this
      rcases this with h' | h'
      · exact absurd h'.symm hki
      · exact h'
    cases fk with
    | is v => exact h
    | any => trivial
    | box m =>
      obtain ⟨q, c1, e1, a1, a2, a3, a4, a5⟩ := h
      by_cases hq : q = p
      · subst hq
        rw [h2] at a2
        exact ⟨q, _, e1, a1, by rw [h2]; exact a2, a3, block_upd a4, by rw [hn]; exact (hbn k ok m hk hfk a2.symm).symm⟩
      · exact ⟨q, c1, e1, a1, a2, a3, by rw [block_upd_ne hq]; exact a4, a5⟩
    | row sh1 ws1 =>
      obtain ⟨g1, cap1, a1, a2, a3, a4⟩ := h
      refine ⟨g1, cap1, a1, a2, a3, a4.upd_ne (fun e => ?_) _⟩
      subst e; rw [h2] at a2; simp only [putFc, bne_iff_ne] at hpk; exact hpk a2.symm
    | put d2 c2 cs2 ws2 =>
      obtain ⟨q, g1, cap1, e1, a1, a2, a3, a4, b1, b2, b3⟩ := h
      simp only [putFc, Bool.and_eq_true, bne_iff_ne] at hpk
      refine ⟨q, g1, cap1, e1, a1, a2, a3, ?_, b1, b2, b3.upd_ne (fun e => ?_) _⟩
      · rw [block_upd_ne (fun e => ?_)]; · exact a4
        subst e; rw [h2] at a2; exact hpk.1 a2.symm
      · subst e; rw [h2] at b1; exact hpk.2 b1.symm
theorem JJ.start {a : Act} (hW : Grew W w) : JJ W l sp a.tmps ds a.defers (fun _ => false) a w :=
  ⟨fun k => a.tmps.getD k undef, fun _ => 0, by rw [mkA_self], hW, fun _ _ _ _ _ h => by cases h⟩
end
/-- The store of a whole value into a box. -/
theorem wp_store_box {P : Program} {op : Oper} {a : Act} {w : World} {K : Act → World → Prop} {Q : Exit → Act → World → Prop} (ty : TypeId) (x y : Operand) (ho : op.op = .store ty x y)
    {p : Nat} {c cells : Array Value} {e : TypeId} (hx : a.eval x = .pointer (some ⟨p, 0, none⟩)) (hy : a.eval y = .agg cells) (hb : w.heap[p]? = some (.cells c e (0, 0)))
    (hc : c.size = cells.size) (hi : (P.info? ty).map (·.size) = some cells.size) (h1 : cells.all (·.oneCell') = true)
    (h : K (a.put op.dst undef) (upd w p cells)) : op.wp P a w K Q := by
  unfold Oper.wp execOp
  simp only [ho, hx, hy, Instr.storeAt, Instr.sureAddr, Sem.run_bind, Sem.run_pure, Result.andThen_ok, run_storeVar_row w p e ty c cells hb hi hc h1]
  exact h
/-- Where an operation begins: the facts of what it waits for, and all else that the end wants. -/
structure St (W : World) (l : List Oper) (sp : List Fc) (L : Nat → Bool) (ρ : Nat → Value) (own : Nat → Nat) (w : World) (i : Nat) (o : Oper) : Prop where
  at' : nth l i = some o
  grew : Grew W w
  no : ∀ k ok, nth l k = some ok → deps ok i = true → L k = false
  all : ∀ k o f, nth l k = some o → nth sp k = some f → L k = true → f.holds W ρ own w (o.dst.getD 0)
  dep : ∀ e, deps o e = true → L e = true
def stepsS (P : Program) (Q : Exit → Act → World → Prop) (W : World) (l : List Oper) (sp : List Fc) (base : Array Value) (ds : List Nat) (df : List Deferred) : List Oper → Nat → Prop
  | [], _ => True
  | o :: r, i => (∀ L ρ own w, St W l sp L ρ own w i o → ∀ K : Act → World → Prop, (∀ a' w', JJ W l sp base ds df (fun k => k == i || L k) a' w' → K a' w') → o.wp P ⟨mkA base ds ρ, df⟩ w K Q) ∧ stepsS P Q W l sp base ds df r (i + 1)
theorem stepsJ_of {P : Program} {Q : Exit → Act → World → Prop} {W : World} {l : List Oper} {sp : List Fc} {base : Array Value} {ds : List Nat} {df : List Deferred} : ∀ (r : List Oper) (i : Nat), (∀ k o, nth r k = some o → nth l (i + k) = some o) →
    stepsS P Q W l sp base ds df r i → stepsJ P Q l (JJ W l sp base ds df) r i
  | [], _, _, _ => trivial
  | o :: r, i, hn, h => by
    refine ⟨fun L a w hi hdep hno hJ K hK => ?_, stepsJ_of r (i + 1) (fun k ok hk => by have := hn (k + 1) ok hk; rwa [show i + 1 + k = i + (k + 1) from by omega]) h.2⟩
    obtain ⟨ρ, own, rfl, hG, hF⟩ := hJ
    exact h.1 L ρ own w ⟨hn 0 o rfl, hG, hno, hF, hdep⟩ K hK
theorem wp_region_JJ {P : Program} {Q : Exit → Act → World → Prop} {id : Nat} {a : Act} {w : World} {l : List Oper} (W : World) (sp : List Fc) (ds : List Nat) (hm : P.follows .mixedOrders = true)
    (hok : okAt l 0 = true) (hW : Grew W w) (hs : stepsS P Q W l sp a.tmps ds a.defers l 0)
    (he : ∀ ρ own w', Grew W w' → (∀ k o f, nth l k = some o → nth sp k = some f → f.holds W ρ own w' (o.dst.getD 0)) → Q .normal ⟨mkA a.tmps ds ρ, a.defers⟩ w') : (Code.region id l.toArray true).wp P Q a w := by
  refine wp_region_J (JJ W l sp a.tmps ds a.defers) hm hok (JJ.start hW.drew) (stepsJ_of l 0 (fun k o h => by rw [Nat.zero_add]; exact h) hs) (fun L a' w' hL hJ => ?_)
  obtain ⟨ρ, own, rfl, hG, hF⟩ := hJ
  exact he ρ own w' hG fun k o f h1 h2 => hF k o f h1 h2 (hL k (nth_lt _ _ _ h1))
section
variable {W w w' : World} {l : List Oper} {sp : List Fc} {base : Array Value} {ds : List Nat} {df : List Deferred} {L : Nat → Bool} {ρ : Nat → Value} {own : Nat → Nat} {i : Nat} {o : Oper}
theorem St.fact (h : St W l sp L ρ own w i o) (k : Nat) {ok : Oper} {f : Fc} (h1 : nth l k = some ok) (h2 : nth sp k = some f) (h3 : deps o k = true) : f.holds W ρ own w (ok.dst.getD 0) := h.all k ok f h1 h2 (h.dep k h3)
theorem St.is (h : St W l sp L ρ own w i o) {d : Nat} {v : Value} (hf : nth sp i = some (.is v)) (hd : o.dst = some d) (hc : okS l sp ds = true) {w' : World} (hg : Grew w w') {t : Array Value} (ht : t = (mkA base ds ρ).setIfInBounds d v) :
    JJ W l sp base ds df (fun k => k == i || L k) ⟨t, df⟩ w' := JJ.next hc h.at' hf hd h.no h.grew h.all hg (fun _ _ => rfl) setR_eq ht
theorem St.row (h : St W l sp L ρ own w i o) {d : Nat} {sh : Value → Value} {ws : List Nat} {g cap : Nat} (hf : nth sp i = some (.row sh ws)) (hd : o.dst = some d) (hc : okS l sp ds = true)
    (hg : Grew w w') (h1 : w.heap.size ≤ g) (h2 : FW w' g ws) {t : Array Value} (ht : t = (mkA base ds ρ).setIfInBounds d (sh (.slice (some ⟨g, 0, none⟩) ws.length cap))) :
    JJ W l sp base ds df (fun k => k == i || L k) ⟨t, df⟩ w' := JJ.row hc h.at' hf hd h.no h.grew h.all hg h1 h2 ht
theorem St.box (h : St W l sp L ρ own w i o) {d n : Nat} {c : Array Value} {e : TypeId} (hf : nth sp i = some (.box n)) (hd : o.dst = some d) (hc : okS l sp ds = true)
    (hn : c.size = n) {t : Array Value} (ht : t = (mkA base ds ρ).setIfInBounds d (.pointer (some ⟨w.heap.size, 0, none⟩))) :
    JJ W l sp base ds df (fun k => k == i || L k) ⟨t, df⟩ (w.alloc (.cells c e)) := JJ.box hc h.at' hf hd h.no h.grew h.all hn ht
/-- The store, done. -/
theorem St.put {P : Program} {K : Act → World → Prop} {Q : Exit → Act → World → Prop} (h : St W l sp L ρ own w i o) {d' c n kb kr : Nat} {cs : Value → Array Value} {ws : List Nat} {ob or' : Oper}
    (hf : nth sp i = some (.put d' c cs ws)) (hd : o.dst = none) (hp : putOk l sp i d' = true) (hne : c ≠ d') (hn : ∀ s, (cs s).size = n)
    (hb1 : nth l kb = some ob) (hb2 : nth sp kb = some (.box n)) (hb3 : deps o kb = true) (hb4 : ob.dst = some d')
    (hr1 : nth l kr = some or') (hr2 : nth sp kr = some (.row (fun s => .agg (cs s)) ws)) (hr3 : deps o kr = true) (hr4 : or'.dst = some c)
    (hbn : (List.range l.length).all (fun k => match nth l k, nth sp k with | some ok, some (.box m) => ok.dst.getD 0 != d' || m == n | _, _ => true) = true)
    {ty : TypeId} {x y : Operand} (ho : o.op = .store ty x y) (hx : (⟨mkA base ds ρ, df⟩ : Act).eval x = ρ d') (hy : (⟨mkA base ds ρ, df⟩ : Act).eval y = ρ c)
    (hi : (P.info? ty).map (·.size) = some n) (h1 : ∀ a l c, (cs (.slice a l c)).all (·.oneCell') = true)
    (hK : ∀ a' w', JJ W l sp base ds df (fun k => k == i || L k) a' w' → K a' w') : o.wp P ⟨mkA base ds ρ, df⟩ w K Q := by
  have hb := h.fact kb hb1 hb2 hb3
  have hr := h.fact kr hr1 hr2 hr3
  rw [hb4] at hb; rw [hr4] at hr
  obtain ⟨p, c0, e, b1, b2, b3, b4, b5⟩ := hb
  obtain ⟨g, cap, r1, r2⟩ := hr
  simp only [Option.getD_some] at b1 b2 r1 r2
  refine wp_store_box ty x y ho (p := p) (hx.trans b1) (hy.trans r1) b4 (by rw [b5, hn]) (by rw [hn]; exact hi) (h1 _ _ _) (hK _ _ ?_)
  rw [hd]
  refine JJ.put h.at' hf hd hp hne h.grew h.all hn (fun k ok m hk hs hm => ?_) b1 b2 b3 b4 r2 rfl
  rw [List.all_eq_true] at hbn
  have := hbn k (by simpa using nth_lt _ _ _ hk)
  rw [hk, hs] at this
  simp only [Bool.or_eq_true, bne_iff_ne, beq_iff_eq] at this
  exact this.resolve_left (fun h => h hm)
end
section
variable {P : Program} {Q : Exit → Act → World → Prop} {W : World} {l : List Oper} {sp : List Fc} {base : Array Value} {ds : List Nat} {df : List Deferred}
theorem stepsS_nil {i : Nat} : stepsS P Q W l sp base ds df [] i := trivial
theorem stepsS_cons {o : Oper} {r : List Oper} {i j : Nat} (hj : i + 1 = j)
    (h : ∀ L ρ own w, St W l sp L ρ own w i o → ∀ K : Act → World → Prop, (∀ a' w', JJ W l sp base ds df (fun k => k == i || L k) a' w' → K a' w') → o.wp P ⟨mkA base ds ρ, df⟩ w K Q)
    (hr : stepsS P Q W l sp base ds df r j) : stepsS P Q W l sp base ds df (o :: r) i := by subst hj; exact ⟨h, hr⟩
theorem mkA_nil {base : Array Value} {ρ : Nat → Value} : mkA base [] ρ = base := rfl
theorem mkA_cons {base : Array Value} {ρ : Nat → Value} {d : Nat} {ds : List Nat} : mkA base (d :: ds) ρ = mkA (base.setIfInBounds d (ρ d)) ds ρ := rfl
attribute [irreducible] stepsS JJ mkA
end
end Sedge
end
section
/-
  Slices of whole numbers that a call makes itself: appends, two slices beside one another.
-/
set_option linter.unusedSimpArgs false
set_option linter.unusedVariables false
namespace Sedge
open Go Go.RowKit
/-- Their own blocks are not one. -/
def ApartV (u v : Value) : Prop := ∀ k, u.ownBlock = some k → v.ownBlock ≠ some k
section
variable {P : Program} {ops : Array Oper} {rest : List Oper} {o : Oper} {a : Act} {Q : Exit → Act → World → Prop}
theorem append1_v {t e e' : TypeId} {z0 : Value} (und : P.underlying t = some (.slice e)) (info : (P.info? e).map (fun i => (i.zero, i.size, i.bytes)) = some (some z0, 1, 8)) (hz0 : z0.cells.size = 1)
    {W w : World} (hW : Grew W w) {v y : Value} {xs : List Value} (hown : w.ownsRow W.heap.size e 1 v xs.length xs) (hy : y.oneCell' = true)
    (hlen : xs.length < 17592186044415) (s x : Operand) (hg : o.guard = none)
    (ho : o.op = .call { callee := .builtin .append, args := #[s, x], argTypes := #[t, t] }) (hs : a.eval s = v) {k : Nat} (hk : k = w.heap.size) (hx : a.eval x = .slice (some ⟨k, 0, none⟩) 1 1)
    (h : ∀ v' oo nn, (ext W oo nn).ownsRow W.heap.size e 1 v' (xs.length + 1) (xs ++ [y]) →
      (∀ e2 u n2 ys, w.ownsRow W.heap.size e2 1 u n2 ys → ApartV u v → (ext W oo nn).ownsRow W.heap.size e2 1 u n2 ys ∧ ApartV u v') → wpList P ops Q rest (a.put o.dst v') (ext W oo nn)) :
    wpList P ops Q (o :: rest) a (w.alloc (.cells #[y] e')) := by
  subst hk
  obtain ⟨i0, hi, hz⟩ := Option.map_eq_some_iff.1 info
  simp only [Prod.mk.injEq] at hz
  obtain ⟨hz1, hz2, hz3⟩ := hz
  have hgA : Grew w (w.alloc (.cells #[y] e')) := (Grew.refl w).alloc _
  have keep : ∀ e2 u n2 ys (w' : World), w.ownsRow W.heap.size e2 1 u n2 ys → (∀ k, u.ownBlock = some k → w'.heap[k]? = w.heap[k]?) → w'.ownsRow W.heap.size e2 1 u n2 ys := fun e2 u n2 ys w' hu hk => by
    obtain ⟨h1, h2⟩ := hu
    refine ⟨h1, ?_⟩
    rcases h2 with h2 | ⟨g, cap, cur, rfl, hB, hh, r⟩
    · exact .inl h2
    · exact .inr ⟨g, cap, cur, rfl, hB, by rw [hk g rfl]; exact hh, r⟩
  have hown' := keep _ _ _ _ (w.alloc (.cells #[y] e')) hown (fun k hk => hgA.below.block k (hown.lt k hk).2)
  refine wpList_append_own_at _ hg s x t ho W.heap.size e i0 z0 1 8 und hi hz1 hz2 hz3 hz0 (by decide) v xs.length xs hs hown' ⟨w.heap.size, 0, none⟩ 1 1 [y] hx rfl ?_ ?_ ?_ ?_ ?_ ?_
  · intro j u hj
    match j, hj with
    | 0, hj =>
      simp at hj; subst hj
      have e1 : (⟨w.heap.size, 0, none⟩ : Addr).add 0 = ⟨w.heap.size, 0, none⟩ := by simp [Addr.add]
      rw [e1, World.cell?_alloc_new]; rfl
  · intro u hu; simp at hu; subst hu; exact hy
  · simp [maxLen]; omega
  · omega
  · have := hW.below.size; simp; omega
  · intro v' w' ho2 hgr hnn hloc
    obtain ⟨oo, nn, rfl⟩ := grew_grown (hW.alloc (.cells #[y] e')) hgr (fun k hk => (hown.lt k hk).1)
    refine h v' oo nn ho2 fun e2 u n2 ys hu hap => ⟨keep _ _ _ _ _ hu fun k hk => ?_, fun k hk => ?_⟩
    · have hlt := (hu.lt k hk).2
      exact (hgr.block k (Nat.lt_of_lt_of_le hlt hgA.below.size) (fun e => hap k hk e.symm)).trans (hgA.below.block k hlt)
    · have hlt := (hu.lt k hk).2
      rcases hloc with h1 | h1
      · rw [h1]; exact hap k hk
      · rw [h1]; intro e; simp at e; omega
end
/-- The slice v of ours owns the whole numbers zs. -/
def OwnI (w : World) (B : Nat) (v : Value) (zs : List Int) : Prop := w.ownsRow B 3 1 v zs.length (zs.map (Value.int .i64))
theorem OwnI.nil (w : World) (B : Nat) : OwnI w B (.slice none 0 0) [] := ⟨by simp, .inl ⟨rfl, rfl⟩⟩
theorem OwnI.grew {w w' : World} {B : Nat} {v : Value} {zs : List Int} (h : OwnI w B v zs) (g : Grew w w') : OwnI w' B v zs := by
  obtain ⟨h0, h1⟩ := h
  refine ⟨h0, ?_⟩
  rcases h1 with h1 | ⟨gg, cap, cur, hv, hB, hh, r⟩
  · exact .inl h1
  · have hlt : gg < w.heap.size := by
      rcases Nat.lt_or_ge gg w.heap.size with h | h
      · exact h
      · rw [Array.getElem?_eq_none h] at hh; cases hh
    exact .inr ⟨gg, cap, cur, hv, hB, by rw [g.below.block gg hlt]; exact hh, r⟩
theorem OwnI.is {w : World} {B : Nat} {v : Value} {zs : List Int} (h : OwnI w B v zs) (hl : zs.length ≤ 9223372036854775807) : IS .i64 w v zs := by
  obtain ⟨_, h1⟩ := h
  rcases h1 with ⟨rfl, h1⟩ | ⟨g, cap, cur, rfl, _, hh, hn, hm, hsz, ht⟩
  · have : zs = [] := List.length_eq_zero_iff.1 h1
    subst this
    exact ⟨by simp, none, 0, rfl, fun i hi => by simp at hi⟩
  · refine ⟨hl, some ⟨g, 0, none⟩, cap, rfl, fun i hi => ⟨g, 0, rfl, ?_⟩⟩
    rw [Nat.mul_one] at ht
    have := take_getElem? (i := i) ht (by simpa using hi)
    simp only [World.cell?, hh, Nat.zero_add, Option.isSome_none, Bool.false_eq_true, if_false]
    rw [← Array.getElem?_toList, this]
    simp [List.getD_eq_getElem?_getD, hi]
end Sedge
end
section
/-
  Plain laws on the reference's digits: lists of 16 bits, what they are worth.
-/
set_option linter.unusedSimpArgs false
set_option linter.unusedVariables false
namespace Sedge
open Ieee

def dv : List Nat → Nat
  | [] => 0
  | d :: l => d + 65536 * dv l
theorem dv_append : ∀ (a b : List Nat), dv (a ++ b) = dv a + 65536 ^ a.length * dv b
  | [], b => by simp [dv]
  | d :: a, b => by
    show d + 65536 * dv (a ++ b) = d + 65536 * dv a + 65536 ^ (a.length + 1) * dv b
    rw [dv_append a b, Nat.pow_succ, Nat.mul_add, Nat.mul_comm (65536 ^ a.length) 65536, Nat.mul_assoc]; omega
def Dg (l : List Nat) : Prop := ∀ d ∈ l, d < 65536
theorem Dg.nil : Dg [] := fun d h => by cases h
theorem Dg.tail {d : Nat} {l : List Nat} (h : Dg (d :: l)) : Dg l := fun x hx => h x (List.mem_cons_of_mem _ hx)
theorem Dg.append {a b : List Nat} (h : Dg a) (k : Dg b) : Dg (a ++ b) := fun x hx => by
  rcases List.mem_append.1 hx with hx | hx
  · exact h x hx
  · exact k x hx
theorem Dg.one {d : Nat} (h : d < 65536) : Dg [d] := fun x hx => by simp at hx; omega
theorem Dg.get {l : List Nat} (h : Dg l) (i : Nat) : l.getD i 0 < 65536 := by
  rw [List.getD_eq_getElem?_getD]
  by_cases hi : i < l.length
  · rw [List.getElem?_eq_getElem hi]; exact h _ (List.getElem_mem hi)
  · rw [List.getElem?_eq_none (by omega)]; decide
theorem Dg.set {l : List Nat} (h : Dg l) (i : Nat) {x : Nat} (hx : x < 65536) : Dg (l.set i x) := fun d hd => by
  rcases List.mem_or_eq_of_mem_set hd with hd | hd
  · exact h d hd
  · omega
theorem Dg.replicate (n : Nat) : Dg (List.replicate n 0) := fun d hd => by rw [List.eq_of_mem_replicate hd]; decide
theorem Dg.dropLast {l : List Nat} (h : Dg l) : Dg l.dropLast := fun d hd => h d (List.dropLast_subset l hd)
theorem dv_lt : ∀ {l : List Nat}, Dg l → dv l < 65536 ^ l.length
  | [], _ => by simp [dv]
  | d :: l, h => by
    have h1 := dv_lt h.tail
    have h2 := h d (List.mem_cons_self ..)
    show d + 65536 * dv l < 65536 ^ (l.length + 1)
    rw [Nat.pow_succ]; omega
theorem dv_replicate : ∀ n, dv (List.replicate n 0) = 0
  | 0 => rfl
  | n + 1 => by show 0 + 65536 * dv (List.replicate n 0) = 0; rw [dv_replicate n]
theorem dv_set : ∀ {l : List Nat} {i : Nat}, i < l.length → ∀ x, dv (l.set i x) + l.getD i 0 * 65536 ^ i = dv l + x * 65536 ^ i
  | [], i, h, x => by simp at h
  | d :: l, 0, h, x => by simp [dv]; omega
  | d :: l, i + 1, h, x => by
    have := dv_set (l := l) (i := i) (by simpa using h) x
    show d + 65536 * dv (l.set i x) + l.getD i 0 * 65536 ^ (i + 1) = d + 65536 * dv l + x * 65536 ^ (i + 1)
    rw [Nat.pow_succ, ← Nat.mul_assoc, ← Nat.mul_assoc]; omega
theorem dv_get_le : ∀ (l : List Nat) (i : Nat), l.getD i 0 * 65536 ^ i ≤ dv l
  | [], i => by simp
  | d :: l, 0 => by simp [dv]
  | d :: l, i + 1 => by
    have := dv_get_le l i
    show l.getD i 0 * 65536 ^ (i + 1) ≤ d + 65536 * dv l
    rw [Nat.pow_succ, ← Nat.mul_assoc]; omega
theorem dv_pos {l : List Nat} (h : l ≠ []) (hl : l.getLast h ≠ 0) : dv l ≠ 0 := by
  intro h0
  have h1 := dv_get_le l (l.length - 1)
  rw [h0] at h1
  have hlen : 0 < l.length := List.length_pos_iff.2 h
  have e : l.getD (l.length - 1) 0 = l.getLast h := by
    rw [List.getLast_eq_getElem, List.getD_eq_getElem?_getD, List.getElem?_eq_getElem (by omega)]; rfl
  rw [e] at h1
  have : 0 < 65536 ^ (l.length - 1) := Nat.pow_pos (by decide)
  have h2 : 0 < l.getLast h * 65536 ^ (l.length - 1) := Nat.mul_pos (by omega) this
  omega
theorem dv_nil_or {l : List Nat} (h : ∀ h : l ≠ [], l.getLast h ≠ 0) (h0 : dv l = 0) : l = [] := Decidable.byContradiction fun hn => dv_pos hn (h hn) h0
theorem dv_dropLast {l : List Nat} (h : l ≠ []) (hl : l.getLast h = 0) : dv l.dropLast = dv l := by
  have := dv_append l.dropLast [l.getLast h]
  rw [List.dropLast_concat_getLast] at this
  rw [this, hl]; simp [dv]

/-- The sum of so many digits. -/
def ds (f : Nat → Nat) : Nat → Nat
  | 0 => 0
  | k + 1 => ds f k + f k * 65536 ^ k
theorem ds_congr {f g : Nat → Nat} : ∀ {n : Nat}, (∀ k, k < n → f k = g k) → ds f n = ds g n
  | 0, _ => rfl
  | n + 1, h => by
    unfold ds
    rw [ds_congr (fun k hk => h k (by omega)), h n (by omega)]
theorem ds_lt {f : Nat → Nat} (h : ∀ k, f k < 65536) : ∀ n, ds f n < 65536 ^ n
  | 0 => by simp [ds]
  | n + 1 => by
    have h1 := ds_lt h n
    have h2 := h n
    unfold ds
    rw [Nat.pow_succ]
    have : f n * 65536 ^ n ≤ 65535 * 65536 ^ n := Nat.mul_le_mul_right _ (by omega)
    omega
theorem ds_succ' (f : Nat → Nat) : ∀ n, ds f (n + 1) = f 0 + 65536 * ds (fun k => f (k + 1)) n
  | 0 => by simp [ds]
  | n + 1 => by
    have := ds_succ' f n
    show ds f (n + 1) + f (n + 1) * 65536 ^ (n + 1) = f 0 + 65536 * (ds (fun k => f (k + 1)) n + f (n + 1) * 65536 ^ n)
    rw [this, Nat.pow_succ, Nat.mul_add, Nat.mul_left_comm 65536, Nat.mul_comm 65536 (65536 ^ n)]
    omega
theorem ds_list : ∀ (l : List Nat), ds (fun k => l.getD k 0) l.length = dv l
  | [] => rfl
  | d :: l => by
    show ds _ (l.length + 1) = _
    rw [ds_succ']
    have := ds_list l
    show d + 65536 * ds (fun k => l.getD k 0) l.length = _
    rw [this]; rfl
theorem ds_zero {f : Nat → Nat} {n : Nat} (h : ∀ k, k < n → f k = 0) : ds f n = 0 := by
  rw [ds_congr h]
  clear h
  induction n with
  | zero => rfl
  | succ n ih => unfold ds; rw [ih]; simp
theorem ds_add (f : Nat → Nat) (a : Nat) : ∀ b, ds f (a + b) = ds f a + 65536 ^ a * ds (fun k => f (a + k)) b
  | 0 => by simp [ds]
  | b + 1 => by
    show ds f (a + b) + f (a + b) * 65536 ^ (a + b) = ds f a + 65536 ^ a * (ds (fun k => f (a + k)) b + f (a + b) * 65536 ^ b)
    rw [ds_add f a b, Nat.mul_add, Nat.pow_add, Nat.mul_left_comm]; omega
/-- The digit of a place. -/
def digAt (l : List Nat) (E p : Int) : Nat := if p < E ∨ E + l.length ≤ p then 0 else l.getD (p - E).toNat 0
theorem digAt_lt {l : List Nat} (h : Dg l) (E p : Int) : digAt l E p < 65536 := by
  unfold digAt; split
  · decide
  · exact h.get _
theorem ds_digAt {l : List Nat} {E F : Int} {n : Nat} (h1 : F ≤ E) (h2 : E + l.length ≤ F + n) : ds (fun k => digAt l E (F + k)) n = 65536 ^ (E - F).toNat * dv l := by
  obtain ⟨a, ha⟩ : ∃ a : Nat, a = (E - F).toNat := ⟨_, rfl⟩
  obtain ⟨c, hc⟩ : ∃ c : Nat, c = n - a - l.length := ⟨_, rfl⟩
  have en : n = a + (l.length + c) := by omega
  rw [en, ds_add, ds_add, ← ha]
  rw [ds_zero (f := fun k => digAt l E (F + k)) (n := a) (fun k hk => by unfold digAt; rw [if_pos (by omega)])]
  rw [ds_zero (n := c) (fun k hk => by show digAt l E (F + _) = 0; unfold digAt; rw [if_pos (by omega)])]
  rw [ds_congr (g := fun k => l.getD k 0) (n := l.length) (fun k hk => by
    show digAt l E (F + ((a + k : Nat) : Int)) = _
    unfold digAt; rw [if_neg (by omega)]; congr 1; omega)]
  rw [ds_list]; simp
theorem ds_digAt_nil {E F : Int} {n : Nat} : ds (fun k => digAt [] E (F + k)) n = 0 := ds_zero fun k _ => by
  unfold digAt; split <;> simp
theorem p2_pow16 (n : Nat) : ((65536 ^ n : Nat) : Rat) = p2 (16 * n) := by
  have : (65536 : Nat) ^ n = 2 ^ (16 * n) := by rw [Nat.pow_mul]
  rw [this, ← p2_nat]; congr 1
/-- What is worth the digits of places from F on. -/
theorem ds_worth {l : List Nat} {E F : Int} {n : Nat} (h : l = [] ∨ F ≤ E ∧ E + l.length ≤ F + n) : (ds (fun k => digAt l E (F + k)) n : Rat) * p2 (16 * F) = (dv l : Rat) * p2 (16 * E) := by
  rcases h with rfl | ⟨h1, h2⟩
  · rw [ds_digAt_nil]; simp [dv]
  · rw [ds_digAt h1 h2, Rat.natCast_mul, p2_pow16]
    have : p2 (16 * E) = p2 (16 * ((E - F).toNat : Nat)) * p2 (16 * F) := by rw [← p2_add]; congr 1; omega
    rw [this]; grind
/-- The highest digit that differs decides. -/
theorem ds_less {f g : Nat → Nat} (hf : ∀ k, f k < 65536) {p n : Nat} (hp : p < n) (h : f p < g p) (he : ∀ k, p < k → k < n → f k = g k) : ds f n < ds g n := by
  obtain ⟨c, rfl⟩ : ∃ c, n = p + 1 + c := ⟨n - (p + 1), by omega⟩
  rw [ds_add f (p + 1) c, ds_add g (p + 1) c, ds_congr (f := fun k => f (p + 1 + k)) (g := fun k => g (p + 1 + k)) (fun k hk => he _ (by omega) (by omega))]
  refine Nat.add_lt_add_right ?_ _
  unfold ds
  have h1 := ds_lt hf p
  have h2 : (f p + 1) * 65536 ^ p ≤ g p * 65536 ^ p := Nat.mul_le_mul_right _ h
  rw [Nat.add_mul] at h2
  omega
/-- One step of a product's row. -/
theorem mul_step {l : List Nat} {i c a b : Nat} (hi : i < l.length) :
    dv (l.set i ((c + a * b + l.getD i 0) % 65536)) + (c + a * b + l.getD i 0) / 65536 * 65536 ^ (i + 1) = dv l + c * 65536 ^ i + a * b * 65536 ^ i := by
  have h1 := dv_set hi ((c + a * b + l.getD i 0) % 65536)
  have h2 := Nat.div_add_mod (c + a * b + l.getD i 0) 65536
  generalize (c + a * b + l.getD i 0) / 65536 = q at *
  generalize (c + a * b + l.getD i 0) % 65536 = m at *
  rw [Nat.pow_succ]
  generalize 65536 ^ i = P at *
  have h3 : (65536 * q + m) * P = (c + a * b + l.getD i 0) * P := by rw [h2]
  rw [Nat.add_mul, Nat.add_mul, Nat.add_mul, Nat.mul_assoc] at h3
  rw [Nat.mul_comm P 65536, Nat.mul_left_comm q]
  omega
theorem mul_carry {c a b d : Nat} (hc : c < 65536) (ha : a < 65536) (hb : b < 65536) (hd : d < 65536) : c + a * b + d < 4294967296 ∧ (c + a * b + d) / 65536 < 65536 := by
  have : a * b ≤ 65535 * 65535 := Nat.mul_le_mul (by omega) (by omega)
  omega
/-- One step of a shift. -/
theorem shift_step {l : List Nat} {i d r : Nat} (hi : i + 1 < l.length) (hl : Dg l) (hd : d < 65536) (hr : r < 16) (h0 : l.getD i 0 < 2 ^ r) (hz : ∀ k, i < k → l.getD k 0 = 0) :
    dv ((l.set i (l.getD i 0 + d * 2 ^ r % 65536)).set (i + 1) (d * 2 ^ r / 65536)) = dv l + d * 2 ^ r * 65536 ^ i ∧ Dg ((l.set i (l.getD i 0 + d * 2 ^ r % 65536)).set (i + 1) (d * 2 ^ r / 65536)) ∧
    ((l.set i (l.getD i 0 + d * 2 ^ r % 65536)).set (i + 1) (d * 2 ^ r / 65536)).getD (i + 1) 0 < 2 ^ r ∧ ∀ k, i + 1 < k → ((l.set i (l.getD i 0 + d * 2 ^ r % 65536)).set (i + 1) (d * 2 ^ r / 65536)).getD k 0 = 0 := by
  have e : 2 ^ r * 2 ^ (16 - r) = 65536 := by rw [← Nat.pow_add, show r + (16 - r) = 16 by omega]
  have hg : 0 < 2 ^ r := Nat.two_pow_pos r
  have hh : 0 < 2 ^ (16 - r) := Nat.two_pow_pos _
  have hm : l.getD i 0 + d * 2 ^ r % 65536 < 65536 := by
    have h1 : d * 2 ^ r % 65536 = 2 ^ r * (d % 2 ^ (16 - r)) := by rw [← e, Nat.mul_comm d, Nat.mul_mod_mul_left]
    have h2 := Nat.mod_lt d hh
    have h3 : 2 ^ r * (d % 2 ^ (16 - r) + 1) ≤ 2 ^ r * 2 ^ (16 - r) := Nat.mul_le_mul_left _ h2
    rw [Nat.mul_add, e] at h3
    omega
  have hq : d * 2 ^ r / 65536 < 2 ^ r := by
    rw [Nat.div_lt_iff_lt_mul (by decide), Nat.mul_comm]
    exact Nat.mul_lt_mul_of_pos_left hd hg
  have hr2 : 2 ^ r ≤ 32768 := by
    have := Nat.pow_le_pow_right (n := 2) (by decide) (show r ≤ 15 by omega)
    omega
  refine ⟨?_, (hl.set _ hm).set _ (by omega), ?_, ?_⟩
  · have s1 := dv_set (l := l) (i := i) (by omega) (l.getD i 0 + d * 2 ^ r % 65536)
    have s2 := dv_set (l := l.set i (l.getD i 0 + d * 2 ^ r % 65536)) (i := i + 1) (by simpa using hi) (d * 2 ^ r / 65536)
    have e2 : (l.set i (l.getD i 0 + d * 2 ^ r % 65536)).getD (i + 1) 0 = 0 := by
      rw [List.getD_eq_getElem?_getD, List.getElem?_set_ne (by omega), ← List.getD_eq_getElem?_getD]
      exact hz _ (by omega)
    rw [e2] at s2
    have hdm := Nat.div_add_mod (d * 2 ^ r) 65536
    generalize d * 2 ^ r / 65536 = q at *
    generalize d * 2 ^ r % 65536 = m at *
    generalize d * 2 ^ r = T at *
    rw [Nat.pow_succ] at s2
    subst hdm
    rw [Nat.add_mul, Nat.mul_assoc, Nat.mul_left_comm]
    rw [Nat.add_mul] at s1
    rw [Nat.mul_comm (65536 ^ i) 65536, Nat.mul_left_comm q] at s2
    rw [Nat.mul_left_comm q] 
    omega
  · rw [List.getD_eq_getElem?_getD, List.getElem?_set, if_pos rfl, if_pos (by simpa using hi)]
    exact hq
  · intro k hk
    rw [List.getD_eq_getElem?_getD, List.getElem?_set_ne (by omega), List.getElem?_set_ne (by omega), ← List.getD_eq_getElem?_getD]
    exact hz _ (by omega)
end Sedge
end
section
/-
  Slices of digits: how they read; blocks of them that may be written; appends, make.
-/
set_option linter.unusedSimpArgs false
set_option linter.unusedVariables false
namespace Sedge
open Go Go.RowKit

theorem Grew.same_o {X : World} {o : Array Obj} {n n' : Nat} : Grew (Sedge.ext X o n) (Sedge.ext X o n') := ⟨#[], n', by simp⟩
theorem Grew.app_o {X : World} {o o' : Array Obj} {n n' : Nat} : Grew (Sedge.ext X o n) (Sedge.ext X (o ++ o') n') := ⟨o', n', by simp⟩
/-- The slice v reads, in w, as the digits l. -/
def NS (w : World) (v : Value) (l : List Nat) : Prop :=
  ∃ a cap, v = .slice a l.length cap ∧ l.length ≤ cap ∧ ∀ i, i < l.length → ∃ blk o, a = some ⟨blk, o, none⟩ ∧ w.cell? ⟨blk, o + i, none⟩ = some (.int .i64 (l.getD i 0 : Nat))
theorem NS.shape {w : World} {v : Value} {l : List Nat} (h : NS w v l) : ∃ a cap, v = .slice a l.length cap := by
  obtain ⟨a, cap, rfl, _⟩ := h; exact ⟨a, cap, rfl⟩
theorem NS.at {w : World} {a : Option Addr} {n cap : Nat} {l : List Nat} (h : NS w (.slice a n cap) l) : n = l.length ∧ n ≤ cap ∧ (0 < l.length → ∃ blk o, a = some ⟨blk, o, none⟩ ∧ blk < w.heap.size ∧
      ∀ i, i < l.length → w.cell? ⟨blk, o + i, none⟩ = some (.int .i64 (l.getD i 0 : Nat))) := by
  obtain ⟨a', cap', e, h0, hc⟩ := h
  cases e
  refine ⟨rfl, h0, fun hn => ?_⟩
  obtain ⟨blk, o, rfl, h1⟩ := hc 0 hn
  refine ⟨blk, o, rfl, World.block_lt_of_cell? w _ h1, fun i hi => ?_⟩
  obtain ⟨blk', o', he, h1'⟩ := hc i hi
  cases he
  exact h1'
theorem NS.open {w : World} {v : Value} {l : List Nat} (h : NS w v l) (hn : 0 < l.length) :
    ∃ blk o cap, v = .slice (some ⟨blk, o, none⟩) l.length cap ∧ blk < w.heap.size ∧ l.length ≤ cap ∧
      ∀ i, i < l.length → w.cell? ⟨blk, o + i, none⟩ = some (.int .i64 (l.getD i 0 : Nat)) := by
  obtain ⟨a, cap, rfl⟩ := h.shape
  obtain ⟨blk, o, rfl, h1, h2⟩ := h.at.2.2 hn
  exact ⟨blk, o, cap, rfl, h1, h.at.2.1, h2⟩
theorem NS.same {w w' : World} {v : Value} {l : List Nat} (h : NS w v l) (hs : ∀ a : Addr, a.block < w.heap.size → w'.cell? a = w.cell? a) : NS w' v l := by
  obtain ⟨a, cap, hv, h0, hc⟩ := h
  refine ⟨a, cap, hv, h0, fun i hi => ?_⟩
  obtain ⟨blk, o, he, h1⟩ := hc i hi
  exact ⟨blk, o, he, by rw [hs _ (World.block_lt_of_cell? w _ h1)]; exact h1⟩
theorem NS.below {w w' : World} {v : Value} {l : List Nat} (h : NS w v l) (hb : Below w.heap.size w w') : NS w' v l := h.same fun _ ha => hb.cell ha
theorem NS.grew {w w' : World} {v : Value} {l : List Nat} (h : NS w v l) (g : Grew w w') : NS w' v l := h.below g.below
theorem NS.ext {w : World} {v : Value} {l : List Nat} (h : NS w v l) (o : Array Obj) (n : Nat) : NS (ext w o n) v l := h.grew ⟨_, _, rfl⟩
theorem NS.alloc {w : World} {v : Value} {l : List Nat} (h : NS w v l) (o : Obj) : NS (w.alloc o) v l := h.grew ((Grew.refl _).alloc o)
theorem NS.nil (w : World) : NS w (.slice none 0 0) [] := ⟨none, 0, rfl, Nat.le_refl _, fun i hi => by simp at hi⟩
/-- Without the first. -/
theorem NS.tail {w : World} {blk o n cap d : Nat} {l : List Nat} (h : NS w (.slice (some ⟨blk, o, none⟩) n cap) (d :: l)) : NS w (.slice (some ⟨blk, o + 1, none⟩) (n - 1) (cap - 1)) l := by
  obtain ⟨a, c, e, h0, hc⟩ := h
  cases e
  refine ⟨_, _, rfl, by simp at h0; omega, fun i hi => ?_⟩
  obtain ⟨blk', o', he, h1⟩ := hc (i + 1) (by simp; omega)
  cases he
  exact ⟨blk, o + 1, rfl, by rw [show o + 1 + i = o + (i + 1) by omega]; exact h1⟩
theorem NS.tail' {w : World} {blk o n cap d : Nat} {l : List Nat} (h : NS w (.slice (some ⟨blk, o, none⟩) n cap) (d :: l)) : NS w (.slice (if cap = 1 then some ⟨blk, o, none⟩ else some ⟨blk, o + 1, none⟩) l.length (cap - 1)) l := by
  have hn := h.at.1
  have hc := h.at.2.1
  have e : n - 1 = l.length := by rw [hn]; simp
  have h1 := h.tail
  rw [e] at h1
  simp at hn
  by_cases h0 : cap = 1
  · rw [if_pos h0]
    have : l = [] := List.length_eq_zero_iff.1 (by omega)
    subst this
    exact ⟨_, _, rfl, Nat.zero_le _, fun i hi => by simp at hi⟩
  · rw [if_neg h0]; exact h1
theorem NS.dropLast {w : World} {a : Option Addr} {n cap : Nat} {l : List Nat} (h : NS w (.slice a n cap) l) : NS w (.slice a (n - 1) cap) l.dropLast := by
  obtain ⟨a', c, e, h0, hc⟩ := h
  cases e
  refine ⟨a, cap, by simp, by simp; omega, fun i hi => ?_⟩
  have hi' : i < l.length - 1 := by simpa using hi
  obtain ⟨blk', o', he, h1⟩ := hc i (by omega)
  refine ⟨blk', o', he, ?_⟩
  rw [h1]
  congr 2
  rw [List.getD_eq_getElem?_getD, List.getD_eq_getElem?_getD, List.getElem?_dropLast, if_pos hi']

/-- The cells of digits. -/
def ia (l : List Nat) : Array Value := (l.map fun d : Nat => Value.int .i64 d).toArray
@[simp] theorem ia_size (l : List Nat) : (ia l).size = l.length := by simp [ia]
theorem ia_get (l : List Nat) {i : Nat} (h : i < l.length) : (ia l)[i]? = some (.int .i64 (l.getD i 0 : Nat)) := by
  simp [ia, List.getD_eq_getElem?_getD, h]
theorem ia_set (l : List Nat) (i d : Nat) : (ia l).setIfInBounds i (.int .i64 (d : Nat)) = ia (l.set i d) := by
  unfold ia; rw [List.setIfInBounds_toArray, List.map_set]
/-- Block b holds the digits l and no more; it may be written. -/
def IB (w : World) (b : Nat) (l : List Nat) : Prop := ∃ e, w.heap[b]? = some (.cells (ia l) e (0, 0))
section
variable {w : World} {b : Nat} {l : List Nat}
theorem IB.lt (h : IB w b l) : b < w.heap.size := by
  obtain ⟨e, h1⟩ := h
  exact (Array.getElem?_eq_some_iff.1 h1).1
theorem IB.notFrozen (h : IB w b l) (i : Nat) : w.frozen? ⟨b, i, none⟩ = false := by
  obtain ⟨e, h1⟩ := h
  unfold World.frozen?
  simp only [h1]
  simp
theorem IB.self (h : IB w b l) : upd w b (ia l) = w := by
  obtain ⟨e, h1⟩ := h
  unfold upd
  cases w with | mk hp tp dr os' out => ?_
  simp only [World.mk.injEq, true_and, and_true] at *
  apply Array.ext_getElem?
  intro i
  rw [Array.getElem?_modify]
  split
  · rename_i he; subst he; rw [h1]; rfl
  · rfl
theorem IB.cells (h : IB w b l) (cs : Array Value) (i : Nat) : (upd w b cs).cell? ⟨b, i, none⟩ = cs[i]? := by
  obtain ⟨e, h1⟩ := h
  unfold World.cell?
  simp only [block_upd h1]
  simp
theorem IB.get (h : IB w b l) {l' : List Nat} {i : Nat} (hi : i < l'.length) : (upd w b (ia l')).cell? ⟨b, i, none⟩ = some (.int .i64 (l'.getD i 0 : Nat)) := by rw [h.cells, ia_get _ hi]
theorem IB.mk' (h : IB w b l) (l' : List Nat) (o : Array Obj) (n : Nat) : IB (Sedge.ext (upd w b (ia l')) o n) b l' := by
  have hlt := h.lt
  obtain ⟨e, h1⟩ := h
  exact ⟨e, by rw [block_ext (by simpa using hlt), block_upd h1]⟩
theorem IB.ns (h : IB w b l) {cap : Nat} (hc : l.length ≤ cap) : NS w (.slice (some ⟨b, 0, none⟩) l.length cap) l := by
  obtain ⟨e, h1⟩ := h
  refine ⟨_, cap, rfl, hc, fun i hi => ⟨b, 0, rfl, ?_⟩⟩
  unfold World.cell?
  simp only [h1, Nat.zero_add]
  simpa using ia_get l hi
theorem IB.same {w' : World} (h : IB w b l) (hs : w'.heap[b]? = w.heap[b]?) : IB w' b l := by
  obtain ⟨e, h1⟩ := h
  exact ⟨e, hs.trans h1⟩
theorem IB.grew {w' : World} (h : IB w b l) (g : Grew w w') : IB w' b l := h.same (g.below.block b h.lt)
theorem IB.ext (h : IB w b l) (o : Array Obj) (n : Nat) : IB (Sedge.ext w o n) b l := h.grew ⟨_, _, rfl⟩
end
theorem NS.upd_ne {w : World} {v : Value} {l : List Nat} (h : NS w v l) {b : Nat} (hn : NotIn b v) (cs : Array Value) : NS (upd w b cs) v l := by
  obtain ⟨a, cap, hv, h0, hc⟩ := h
  refine ⟨a, cap, hv, h0, fun i hi => ?_⟩
  obtain ⟨blk, o, he, h1⟩ := hc i hi
  refine ⟨blk, o, he, ?_⟩
  rw [cell_upd_ne (by exact hn ⟨blk, o, none⟩ _ _ (by rw [hv, he]))]
  exact h1
/-- A slice that is there in w is none of a block that is not. -/
theorem NS.notIn {w : World} {v : Value} {l : List Nat} (h : NS w v l) (hl : l ≠ []) {b : Nat} (hb : w.heap.size ≤ b) : NotIn b v := by
  intro a n c e
  obtain ⟨blk, o, cap, e2, hlt, _⟩ := h.open (List.length_pos_iff.2 hl)
  rw [e] at e2
  have e3 := (Value.slice.inj e2).1
  cases e3
  show blk ≠ b
  omega

/-- The slice v of ours owns the digits l. -/
def OwnN (w : World) (B : Nat) (v : Value) (l : List Nat) : Prop := w.ownsRow B 3 1 v l.length (l.map fun d : Nat => Value.int .i64 d)
theorem OwnN.nil (w : World) (B : Nat) : OwnN w B (.slice none 0 0) [] := ⟨by simp, .inl ⟨rfl, rfl⟩⟩
theorem OwnN.grew {w w' : World} {B : Nat} {v : Value} {l : List Nat} (h : OwnN w B v l) (g : Grew w w') : OwnN w' B v l := by
  obtain ⟨h0, h1⟩ := h
  refine ⟨h0, ?_⟩
  rcases h1 with h1 | ⟨gg, cap, cur, hv, hB, hh, r⟩
  · exact .inl h1
  · have hlt : gg < w.heap.size := by
      rcases Nat.lt_or_ge gg w.heap.size with h | h
      · exact h
      · rw [Array.getElem?_eq_none h] at hh; cases hh
    exact .inr ⟨gg, cap, cur, hv, hB, by rw [g.below.block gg hlt]; exact hh, r⟩
theorem OwnN.ns {w : World} {B : Nat} {v : Value} {l : List Nat} (h : OwnN w B v l) : NS w v l := by
  obtain ⟨_, h1⟩ := h
  rcases h1 with ⟨rfl, h1⟩ | ⟨g, cap, cur, rfl, _, hh, hn, hm, hsz, ht⟩
  · have : l = [] := List.length_eq_zero_iff.1 h1
    subst this
    exact NS.nil w
  · refine ⟨some ⟨g, 0, none⟩, cap, rfl, hn, fun i hi => ⟨g, 0, rfl, ?_⟩⟩
    rw [Nat.mul_one] at ht
    have := take_getElem? (i := i) ht (by simpa using hi)
    simp only [World.cell?, hh, Nat.zero_add, Option.isSome_none, Bool.false_eq_true, if_false]
    rw [← Array.getElem?_toList, this]
    simp [List.getD_eq_getElem?_getD, hi]
theorem OwnN.block {w : World} {B : Nat} {v : Value} {l : List Nat} (h : OwnN w B v l) : ∀ k, v.ownBlock = some k → B ≤ k := by
  obtain ⟨_, h1⟩ := h
  intro k hk
  rcases h1 with ⟨rfl, _⟩ | ⟨g, cap, cur, rfl, hB, _⟩
  · simp [Value.ownBlock] at hk
  · simp [Value.ownBlock] at hk; omega
section
variable {P : Program} {ops : Array Oper} {rest : List Oper} {o : Oper} {a : Act} {Q : Exit → Act → World → Prop}
theorem append1_n {t e' : TypeId} {z0 : Value} (und : P.underlying t = some (.slice 3)) (info : (P.info? 3).map (fun i => (i.zero, i.size, i.bytes)) = some (some z0, 1, 8)) (hz0 : z0.cells.size = 1)
    {W w : World} (hW : Grew W w) {v : Value} {l : List Nat} (hown : OwnN w W.heap.size v l) {d : Nat} {di : Int} (hd : di = (d : Nat))
    (hlen : l.length < 17592186044415) (s x : Operand) (hg : o.guard = none)
    (ho : o.op = .call { callee := .builtin .append, args := #[s, x], argTypes := #[t, t] }) (hs : a.eval s = v) {k : Nat} (hk : k = w.heap.size) (hx : a.eval x = .slice (some ⟨k, 0, none⟩) 1 1)
    (h : ∀ v' oo nn, OwnN (ext W oo nn) W.heap.size v' (l ++ [d]) → wpList P ops Q rest (a.put o.dst v') (ext W oo nn)) :
    wpList P ops Q (o :: rest) a (w.alloc (.cells #[.int .i64 di] e')) := by
  subst hd
  refine append1_v und info hz0 hW (xs := l.map fun d : Nat => Value.int .i64 d) (by simpa [OwnN] using hown) rfl (by simpa using hlen) s x hg ho hs hk hx ?_
  intro v' oo nn h1 _
  exact h v' oo nn (by simpa [OwnN] using h1)
/-- 'make([]int, n)'. -/
theorem make_n {t : TypeId} (und : P.underlying t = some (.slice 3)) (info : (P.info? 3).map (fun i => (i.zero, i.size, i.bytes)) = some (some (.int .i64 0), 1, 8)) {W w : World} (hW : Grew W w) (x c : Operand) (hg : o.guard = none) (hop : o.op = Op.makeSlice t x c) (n : Nat) {L : Int} (hL : L = n) (hl : a.eval x = .int .i64 L) (hc : a.eval c = .int .i64 L)
    (hn : n ≤ 17592186044415)
    (h : ∀ oo nn k, W.heap.size ≤ k → IB (ext W oo nn) k (List.replicate n 0) → wpList P ops Q rest (a.put o.dst (.slice (some ⟨k, 0, none⟩) n n)) (ext W oo nn)) :
    wpList P ops Q (o :: rest) a w := by
  obtain ⟨i0, hi, hz⟩ := Option.map_eq_some_iff.1 info
  simp only [Prod.mk.injEq] at hz
  obtain ⟨hz0, hz1, hz2⟩ := hz
  refine wpList_make_full w hg x c t hop W.heap.size 3 i0 (.int .i64 0) 1 und hi hz0 hz1 .i64 .i64 L L n hl hc hL hL (by rw [hz2]; omega) (by simp [maxLen]; omega) hW.below.size ?_
  intro w' ho hgr
  obtain ⟨oo, nn, rfl⟩ := grew_grown hW hgr (fun k hk => by cases hk)
  refine h oo nn _ hW.below.size ?_
  obtain ⟨_, h1⟩ := ho
  rcases h1 with ⟨h1, _⟩ | ⟨g, cap, cur, he, _, hh, _, _, hsz, ht⟩
  · cases h1
  · cases he
    refine ⟨3, ?_⟩
    rw [hh]
    congr 2
    apply Array.toList_inj.1
    have e0 : cur.toList.length = n * 1 := by simpa using hsz
    rw [List.take_of_length_le (by omega)] at ht
    rw [ht]
    apply List.ext_getElem?
    intro k
    simp [madeCells, Value.cells, Nat.mod_one, ia]
    by_cases hk : k < n <;> simp [hk]
end
end Sedge
end
section
/-
  Contracts: the reference's digits (layer 2): floor, power.
-/
set_option linter.unusedSimpArgs false
set_option linter.unusedVariables false
open Go Go.RowKit Sedge
namespace Go.Proofs.Ytcmggfpcbijcjaa
theorem iinfoN : (Try.prog.info? 3).map (fun i => (i.zero, i.size, i.bytes)) = some (some (Value.int .i64 0), 1, 8) := by kernel_rfl
theorem iundN : Try.prog.underlying 30 = some (.slice 3) := by kernel_rfl
theorem tmod16 (k : Int) : k.tmod 16 = if 0 ≤ k then k % 16 else -((-k) % 16) := by
  split
  · rename_i h; exact Int.tmod_eq_emod_of_nonneg h
  · rename_i h
    have : k.tmod 16 = -((-k).tmod 16) := by rw [Int.neg_tmod, Int.neg_neg]
    rw [this, Int.tmod_eq_emod_of_nonneg (by omega)]
theorem floor_arith (k : Int) : -16 < k.tmod 16 ∧ k.tmod 16 < 16 ∧ (k.tmod 16 + 16).tmod 16 = k % 16 ∧ (k - k % 16).tdiv 16 = k / 16 := by
  have h := tmod16 k
  have hb : -16 < k.tmod 16 ∧ k.tmod 16 < 16 := by rw [h]; split <;> omega
  have e1 : (k.tmod 16 + 16).tmod 16 = (k.tmod 16 + 16) % 16 := Int.tmod_eq_emod_of_nonneg (by omega)
  have e2 : (k - k % 16).tdiv 16 = k / 16 := by
    rw [show k - k % 16 = k / 16 * 16 by omega, Int.mul_tdiv_cancel _ (by decide)]
  refine ⟨hb.1, hb.2, ?_, e2⟩
  rw [e1, h]
  split <;> omega
set_option maxRecDepth 100000 in
set_option maxHeartbeats 1000000 in
theorem floor_any (k : Int) (w : World) (hk : -1000000 ≤ k ∧ k ≤ 1000000) : Calls Try.prog 124 #[.int .i64 k] w (fun e w' => e = .returned (.tuple #[.int .i64 (k / 16), .int .i64 (k % 16)]) ∧ w' = w) := by
  obtain ⟨hb1, hb2, h1, h2⟩ := floor_arith k
  obtain ⟨R, hR⟩ : ∃ R, R = k % 16 := ⟨_, rfl⟩
  obtain ⟨Q, hQ⟩ : ∃ Q, Q = k / 16 := ⟨_, rfl⟩
  rw [← hR] at h1 h2 ⊢
  rw [← hQ] at h2 ⊢
  have a1 : IntKind.i64.wrap (k.tmod 16 + 16) = k.tmod 16 + 16 := IntWalk.i64_in _ (by omega)
  have a2 : IntKind.i64.wrap (k - R) = k - R := IntWalk.i64_in _ (by omega)
  have a3 : IntKind.i64.wrap Q = Q := IntWalk.i64_in _ (by omega)
  clear hR hQ
  go_enter Try.func124, Try.ntmps124
  go_wp2
  refine bodyPost_ret (v := .tuple #[.int .i64 Q, .int .i64 R]) (by simp [results, Try.results124, go_sem, *]) rfl ?_
  exact ⟨rfl, rfl⟩
theorem pow_le16 {j : Nat} (h : j ≤ 16) : 2 ^ j ≤ 65536 := Nat.pow_le_pow_right (n := 2) (by decide) h
set_option maxRecDepth 100000 in
set_option maxHeartbeats 1000000 in
theorem power_any (k : Nat) (w : World) (hk : k ≤ 16) : Calls Try.prog 125 #[.int .i64 k] w (fun e w' => e = .returned (.int .i64 ((2 ^ k : Nat) : Int)) ∧ w' = w) := by
  go_enter Try.func125, Try.ntmps125
  go_wp2
  go_loopw [3, 4] (fun c d wr => ∃ j : Nat, j ≤ k ∧ c = .int .i64 ((2 ^ j : Nat) : Int) ∧ d = .int .i64 j ∧ wr = w) (fun _ d _ => k - (intOf d).toNat)
  case atStart => exact ⟨0, Nat.zero_le _, rfl, rfl, rfl⟩
  case round =>
    obtain ⟨j, hj, rfl, rfl, rfl⟩ := hrel
    have hp := pow_le16 (Nat.le_trans hj hk)
    have hs : 2 ^ (j + 1) = 2 ^ j * 2 := Nat.pow_succ 2 j
    generalize hP : 2 ^ j = P at *
    by_cases hlt : j < k
    · have HS := hid hs
      clear hs
      go_wp2
      go_roundw
      case rel => exact ⟨j + 1, by omega, by rw [HS.out]; go_num, by go_num, by trivial⟩
      case measure => simp [intOf]; omega
    · have e : j = k := by omega
      subst e
      go_wp2
      go_ret
      exact ⟨ret_int (by rw [hP]), rfl⟩
/-- A number of the reference: its places lie from lo up to hi. -/
def DV (w : World) (v : Value) (q : Rat) (lo hi : Int) : Prop :=
  ∃ (neg : Bool) (L : Value) (E : Int) (l : List Nat), v = .agg #[.bool neg, L, .int .i64 E] ∧ NS w L l ∧ Dg l ∧ q = dat neg (dv l) (16 * E) ∧ (dv l = 0 → l = []) ∧ (l = [] → E = 0 ∧ neg = false) ∧ (l ≠ [] → lo ≤ E ∧ E + l.length ≤ hi)
theorem DV.grew {w w' : World} {v : Value} {q : Rat} {lo hi : Int} (h : DV w v q lo hi) (g : Grew w w') : DV w' v q lo hi := by
  obtain ⟨neg, L, E, l, h1, h2, h3⟩ := h
  exact ⟨neg, L, E, l, h1, h2.grew g, h3⟩
theorem DV.mono {w : World} {v : Value} {q : Rat} {lo hi lo' hi' : Int} (h : DV w v q lo hi) (h1 : lo' ≤ lo) (h2 : hi ≤ hi') : DV w v q lo' hi' := by
  obtain ⟨neg, L, E, l, a1, a2, a3, a4, a5, a6, a7⟩ := h
  exact ⟨neg, L, E, l, a1, a2, a3, a4, a5, a6, fun h => by have := a7 h; omega⟩
theorem DV.shape {w : World} {v : Value} {q : Rat} {lo hi : Int} (h : DV w v q lo hi) : ∃ ng a n c E, v = .agg #[.bool ng, .slice a n c, .int .i64 E] := by
  obtain ⟨ng, L, E, l, rfl, hN, _⟩ := h
  obtain ⟨a, c, rfl⟩ := hN.shape
  exact ⟨ng, a, _, c, E, rfl⟩
theorem DV.ext {w : World} {v : Value} {q : Rat} {lo hi : Int} (h : DV w v q lo hi) (o : Array Obj) (n : Nat) : DV (Sedge.ext w o n) v q lo hi := h.grew ⟨_, _, rfl⟩
def lenOf : Value → Nat
  | .slice _ n _ => n
  | _ => 0
def dLen : Value → Nat
  | .agg a => match a[1]? with
    | some L => lenOf L
    | none => 0
  | _ => 0
/-- The block of its digits. -/
def dBlock : Value → Option Nat
  | .agg a => match a[1]? with
    | some L => L.ownBlock
    | none => none
  | _ => none
theorem _root_.Sedge.NS.setCell {w : World} {v : Value} {l : List Nat} (h : NS w v l) {b i : Nat} (hb : ∀ k, v.ownBlock = some k → k ≠ b) (u : Value) : NS (w.setCell ⟨b, i, none⟩ u) v l := by
  obtain ⟨a, cap, hv, h0, hc⟩ := h
  refine ⟨a, cap, hv, h0, fun j hj => ?_⟩
  obtain ⟨blk, o, he, h1⟩ := hc j hj
  refine ⟨blk, o, he, ?_⟩
  rw [← h1]
  have hne : blk ≠ b := hb blk (by rw [hv, he]; rfl)
  unfold World.cell?
  show (match (w.heap.modify b _)[blk]? with | some (.cells cs _ _) => _ | _ => _) = _
  rw [Array.getElem?_modify, if_neg (by omega)]
  rfl
theorem DV.setCell {w : World} {v : Value} {q : Rat} {lo hi : Int} (h : DV w v q lo hi) {b i : Nat} (hb : ∀ k, dBlock v = some k → k ≠ b) (u : Value) : DV (w.setCell ⟨b, i, none⟩ u) v q lo hi := by
  obtain ⟨neg, L, E, l, rfl, h2, h3⟩ := h
  exact ⟨neg, L, E, l, rfl, h2.setCell (fun k hk => hb k hk) u, h3⟩
theorem DV.ext_set {w : World} {v : Value} {q : Rat} {lo hi : Int} {o : Array Obj} {n : Nat} (h : DV (Sedge.ext w o n) v q lo hi) {b i : Nat} (h1 : b < w.heap.size) (hb : ∀ k, dBlock v = some k → k ≠ b) (u : Value) : DV (Sedge.ext (w.setCell ⟨b, i, none⟩ u) o n) v q lo hi := by
  rw [← setCell_ext h1]
  exact h.setCell hb u
theorem DV.ext_set3 {w : World} {v : Value} {q : Rat} {lo hi : Int} {o : Array Obj} {n : Nat} (h : DV (Sedge.ext w o n) v q lo hi) {b i j k : Nat} (h1 : b < w.heap.size) (hb : ∀ k, dBlock v = some k → k ≠ b) (x y z : Value) :
    DV (Sedge.ext (((w.setCell ⟨b, i, none⟩ x).setCell ⟨b, j, none⟩ y).setCell ⟨b, k, none⟩ z) o n) v q lo hi :=
  ((h.ext_set h1 hb x).ext_set (by simpa [size_setCell'] using h1) hb y).ext_set (by simpa [size_setCell'] using h1) hb z
theorem DV.set3 {w : World} {v : Value} {q : Rat} {lo hi : Int} (h : DV w v q lo hi) {b i j k : Nat} (hb : ∀ k, dBlock v = some k → k ≠ b) (x y z : Value) :
    DV (((w.setCell ⟨b, i, none⟩ x).setCell ⟨b, j, none⟩ y).setCell ⟨b, k, none⟩ z) v q lo hi := ((h.setCell hb x).setCell hb y).setCell hb z
theorem grew_set3 {w X : World} (g : Grew w X) {b i j k : Nat} (hb : w.heap.size ≤ b) (x y z : Value) (o : Array Obj) (n : Nat) : Grew w (Sedge.ext (((X.setCell ⟨b, i, none⟩ x).setCell ⟨b, j, none⟩ y).setCell ⟨b, k, none⟩ z) o n) :=
  (((g.setCell (a := ⟨b, i, none⟩) hb x).setCell (a := ⟨b, j, none⟩) hb y).setCell (a := ⟨b, k, none⟩) hb z).ext _ _
theorem dat_shift (neg : Bool) (l : List Nat) (E : Int) : dat neg (dv (0 :: l)) (16 * E) = dat neg (dv l) (16 * (E + 1)) := by
  unfold dat
  have e1 : ((dv (0 :: l) : Nat) : Rat) = p2 16 * (dv l : Rat) := by
    show ((0 + 65536 * dv l : Nat) : Rat) = _
    rw [Nat.zero_add, Rat.natCast_mul, show p2 16 = ((65536 : Nat) : Rat) by decide +kernel]
  have e2 : p2 (16 * (E + 1)) = p2 16 * p2 (16 * E) := by rw [← p2_add]; congr 1; omega
  rw [e1, e2]; grind
end Go.Proofs.Ytcmggfpcbijcjaa
end
section
/-
  Contracts: the reference's digits (layer 2): Made.
-/
set_option linter.unusedSimpArgs false
set_option linter.unusedVariables false
open Go Go.RowKit Sedge
namespace Go.Proofs.Ytcmggfpcbijcjaa
set_option maxRecDepth 100000 in
set_option maxHeartbeats 2000000 in
/-- Made. -/
theorem made_any (neg : Bool) (L : Value) (l : List Nat) (E : Int) (w : World) (hL : NS w L l) (hg : Dg l) (hl : l.length ≤ 1000000) (hE : -1000000 ≤ E ∧ E ≤ 1000000) :
   Calls Try.prog 120 #[.bool neg, L, .int .i64 E] w (fun e w' => ∃ v, e = .returned v ∧ DV w' v (dat neg (dv l) (16 * E)) E (E + l.length) ∧ (∀ k, dBlock v = some k → L.ownBlock = some k) ∧ ∃ o n, w' = ext w o n) := by
  obtain ⟨q0, hq0⟩ : ∃ q0, q0 = dat neg (dv l) (16 * E) := ⟨_, rfl⟩
  rw [← hq0]
  go_enter Try.func120, Try.ntmps120
  go_upto_block 0 with fail
  refine name_any (fun W hW => ?_)
  have g0 : Grew w W := by rw [← hW]; (show Grew _ _; repeat (first | (with_reducible exact Grew.refl _) | (with_reducible assumption) | (with_reducible exact Grew.same_o) | (with_reducible exact Grew.app_o) | (with_reducible refine Grew.ext ?_ _ _) | (with_reducible refine Grew.alloc ?_ _) | ((with_reducible refine Grew.setCell ?_ ?_ _); rotate_left; (focus (dsimp only; first | omega | (simp only [size_ext, World.size_alloc, Array.size_append]; omega)))) | (with_reducible refine Grew.drewN ?_ _) | (with_reducible refine Grew.drew ?_)))
  have s1 : w.heap.size < W.heap.size := by rw [← hW]; simp only [World.size_alloc]; omega
  have f1 : ∀ i, W.frozen? ⟨w.heap.size, i, none⟩ = false := by subst hW; intro i; go_simp
  have b1 : ∀ i, W.cell? ⟨w.heap.size, i, none⟩ = (#[.bool false, .slice none 0 0, .int .i64 0] : Array Value)[i]? := by subst hW; intro i; go_simp
  have hLW := hL.grew g0
  clear hW
  go_cut [1, 2] (fun c d wx => ∃ (l' : List Nat) (E' : Int), d = .int .i64 E' ∧ NS w c l' ∧ Dg l' ∧ q0 = dat neg (dv l') (16 * E') ∧ E ≤ E' ∧ E' + l'.length = E + l.length ∧ (∀ k, c.ownBlock = some k → L.ownBlock = some k) ∧ wx = W)
  case first =>
    go_wp2_with fail
    go_loopw [1, 2] (fun c d wx => ∃ (l' : List Nat) (E' : Int), d = .int .i64 E' ∧ NS w c l' ∧ Dg l' ∧ q0 = dat neg (dv l') (16 * E') ∧ E ≤ E' ∧ E' + l'.length = E + l.length ∧ (∀ k, c.ownBlock = some k → L.ownBlock = some k) ∧ wx = W) (fun c _ _ => lenOf c)
    case atStart => exact ⟨l, E, rfl, hL, hg, hq0, Int.le_refl _, rfl, fun _ h => h, rfl⟩
    case round =>
      obtain ⟨l', E', rfl, hN, hD, hQ, h1, h2, hob, hwr⟩ := hrel
      have HOB := hid hob
      clear hob
      subst hwr
      have HQ := hid hQ
      clear hQ
      cases l' with
      | nil =>
        obtain ⟨a, cap, rfl⟩ := hN.shape
        go_wp2
        go_meet
        exact ⟨[], E', rfl, hN, hD, HQ.out, h1, h2, HOB.out, by trivial⟩
      | cons x l' =>
        obtain ⟨blk, o, cap, rfl, hblk, hcap, hc⟩ := hN.open (by simp)
        have hc0 := (g0.cell hblk).trans (hc 0 (by simp))
        rw [Nat.add_zero] at hc0
        change _ = some (Value.int .i64 (x : Int)) at hc0
        clear hc
        by_cases h0 : x = 0
        · subst h0
          have hT := hN.tail'
          have hb : E' ≤ 2000000 := by simp at h2; omega
          have HL := hid h2
          clear h2
          go_wp2
          go_roundw
          case rel => exact ⟨l', E' + 1, by go_num, hT, hD.tail, by rw [HQ.out, dat_shift], by omega, by have := HL.out; simp at this; omega, fun k hk => HOB.out k (by rw [← hk]; split <;> rfl), by trivial⟩
          case measure => simp [lenOf]
        · have b0 : ((x : Int) == 0) = false := by rw [beq_eq_false_iff_ne]; omega
          go_wp2
          go_meet
          exact ⟨x :: l', E', rfl, hN, hD, HQ.out, h1, h2, HOB.out, by trivial⟩
  case rest =>
    obtain ⟨l1, E1, rfl, hN1, hD1, hQ1, h1, h2, hob1, rfl⟩ := hcut
    have HQ1 := hid hQ1
    have HOB1 := hid hob1
    clear hob1
    clear hQ1
    have hb1 : E1 ≤ 2000000 := by omega
    have W1 := hid h2
    clear h2
    go_wp2_with fail
    go_loopw [1] (fun c wx => ∃ (l' : List Nat), NS w c l' ∧ Dg l' ∧ q0 = dat neg (dv l') (16 * E1) ∧ l'.length ≤ l1.length ∧ (∀ k, c.ownBlock = some k → L.ownBlock = some k) ∧ wx = wc) (fun c _ => lenOf c)
    case atStart => exact ⟨l1, hN1, hD1, HQ1.out, Nat.le_refl _, HOB1.out, rfl⟩
    case round =>
      obtain ⟨l', hN, hD, hQ, h2, hob, hwr⟩ := hrel
      have HOB := hid hob
      clear hob
      subst hwr
      have HQ := hid hQ
      have HL2 := hid h2
      have hl2 : l'.length ≤ 1000000 := by have := W1.out; omega
      clear hQ h2
      rcases Nat.eq_zero_or_pos l'.length with h0 | h0
      · have : l' = [] := List.length_eq_zero_iff.1 h0
        subst this
        obtain ⟨a, cap, rfl⟩ := hN.shape
        go_wp2
        refine bodyPost_ret (by simp [results, Try.results120, go_sem, *]; rfl) rfl ?_
        refine ⟨_, rfl, ⟨false, _, 0, [], rfl, NS.nil _, Dg.nil, by rw [HQ.out]; show dat neg 0 _ = dat false 0 _; rw [dat_zero, dat_zero], fun _ => rfl, fun _ => ⟨rfl, rfl⟩, fun h => absurd rfl h⟩, (fun k hk => by cases hk), by (show Grew _ _; repeat (first | (with_reducible exact Grew.refl _) | (with_reducible assumption) | (with_reducible exact Grew.same_o) | (with_reducible exact Grew.app_o) | (with_reducible refine Grew.ext ?_ _ _) | (with_reducible refine Grew.alloc ?_ _) | ((with_reducible refine Grew.setCell ?_ ?_ _); rotate_left; (focus (dsimp only; first | omega | (simp only [size_ext, World.size_alloc, Array.size_append]; omega)))) | (with_reducible refine Grew.drewN ?_ _) | (with_reducible refine Grew.drew ?_)))⟩
      · obtain ⟨m, hm⟩ : ∃ m, l'.length = m + 1 := ⟨l'.length - 1, by omega⟩
        obtain ⟨blk, o, cap, rfl, hblk, hcap, hc⟩ := hN.open h0
        have hc0 := (g0.cell hblk).trans (hc m (by omega))
        clear hc
        have hdl := hN.dropLast
        have hne : l' ≠ [] := by intro h; subst h; simp at hm
        have hgl : l'.getD m 0 = l'.getLast hne := by
          rw [List.getLast_eq_getElem, List.getD_eq_getElem?_getD, List.getElem?_eq_getElem (by omega)]
          simp [hm]
        obtain ⟨x, hx⟩ : ∃ x, x = l'.getD m 0 := ⟨_, rfl⟩
        rw [← hx] at hc0 hgl
        have HX := hid hgl
        rw [hm] at hdl hcap hN ⊢
        have hdrop := hid (show l'.dropLast.length = m by simp [hm])
        have hM := hid hm
        have hmb : m ≤ 1000000 := by omega
        have am : IntKind.i64.wrap (m : Int) = m := IntWalk.i64_in _ (by omega)
        clear hgl hx hm
        by_cases hx0 : x = 0
        · subst hx0
          have hdv := hid (dv_dropLast hne HX.out.symm)
          go_wp2
          go_roundw
          case rel => exact ⟨l'.dropLast, by rw [← hdrop.out] at hdl ⊢; exact hdl, hD.dropLast, by rw [HQ.out, hdv.out], by have := HL2.out; have := hM.out; rw [hdrop.out]; omega, HOB.out, by trivial⟩
          case measure => simp [lenOf]
        · have b0 : ((x : Int) == 0) = false := by rw [beq_eq_false_iff_ne]; omega
          have hdv : dv l' = 0 → l' = [] := fun h => absurd h (dv_pos hne (by rw [← HX.out]; exact hx0))
          have Hdv := hid hdv
          clear hdv
          go_wp2
          refine bodyPost_ret (by simp [results, Try.results120, go_sem, *]; rfl) rfl ?_
          refine ⟨_, rfl, ⟨neg, _, E1, l', rfl, ?_, hD, HQ.out, Hdv.out, fun h => absurd h hne, fun _ => ?_⟩, HOB.out, by (show Grew _ _; repeat (first | (with_reducible exact Grew.refl _) | (with_reducible assumption) | (with_reducible exact Grew.same_o) | (with_reducible exact Grew.app_o) | (with_reducible refine Grew.ext ?_ _ _) | (with_reducible refine Grew.alloc ?_ _) | ((with_reducible refine Grew.setCell ?_ ?_ _); rotate_left; (focus (dsimp only; first | omega | (simp only [size_ext, World.size_alloc, Array.size_append]; omega)))) | (with_reducible refine Grew.drewN ?_ _) | (with_reducible refine Grew.drew ?_)))⟩
          · rw [← hM.out] at hN ⊢
            exact hN.grew (by (show Grew _ _; repeat (first | (with_reducible exact Grew.refl _) | (with_reducible assumption) | (with_reducible exact Grew.same_o) | (with_reducible exact Grew.app_o) | (with_reducible refine Grew.ext ?_ _ _) | (with_reducible refine Grew.alloc ?_ _) | ((with_reducible refine Grew.setCell ?_ ?_ _); rotate_left; (focus (dsimp only; first | omega | (simp only [size_ext, World.size_alloc, Array.size_append]; omega)))) | (with_reducible refine Grew.drewN ?_ _) | (with_reducible refine Grew.drew ?_))))
          · have := HL2.out
            have := W1.out
            omega
end Go.Proofs.Ytcmggfpcbijcjaa
end
