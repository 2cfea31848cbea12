/-
  Texts laid one behind the other (a claim has at most 60 files): Flt, FltVal, FltVal2, FltErr, FltScale, FltLd, FltBest, Close1, FltSum, FltRest, FltDiv, FltBack, FltInt, Walk.
-/
import Ieee.Arith
import Derived.Laws.FloatBits
import Derived.WalkKit
import Derived.WalkLawsBesides
import Derived.WalkSpells
import Derived.Deep.Draws
section
/-
  Plain laws on 64-bit floats by their words, without a program: canonical words (one NaN), the operations on them.
-/
set_option linter.unusedSimpArgs false
set_option linter.unusedVariables false
namespace Sedge
open Ieee

abbrev D64 : Format := Ieee.double

/-- The one NaN of ours. -/
def QN : Nat := 0x7ff8000000000001

def isNan (b : Nat) : Bool := (D64.read b).isNaN

/-- The word, all NaNs made one. -/
def canon (b : Nat) : Nat := if isNan b then QN else b

theorem isNan_QN : isNan QN = true := by decide +kernel

theorem canon_nan {b : Nat} (h : isNan b = true) : canon b = QN := by simp [canon, h]
theorem canon_not {b : Nat} (h : isNan b = false) : canon b = b := by simp [canon, h]
theorem isNan_canon (b : Nat) : isNan (canon b) = isNan b := by
  cases h : isNan b
  · rw [canon_not h, h]
  · rw [canon_nan h, isNan_QN]
theorem canon_canon (b : Nat) : canon (canon b) = canon b := by
  cases h : isNan b
  · rw [canon_not h, canon_not h]
  · rw [canon_nan h]; decide +kernel

/-- Reading the canonical word: the datum, or some NaN where it was one. -/
theorem read_canon (b : Nat) (h : isNan b = false) : D64.read (canon b) = D64.read b := by rw [canon_not h]

theorem isNaN_eq (d : Datum) (h : d.isNaN = true) : ∃ s t, d = .nan s t := by
  cases d <;> simp [Datum.isNaN] at h
  exact ⟨_, _, rfl⟩

theorem sum_nan_left {d e : Datum} (h : d.isNaN = true) : d.sum e = none := by
  obtain ⟨s, t, rfl⟩ := isNaN_eq d h; cases e <;> rfl
theorem sum_nan_right {d e : Datum} (h : e.isNaN = true) : d.sum e = none := by
  obtain ⟨s, t, rfl⟩ := isNaN_eq e h; cases d <;> rfl
theorem product_nan_left {d e : Datum} (h : d.isNaN = true) : d.product e = none := by
  obtain ⟨s, t, rfl⟩ := isNaN_eq d h; cases e <;> rfl
theorem product_nan_right {d e : Datum} (h : e.isNaN = true) : d.product e = none := by
  obtain ⟨s, t, rfl⟩ := isNaN_eq e h; cases d <;> rfl
theorem quotient_nan_left {n : Nat} {d e : Datum} (h : d.isNaN = true) : d.quotient n e = none := by
  obtain ⟨s, t, rfl⟩ := isNaN_eq d h; cases e <;> rfl
theorem quotient_nan_right {n : Nat} {d e : Datum} (h : e.isNaN = true) : d.quotient n e = none := by
  obtain ⟨s, t, rfl⟩ := isNaN_eq e h; cases d <;> rfl
theorem order_nan_left {d e : Datum} (h : d.isNaN = true) : d.order e = none := by
  obtain ⟨s, t, rfl⟩ := isNaN_eq d h; cases e <;> rfl
theorem order_nan_right {d e : Datum} (h : e.isNaN = true) : d.order e = none := by
  obtain ⟨s, t, rfl⟩ := isNaN_eq e h; cases d <;> rfl
theorem opposite_isNaN (d : Datum) : d.opposite.isNaN = d.isNaN := by cases d <;> rfl

theorem add_canon (x y : Nat) : D64.add (canon x) (canon y) = D64.add x y := by
  unfold Format.add
  cases hx : isNan x
  · cases hy : isNan y
    · rw [canon_not hx, canon_not hy]
    · rw [sum_nan_right (by rw [← isNan, isNan_canon]; exact hy), sum_nan_right hy]
  · rw [sum_nan_left (by rw [← isNan, isNan_canon]; exact hx), sum_nan_left hx]
theorem sub_canon (x y : Nat) : D64.sub (canon x) (canon y) = D64.sub x y := by
  unfold Format.sub
  cases hx : isNan x
  · cases hy : isNan y
    · rw [canon_not hx, canon_not hy]
    · rw [sum_nan_right (by rw [opposite_isNaN, ← isNan, isNan_canon]; exact hy), sum_nan_right (by rw [opposite_isNaN]; exact hy)]
  · rw [sum_nan_left (by rw [← isNan, isNan_canon]; exact hx), sum_nan_left hx]
theorem mul_canon (x y : Nat) : D64.mul (canon x) (canon y) = D64.mul x y := by
  unfold Format.mul
  cases hx : isNan x
  · cases hy : isNan y
    · rw [canon_not hx, canon_not hy]
    · rw [product_nan_right (by rw [← isNan, isNan_canon]; exact hy), product_nan_right hy]
  · rw [product_nan_left (by rw [← isNan, isNan_canon]; exact hx), product_nan_left hx]
theorem div_canon (x y : Nat) : D64.div (canon x) (canon y) = D64.div x y := by
  unfold Format.div
  cases hx : isNan x
  · cases hy : isNan y
    · rw [canon_not hx, canon_not hy]
    · rw [quotient_nan_right (by rw [← isNan, isNan_canon]; exact hy), quotient_nan_right hy]
  · rw [quotient_nan_left (by rw [← isNan, isNan_canon]; exact hx), quotient_nan_left hx]
theorem order_canon (x y : Nat) : D64.order (canon x) (canon y) = D64.order x y := by
  unfold Format.order
  cases hx : isNan x
  · cases hy : isNan y
    · rw [canon_not hx, canon_not hy]
    · rw [order_nan_right (by rw [← isNan, isNan_canon]; exact hy), order_nan_right hy]
  · rw [order_nan_left (by rw [← isNan, isNan_canon]; exact hx), order_nan_left hx]

/-! What is written reads as it was. -/
def SW : Nat := 9223372036854775808
def IR : Nat := 9218868437227405312
def BN : Nat := 4503599627370496
theorem signWeight_eq : D64.signWeight = SW := by decide +kernel
theorem infRung_eq : D64.infRung = IR := by decide +kernel
theorem binade_eq : D64.binade = BN := by decide +kernel
theorem leastPlace_eq : D64.leastPlace = -1074 := by decide +kernel

theorem read_word (neg : Bool) (rung : Nat) (h : rung < SW) : D64.read (D64.word neg rung) =
    if rung < BN then .number neg rung (-1074)
    else if rung < IR then .number neg (BN + rung % BN) (-1074 + (rung / BN - 1 : Nat))
    else if rung = IR then .infinity neg
    else .nan neg (rung - IR) := by
  unfold Format.read Format.word
  simp only [signWeight_eq, infRung_eq, binade_eq, leastPlace_eq]
  have hs : (if neg = true then SW + rung else rung) % SW = rung := by
    cases neg
    · simp only [Bool.false_eq_true, if_false]; exact Nat.mod_eq_of_lt h
    · simp only [if_true, Nat.add_mod_left]; exact Nat.mod_eq_of_lt h
  have hn : ((if neg = true then SW + rung else rung) / SW % 2 == 1) = neg := by
    cases neg
    · simp only [Bool.false_eq_true, if_false]; rw [Nat.div_eq_of_lt h]; rfl
    · simp only [if_true]; rw [Nat.add_div_left _ (by decide +kernel), Nat.div_eq_of_lt h]; rfl
  rw [hs, hn]

theorem read_word_notnan (neg : Bool) (rung : Nat) (h : rung ≤ IR) : isNan (D64.word neg rung) = false := by
  unfold isNan
  have hlt : rung < SW := Nat.lt_of_le_of_lt h (by decide +kernel)
  rw [read_word neg rung hlt]
  by_cases h1 : rung < BN
  · rw [if_pos h1]; rfl
  · rw [if_neg h1]
    by_cases h2 : rung < IR
    · rw [if_pos h2]; rfl
    · rw [if_neg h2, if_pos (by omega)]; rfl

theorem nearest_notnan (neg : Bool) (m : Nat) (p : Int) : isNan (D64.nearest neg m p) = false := by
  unfold Format.nearest
  split
  · exact read_word_notnan _ _ (Nat.zero_le _)
  · exact read_word_notnan _ _ (by rw [← infRung_eq]; exact Nat.min_le_right _ _)

theorem write_notnan (d : Datum) (h : d.isNaN = false) : isNan (D64.write d) = false := by
  cases d with
  | number s m p => exact nearest_notnan s m p
  | infinity s => exact read_word_notnan s _ (by rw [infRung_eq]; exact Nat.le_refl _)
  | nan s t => simp [Datum.isNaN] at h

theorem sum_notnan {d e f : Datum} (h : d.sum e = some f) : f.isNaN = false := by
  cases d <;> cases e <;> simp only [Datum.sum] at h <;> first | (cases h; rfl) | cases h | (split at h <;> first | (cases h; rfl) | cases h)
theorem product_notnan {d e f : Datum} (h : d.product e = some f) : f.isNaN = false := by
  cases d <;> cases e <;> simp only [Datum.product] at h <;> first | (cases h; rfl) | cases h | (split at h <;> first | (cases h; rfl) | cases h)
theorem quotient_notnan {n : Nat} {d e f : Datum} (h : d.quotient n e = some f) : f.isNaN = false := by
  cases d <;> cases e <;> simp only [Datum.quotient] at h <;> first | (cases h; rfl) | cases h | (split at h <;> first | (cases h; rfl) | (split at h <;> first | (cases h; rfl) | cases h))

theorem add_notnan {x y r : Nat} (h : D64.add x y = some r) : isNan r = false := by
  unfold Format.add at h
  cases hd : (D64.read x).sum (D64.read y) with
  | none => rw [hd] at h; cases h
  | some d => rw [hd] at h; cases h; exact write_notnan _ (sum_notnan hd)
theorem sub_notnan {x y r : Nat} (h : D64.sub x y = some r) : isNan r = false := by
  unfold Format.sub at h
  cases hd : (D64.read x).sum (D64.read y).opposite with
  | none => rw [hd] at h; cases h
  | some d => rw [hd] at h; cases h; exact write_notnan _ (sum_notnan hd)
theorem mul_notnan {x y r : Nat} (h : D64.mul x y = some r) : isNan r = false := by
  unfold Format.mul at h
  cases hd : (D64.read x).product (D64.read y) with
  | none => rw [hd] at h; cases h
  | some d => rw [hd] at h; cases h; exact write_notnan _ (product_notnan hd)
theorem div_notnan {x y r : Nat} (h : D64.div x y = some r) : isNan r = false := by
  unfold Format.div at h
  cases hd : (D64.read x).quotient (D64.fractionBits + 2) (D64.read y) with
  | none => rw [hd] at h; cases h
  | some d => rw [hd] at h; cases h; exact write_notnan _ (quotient_notnan hd)

/-! The operations, all NaNs one. -/
def fadd (x y : Nat) : Nat := (D64.add x y).getD QN
def fsub (x y : Nat) : Nat := (D64.sub x y).getD QN
def fmul (x y : Nat) : Nat := (D64.mul x y).getD QN
def fdiv (x y : Nat) : Nat := (D64.div x y).getD QN
def feq (x y : Nat) : Bool := D64.order x y == some .eq
def flt (x y : Nat) : Bool := D64.order x y == some .lt
def fle (x y : Nat) : Bool := D64.order x y == some .lt || D64.order x y == some .eq
/-- Without its sign. -/
def fabs (x : Nat) : Nat := x % SW
/-- The word of a whole number. -/
def fint (n : Int) : Nat := D64.write (.number (n < 0) n.natAbs 0)

/-- The word b stands for x. -/
def IsF (b x : Nat) : Prop := b < 2 ^ 64 ∧ canon b = x

instance (b x : Nat) : Decidable (IsF b x) := by unfold IsF; exact inferInstance
theorem IsF.canon_eq {b x : Nat} (h : IsF b x) : canon b = x := h.2
theorem isF_self {b : Nat} (h : b < 2 ^ 64) : IsF b (canon b) := ⟨h, rfl⟩
theorem IsF.canonical {b x : Nat} (h : IsF b x) : canon x = x := by rw [← h.2, canon_canon]


/-! By its bits. -/
def expo (b : Nat) : Nat := b / BN % 2048
def frac (b : Nat) : Nat := b % BN
def pNeg (b : Nat) : Bool := decide (b / SW = 1)
def pKind (b : Nat) : Nat := if expo b = 2047 then (if frac b = 0 then 1 else 2) else 0
def pMag (b : Nat) : Nat := if expo b = 2047 then 0 else if expo b = 0 then frac b else frac b + BN
def pExp (b : Nat) : Int := if expo b = 2047 then 0 else if expo b = 0 then -1074 else (expo b : Int) - 1075

theorem rung_eq (b : Nat) : b % SW = expo b * BN + frac b := by
  unfold expo frac SW BN; omega
theorem expo_lt (b : Nat) : expo b < 2048 := Nat.mod_lt _ (by decide)
theorem frac_lt (b : Nat) : frac b < BN := Nat.mod_lt _ (by decide)
theorem frac_lt' (b : Nat) : frac b < 4503599627370496 := frac_lt b

theorem read_eq (b : Nat) (hb : b < 2 ^ 64) : D64.read b =
    if pKind b = 0 then .number (pNeg b) (pMag b) (pExp b) else if pKind b = 1 then .infinity (pNeg b) else .nan (pNeg b) (frac b) := by
  have hn : (b / SW % 2 == 1) = pNeg b := by
    unfold pNeg
    rw [Bool.eq_iff_iff]
    simp only [beq_iff_eq, decide_eq_true_eq]
    unfold SW; omega
  unfold Format.read
  simp only [signWeight_eq, infRung_eq, binade_eq, leastPlace_eq]
  rw [hn, rung_eq]
  have h1 := expo_lt b
  have h2 := frac_lt' b
  unfold pKind pMag pExp
  generalize expo b = E at *
  generalize frac b = F at *
  unfold BN IR
  by_cases k0 : E = 0
  · subst k0
    simp [h2]
  · by_cases k1 : E = 2047
    · subst k1
      rw [if_neg (by omega), if_neg (by omega), if_pos rfl]
      by_cases k2 : F = 0
      · subst k2; simp
      · rw [if_neg (by omega)]
        simp [k2]
    · rw [if_neg (by omega), if_pos (by omega)]
      simp only [k0, k1, if_false, if_true]
      congr 1
      · omega
      · omega

theorem isNan_kind (b : Nat) (hb : b < 2 ^ 64) : isNan b = decide (pKind b = 2) := by
  unfold isNan
  rw [read_eq b hb]
  have : pKind b = 0 ∨ pKind b = 1 ∨ pKind b = 2 := by unfold pKind; split <;> (try split) <;> simp
  rcases this with h | h | h <;> rw [h] <;> simp <;> rfl

theorem kind_abs (b : Nat) : expo (b % SW) = expo b ∧ frac (b % SW) = frac b := by
  unfold expo frac SW BN; omega
theorem isNan_abs (b : Nat) (hb : b < 2 ^ 64) : isNan (fabs b) = isNan b := by
  have h : fabs b < 2 ^ 64 := Nat.lt_of_le_of_lt (Nat.mod_le _ _) hb
  rw [isNan_kind _ h, isNan_kind _ hb]
  unfold pKind fabs
  rw [(kind_abs b).1, (kind_abs b).2]
theorem IsF.abs {b x : Nat} (h : IsF b x) : IsF (b % SW) (fabs x) := by
  refine ⟨Nat.lt_of_le_of_lt (Nat.mod_le _ _) h.1, ?_⟩
  have e := h.2
  subst e
  show canon (fabs b) = fabs (canon b)
  cases hn : isNan b
  · rw [canon_not hn, canon_not (by rw [isNan_abs b h.1]; exact hn)]
  · rw [canon_nan hn, canon_nan (by rw [isNan_abs b h.1]; exact hn)]; decide +kernel

theorem canon_lt {b : Nat} (h : b < 2 ^ 64) : canon b < 2 ^ 64 := by
  cases hn : isNan b
  · rw [canon_not hn]; exact h
  · rw [canon_nan hn]; decide +kernel
theorem IsF.lt {b x : Nat} (h : IsF b x) : x < 2 ^ 64 := by rw [← h.2]; exact canon_lt h.1
/-- The words that stand for x, x being canonical. -/
theorem IsF.self {b x : Nat} (h : IsF b x) : IsF x x := ⟨h.lt, h.canonical⟩
/-- Are two words the same? -/
theorem same_iff {a b : Nat} (ha : a < 2 ^ 64) (hb : b < 2 ^ 64) : (a = b ∨ pKind a = 2 ∧ pKind b = 2) ↔ canon a = canon b := by
  have h1 := isNan_kind a ha
  have h2 := isNan_kind b hb
  constructor
  · rintro (h | ⟨h, h'⟩)
    · rw [h]
    · rw [canon_nan (by rw [h1, h]; rfl), canon_nan (by rw [h2, h']; rfl)]
  · intro h
    cases ha : isNan a
    · cases hb : isNan b
      · rw [canon_not ha, canon_not hb] at h; exact .inl h
      · rw [canon_not ha, canon_nan hb] at h
        rw [h, isNan_QN] at ha; cases ha
    · cases hb : isNan b
      · rw [canon_nan ha, canon_not hb] at h
        rw [← h, isNan_QN] at hb; cases hb
      · rw [h1] at ha; rw [h2] at hb
        exact .inr ⟨by simpa using ha, by simpa using hb⟩
/-- Finite, by its canonical word. -/
def finB (x : Nat) : Bool := decide (pKind x = 0)
theorem kind_canon (b : Nat) (hb : b < 2 ^ 64) : pKind (canon b) = pKind b := by
  cases h : isNan b
  · rw [canon_not h]
  · rw [canon_nan h]
    have := isNan_kind b hb
    rw [h] at this
    have e : pKind b = 2 := by simpa using this
    rw [e]; decide +kernel
theorem IsF.kind {b x : Nat} (h : IsF b x) : pKind b = pKind x := by rw [← h.2, kind_canon b h.1]


/-- x > y. -/
def fgt (x y : Nat) : Bool := D64.order x y == some .gt
theorem IsF.order {b c x y : Nat} (h : IsF b x) (k : IsF c y) : D64.order b c = D64.order x y := by rw [← h.2, ← k.2, order_canon]
theorem isNan_can {x : Nat} (h : canon x = x) : isNan x = true → x = QN := fun hn => by rw [← h, canon_nan hn]
theorem order_refl_num (s : Bool) (m : Nat) (i : Int) : (Datum.number s m i).order (.number s m i) = some .eq := by
  simp only [Datum.order]
  congr 1
  exact Int.compare_eq_eq.2 rfl
theorem order_self (x : Nat) : (D64.order x x != some .eq) = isNan x := by
  unfold isNan Format.order
  cases h : D64.read x with
  | number s m i => rw [order_refl_num]; rfl
  | infinity s => cases s <;> rfl
  | nan s t => rfl
theorem IsF.nan {b x : Nat} (h : IsF b x) : isNan b = isNan x := by rw [← h.2, isNan_canon]
end Sedge
end
section
/-
  Plain laws on 64-bit floats: what a word is worth, and how far what is written is from what was meant.
-/
set_option linter.unusedSimpArgs false
set_option linter.unusedVariables false
namespace Sedge
open Ieee

/-- n / 2^drop, to the nearest, of two the even one. -/
def rne (n drop : Nat) : Nat :=
  n / 2 ^ drop + (decide (2 ^ drop < 2 * (n % 2 ^ drop)) || (decide (2 ^ drop = 2 * (n % 2 ^ drop)) && n / 2 ^ drop % 2 == 1)).toNat

theorem cut_even (neg : Bool) (n drop : Nat) : Toward.even.cut neg n drop = rne n drop := by
  unfold Toward.cut rne
  by_cases h : drop ≤ n.log2 + 2
  · rw [Nat.min_eq_left h]
    simp only [Nat.one_shiftLeft]
    have e1 : (2 ^ drop == 2 * (n % 2 ^ drop)) = decide (2 ^ drop = 2 * (n % 2 ^ drop)) := by rw [Bool.eq_iff_iff]; simp
    simp only [e1]
  · rw [Nat.min_eq_right (by omega)]
    simp only [Nat.one_shiftLeft]
    have h1 : n < 2 ^ (n.log2 + 1) := Nat.lt_log2_self
    have h2 : 2 ^ (n.log2 + 2) = 2 * 2 ^ (n.log2 + 1) := by rw [Nat.pow_succ, Nat.mul_comm]
    have h3 : 2 ^ (n.log2 + 2) ≤ 2 ^ drop := Nat.pow_le_pow_right (by decide) (by omega)
    have d1 : n / 2 ^ (n.log2 + 2) = 0 := Nat.div_eq_of_lt (by omega)
    have m1 : n % 2 ^ (n.log2 + 2) = n := Nat.mod_eq_of_lt (by omega)
    have d2 : n / 2 ^ drop = 0 := Nat.div_eq_of_lt (by omega)
    have m2 : n % 2 ^ drop = n := Nat.mod_eq_of_lt (by omega)
    rw [d1, m1, d2, m2]
    have f1 : decide (2 ^ (n.log2 + 2) < 2 * n) = false := by simp; omega
    have f2 : decide (2 ^ drop < 2 * n) = false := by simp; omega
    rw [f1, f2]; simp

theorem rne_lo (n drop : Nat) : 2 * n ≤ 2 * (rne n drop * 2 ^ drop) + 2 ^ drop := by
  unfold rne
  have hd := Nat.div_add_mod n (2 ^ drop)
  have hp : 0 < 2 ^ drop := Nat.two_pow_pos _
  have hm := Nat.mod_lt n hp
  generalize n / 2 ^ drop = q at *
  generalize n % 2 ^ drop = r at *
  generalize 2 ^ drop = g at *
  subst hd
  rw [Nat.add_mul, Nat.mul_comm q g]
  by_cases h1 : g < 2 * r
  · simp [h1]; omega
  · have : 2 * r ≤ g := by omega
    omega
theorem rne_hi (n drop : Nat) : 2 * (rne n drop * 2 ^ drop) ≤ 2 * n + 2 ^ drop := by
  unfold rne
  have hd := Nat.div_add_mod n (2 ^ drop)
  have hp : 0 < 2 ^ drop := Nat.two_pow_pos _
  have hm := Nat.mod_lt n hp
  generalize n / 2 ^ drop = q at *
  generalize n % 2 ^ drop = r at *
  generalize 2 ^ drop = g at *
  subst hd
  rw [Nat.add_mul, Nat.mul_comm q g]
  by_cases h1 : g < 2 * r
  · simp [h1]; omega
  · by_cases h2 : g = 2 * r
    · cases h3 : (q % 2 == 1)
      · simp [h1]; omega
      · simp [h2]; omega
    · simp [h1, h2]; omega
/-- What divides is not rounded. -/
theorem rne_exact (k drop : Nat) : rne (k * 2 ^ drop) drop = k := by
  unfold rne
  have hp : 0 < 2 ^ drop := Nat.two_pow_pos _
  rw [Nat.mul_div_cancel _ hp, Nat.mul_mod_left]
  have f1 : decide (2 ^ drop < 2 * 0) = false := by simp
  have f2 : decide (2 ^ drop = 2 * 0) = false := by simp
  rw [f1, f2]; simp
theorem rne_zero (n : Nat) : rne n 0 = n := by
  have := rne_exact n 0
  simpa using this
theorem rne_mono {m n : Nat} (h : m ≤ n) (drop : Nat) : rne m drop ≤ rne n drop := by
  have hp : 0 < 2 ^ drop := Nat.two_pow_pos _
  unfold rne
  have h1 : m / 2 ^ drop ≤ n / 2 ^ drop := Nat.div_le_div_right h
  rcases Nat.lt_or_ge (m / 2 ^ drop) (n / 2 ^ drop) with h2 | h2
  · have : ∀ b : Bool, b.toNat ≤ 1 := by intro b; cases b <;> decide
    have := this (decide (2 ^ drop < 2 * (m % 2 ^ drop)) || (decide (2 ^ drop = 2 * (m % 2 ^ drop)) && m / 2 ^ drop % 2 == 1))
    omega
  · have h3 : m / 2 ^ drop = n / 2 ^ drop := Nat.le_antisymm h1 h2
    have h4 : m % 2 ^ drop ≤ n % 2 ^ drop := by
      have a := Nat.div_add_mod m (2 ^ drop)
      have b := Nat.div_add_mod n (2 ^ drop)
      rw [h3] at a
      omega
    rw [h3]
    refine Nat.add_le_add_left ?_ _
    generalize m % 2 ^ drop = r at *
    generalize n % 2 ^ drop = s at *
    generalize 2 ^ drop = g at *
    by_cases c1 : g < 2 * r
    · have c2 : g < 2 * s := by omega
      simp [c1, c2]
    · by_cases c3 : g = 2 * r
      · by_cases c2 : g < 2 * s
        · simp [c2]; exact Bool.toNat_le _
        · have : s = r := by omega
          subst this; exact Nat.le_refl _
      · simp [c1, c3]

/-- The place of the last digit that is kept. -/
def lastP (m : Nat) (p : Int) : Int := max (p + m.log2 - 52) (-1074)
/-- The digits that are kept. -/
def keptP (m : Nat) (p : Int) : Nat := rne (m <<< (p - lastP m p).toNat) (lastP m p - p).toNat

theorem nearest_eq (neg : Bool) (m : Nat) (p : Int) (h : m ≠ 0) :
    D64.nearest neg m p = D64.word neg (min ((lastP m p + 1074).toNat * BN + keptP m p) IR) := by
  unfold Format.nearest
  rw [if_neg h]
  simp only [leastPlace_eq, binade_eq, infRung_eq, cut_even]
  have : (D64.fractionBits : Int) = 52 := rfl
  rw [this]
  unfold keptP
  have e : lastP m p - -1074 = lastP m p + 1074 := by omega
  show D64.word neg (min ((lastP m p - -1074).toNat * BN + _) IR) = _
  rw [e]
  rfl

theorem log2_spec (m : Nat) (h : m ≠ 0) : 2 ^ m.log2 ≤ m ∧ m < 2 ^ (m.log2 + 1) := ⟨Nat.log2_self_le h, Nat.lt_log2_self⟩

end Sedge
end
section
set_option linter.unusedSimpArgs false
set_option linter.unusedVariables false
namespace Sedge
open Ieee

def p2 (k : Int) : Rat := (2 : Rat) ^ k
theorem p2_pos (k : Int) : 0 < p2 k := Rat.zpow_pos (by decide)
theorem p2_add (j k : Int) : p2 (j + k) = p2 j * p2 k := Rat.zpow_add (by decide) j k
theorem p2_zero : p2 0 = 1 := Rat.zpow_zero 2
theorem p2_one : p2 1 = 2 := Rat.zpow_one 2
theorem p2_nat (n : Nat) : p2 n = ((2 ^ n : Nat) : Rat) := by
  unfold p2; rw [Rat.zpow_natCast, Rat.natCast_pow]; rfl
theorem p2_succ (k : Int) : p2 (k + 1) = 2 * p2 k := by rw [p2_add, p2_one, Rat.mul_comm]
theorem p2_mono {j k : Int} (h : j ≤ k) : p2 j ≤ p2 k := by
  obtain ⟨n, rfl⟩ : ∃ n : Nat, k = j + n := ⟨(k - j).toNat, by omega⟩
  rw [p2_add, p2_nat]
  have h1 : (1 : Rat) ≤ ((2 ^ n : Nat) : Rat) := by
    have : 1 ≤ 2 ^ n := Nat.two_pow_pos n
    have := Rat.natCast_le_natCast.2 this
    simpa using this
  have := Rat.mul_le_mul_of_nonneg_left h1 (Rat.le_of_lt (p2_pos j))
  grind
theorem p2_lt {j k : Int} (h : j < k) : p2 j < p2 k := by
  have h1 : p2 (j + 1) ≤ p2 k := p2_mono (by omega)
  rw [p2_succ] at h1
  have := p2_pos j
  grind
theorem p2_inv (k : Int) : p2 k * p2 (-k) = 1 := by rw [← p2_add, show k + -k = 0 by omega, p2_zero]
theorem p2_sub_mul (j k : Int) : p2 (j - k) * p2 k = p2 j := by rw [← p2_add, show j - k + k = j by omega]

/-- What a word is worth (0 of what is not finite). -/
def sgn (s : Bool) : Rat := if s then -1 else 1
def dat (s : Bool) (m : Nat) (p : Int) : Rat := sgn s * ((m : Rat) * p2 p)
def val (b : Nat) : Rat := match D64.read b with
  | .number s m p => dat s m p
  | _ => 0
/-- Finite. -/
def fin (b : Nat) : Bool := match D64.read b with
  | .number .. => true
  | _ => false

theorem abs_sgn_mul (s : Bool) (x : Rat) : (sgn s * x).abs = x.abs := by
  cases s
  · simp [sgn]
  · have : sgn true * x = -x := by simp [sgn]; grind
    rw [this, Rat.abs_neg]

/-! keptP and lastP. -/
theorem lastP_ge (m : Nat) (p : Int) : -1074 ≤ lastP m p := Int.le_max_right _ _
theorem lastP_ge' (m : Nat) (p : Int) : p + m.log2 - 52 ≤ lastP m p := Int.le_max_left _ _
theorem lastP_or (m : Nat) (p : Int) : lastP m p = p + m.log2 - 52 ∨ (lastP m p = -1074 ∧ p + m.log2 - 52 ≤ -1074) := by
  unfold lastP; omega

/-- In units of 2^lastP: the numerator. -/
def numP (m : Nat) (p : Int) : Nat := m <<< (p - lastP m p).toNat
def dropP (m : Nat) (p : Int) : Nat := (lastP m p - p).toNat

theorem numP_val (m : Nat) (p : Int) : (numP m p : Rat) * p2 (lastP m p) = (m : Rat) * p2 p * (2 ^ dropP m p : Nat) := by
  unfold numP dropP
  rw [Nat.shiftLeft_eq, Rat.natCast_mul, ← p2_nat, ← p2_nat]
  have : (p2 ((p - lastP m p).toNat : Nat)) * p2 (lastP m p) = p2 p * p2 ((lastP m p - p).toNat : Nat) := by
    rw [← p2_add, ← p2_add]; congr 1; omega
  grind

/-- How far the kept digits are from the number: half a unit at most. -/
theorem kept_err (m : Nat) (p : Int) : ((keptP m p : Rat) * p2 (lastP m p) - (m : Rat) * p2 p).abs ≤ p2 (lastP m p - 1) := by
  have hlo := rne_lo (numP m p) (dropP m p)
  have hhi := rne_hi (numP m p) (dropP m p)
  have hk : rne (numP m p) (dropP m p) = keptP m p := rfl
  rw [hk] at hlo hhi
  have hv := numP_val m p
  have hg : 0 < ((2 ^ dropP m p : Nat) : Rat) := Rat.natCast_pos.2 (Nat.two_pow_pos _)
  have hlo' := Rat.natCast_le_natCast.2 hlo
  have hhi' := Rat.natCast_le_natCast.2 hhi
  simp only [Rat.natCast_add, Rat.natCast_mul] at hlo' hhi'
  have h2 : ((2 : Nat) : Rat) = 2 := rfl
  rw [h2] at hlo' hhi'
  have hu := p2_pos (lastP m p)
  have hu1 : 2 * p2 (lastP m p - 1) = p2 (lastP m p) := by rw [← p2_succ]; congr 1; omega
  generalize ((2 ^ dropP m p : Nat) : Rat) = g at *
  generalize (keptP m p : Rat) = k at *
  generalize (numP m p : Rat) = n at *
  generalize p2 (lastP m p) = u at *
  generalize (m : Rat) * p2 p = x at *
  generalize p2 (lastP m p - 1) = h at *
  -- n u = x g; 2 n ≤ 2 k g + g; 2 k g ≤ 2 n + g
  have a1 : 2 * n * u ≤ (2 * (k * g) + g) * u := Rat.mul_le_mul_of_nonneg_right hlo' (Rat.le_of_lt hu)
  have a2 : 2 * (k * g) * u ≤ (2 * n + g) * u := Rat.mul_le_mul_of_nonneg_right hhi' (Rat.le_of_lt hu)
  have b1 : g * (2 * x) ≤ g * (2 * (k * u) + u) := by grind
  have b2 : g * (2 * (k * u)) ≤ g * (2 * x + u) := by grind
  have c1 := Rat.le_of_mul_le_mul_left b1 hg
  have c2 := Rat.le_of_mul_le_mul_left b2 hg
  rcases Rat.le_total (a := 0) (b := k * u - x) with h0 | h0
  · rw [Rat.abs_of_nonneg h0]; grind
  · rw [Rat.abs_of_nonpos h0]; grind

theorem kept_le (m : Nat) (p : Int) (h : m ≠ 0) : keptP m p ≤ 2 ^ 53 := by
  -- m 2^p < 2^(log2 m + 1 + p) ≤ 2^(lastP + 53)
  have hl := (log2_spec m h).2
  have hle : numP m p ≤ 2 ^ 53 * 2 ^ dropP m p := by
    unfold numP dropP
    rw [Nat.shiftLeft_eq, ← Nat.pow_add]
    have h1 : m * 2 ^ (p - lastP m p).toNat ≤ 2 ^ (m.log2 + 1) * 2 ^ (p - lastP m p).toNat := Nat.mul_le_mul_right _ (Nat.le_of_lt hl)
    rw [← Nat.pow_add] at h1
    refine Nat.le_trans h1 (Nat.pow_le_pow_right (by decide) ?_)
    have := lastP_ge' m p
    omega
  have := rne_mono hle (dropP m p)
  rw [rne_exact] at this
  exact this
theorem kept_ge (m : Nat) (p : Int) (h : m ≠ 0) (hn : lastP m p = p + m.log2 - 52) : 2 ^ 52 ≤ keptP m p := by
  have hl := (log2_spec m h).1
  have hle : 2 ^ 52 * 2 ^ dropP m p ≤ numP m p := by
    unfold numP dropP
    rw [Nat.shiftLeft_eq, ← Nat.pow_add]
    have h1 : 2 ^ m.log2 * 2 ^ (p - lastP m p).toNat ≤ m * 2 ^ (p - lastP m p).toNat := Nat.mul_le_mul_right _ hl
    rw [← Nat.pow_add] at h1
    refine Nat.le_trans (Nat.pow_le_pow_right (by decide) ?_) h1
    omega
  have := rne_mono hle (dropP m p)
  rw [rne_exact] at this
  exact this

theorem BN_eq : BN = 2 ^ 52 := by decide +kernel
theorem IR_eq : IR = 2046 * BN + BN := by decide +kernel
theorem SW_eq : SW = 2048 * BN := by decide +kernel

/-- A word below infinity, of kept digits k at place l, is worth k 2^l. -/
theorem read_kept (s : Bool) (l : Int) (k : Nat) (hl : -1074 ≤ l) (hk : k ≤ 2 ^ 53) (hn : 2 ^ 52 ≤ k ∨ l = -1074)
    (hf : (l + 1074).toNat * BN + k < IR) :
    ∃ m q, D64.read (D64.word s ((l + 1074).toNat * BN + k)) = .number s m q ∧ (m : Rat) * p2 q = (k : Rat) * p2 l := by
  have hlt : (l + 1074).toNat * BN + k < SW := Nat.lt_trans hf (by decide +kernel)
  rw [read_word s _ hlt]
  have hb : BN = 2 ^ 52 := BN_eq
  have hb0 : 0 < BN := by decide +kernel
  by_cases h1 : (l + 1074).toNat * BN + k < BN
  · rw [if_pos h1]
    have hl0 : (l + 1074).toNat = 0 := by
      rcases Nat.eq_zero_or_pos (l + 1074).toNat with h | h
      · exact h
      · have : BN ≤ (l + 1074).toNat * BN := Nat.le_mul_of_pos_left _ h
        omega
    have : l = -1074 := by omega
    refine ⟨_, _, rfl, ?_⟩
    rw [hl0, Nat.zero_mul, Nat.zero_add, this]
  · rw [if_neg h1, if_pos hf]
    refine ⟨_, _, rfl, ?_⟩
    have h53 : (2 : Nat) ^ 53 = 2 * BN := by rw [hb]
    have hkb : BN ≤ k ∨ (l + 1074).toNat = 0 := by
      rcases hn with h | h
      · left; omega
      · right; omega
    have hk1 : BN ≤ k := by
      rcases hkb with h | h
      · exact h
      · rw [h, Nat.zero_mul, Nat.zero_add] at h1; omega
    by_cases hk2 : k < 2 * BN
    · have e1 : ((l + 1074).toNat * BN + k) % BN = k - BN := by
        rw [Nat.add_comm, Nat.add_mul_mod_self_right]
        have : k = BN + (k - BN) := by omega
        rw [this, Nat.add_mod_left, Nat.mod_eq_of_lt (by omega)]; omega
      have e2 : ((l + 1074).toNat * BN + k) / BN = (l + 1074).toNat + 1 := by
        rw [Nat.add_comm, Nat.add_mul_div_right _ _ hb0]
        have : k / BN = 1 := by
          apply Nat.div_eq_of_lt_le <;> omega
        omega
      rw [e1, e2]
      have e3 : BN + (k - BN) = k := by omega
      have e4 : (-1074 + (((l + 1074).toNat + 1 - 1 : Nat) : Int)) = l := by omega
      rw [e3, e4]
    · have hk3 : k = 2 * BN := by omega
      have e1 : ((l + 1074).toNat * BN + k) % BN = 0 := by
        rw [hk3, ← Nat.add_mul, Nat.mul_mod_left]
      have e2 : ((l + 1074).toNat * BN + k) / BN = (l + 1074).toNat + 2 := by
        rw [hk3, ← Nat.add_mul, Nat.mul_div_cancel _ hb0]
      rw [e1, e2, hk3]
      have e4 : (-1074 + (((l + 1074).toNat + 2 - 1 : Nat) : Int)) = l + 1 := by omega
      rw [e4, p2_succ, Nat.add_zero, Rat.natCast_mul]
      have h2 : ((2 : Nat) : Rat) = 2 := rfl
      rw [h2]
      grind

/-- THE NEAREST: if finite, it is within half a unit. -/
theorem nearest_err (s : Bool) (m : Nat) (p : Int) (h : m ≠ 0) (hf : fin (D64.nearest s m p) = true) :
    (val (D64.nearest s m p) - dat s m p).abs ≤ p2 (lastP m p - 1) ∧ val (D64.nearest s m p) = dat s (keptP m p) (lastP m p) := by
  rw [nearest_eq s m p h] at hf ⊢
  have hlt : (lastP m p + 1074).toNat * BN + keptP m p < IR := by
    rcases Nat.lt_or_ge ((lastP m p + 1074).toNat * BN + keptP m p) IR with h1 | h1
    · exact h1
    · rw [Nat.min_eq_right h1] at hf
      unfold fin at hf
      rw [read_word s IR (by decide +kernel), if_neg (by decide +kernel), if_neg (by decide +kernel), if_pos rfl] at hf
      cases hf
  rw [Nat.min_eq_left (Nat.le_of_lt hlt)] at hf ⊢
  have hor : 2 ^ 52 ≤ keptP m p ∨ lastP m p = -1074 := by
    rcases lastP_or m p with h1 | h1
    · exact .inl (kept_ge m p h h1)
    · exact .inr h1.1
  obtain ⟨m', q, hr, hv⟩ := read_kept s (lastP m p) (keptP m p) (lastP_ge m p) (kept_le m p h) hor hlt
  have hval : val (D64.word s ((lastP m p + 1074).toNat * BN + keptP m p)) = dat s (keptP m p) (lastP m p) := by
    unfold val
    rw [hr]
    show sgn s * (_ * _) = sgn s * (_ * _)
    rw [hv]
  refine ⟨?_, hval⟩
  rw [hval]
  unfold dat
  have : sgn s * (↑(keptP m p) * p2 (lastP m p)) - sgn s * (↑m * p2 p) = sgn s * (↑(keptP m p) * p2 (lastP m p) - ↑m * p2 p) := by grind
  rw [this, abs_sgn_mul]
  exact kept_err m p

end Sedge
end
section
set_option linter.unusedSimpArgs false
set_option linter.unusedVariables false
namespace Sedge
open Ieee

theorem read_number_or (b : Nat) : (∃ s m p, D64.read b = .number s m p) ∨ (∃ s, D64.read b = .infinity s) ∨ (∃ s t, D64.read b = .nan s t) := by
  cases h : D64.read b with
  | number s m p => exact .inl ⟨_, _, _, rfl⟩
  | infinity s => exact .inr (.inl ⟨_, rfl⟩)
  | nan s t => exact .inr (.inr ⟨_, _, rfl⟩)

theorem fin_iff (b : Nat) : fin b = true ↔ ∃ s m p, D64.read b = .number s m p := by
  unfold fin
  rcases read_number_or b with ⟨s, m, p, h⟩ | ⟨s, h⟩ | ⟨s, t, h⟩ <;> simp [h]
theorem val_of {b : Nat} {s : Bool} {m : Nat} {p : Int} (h : D64.read b = .number s m p) : val b = dat s m p := by
  unfold val; rw [h]

theorem fin_of_read {b : Nat} {s : Bool} {m : Nat} {p : Int} (h : D64.read b = .number s m p) : fin b = true := (fin_iff b).2 ⟨_, _, _, h⟩
theorem fin_notnan {b : Nat} (h : fin b = true) : isNan b = false := by
  obtain ⟨s, m, p, h⟩ := (fin_iff b).1 h
  unfold isNan; rw [h]; rfl
theorem fin_QN : fin QN = false := by decide +kernel
theorem fin_inf (s : Bool) : fin (D64.write (.infinity s)) = false := by cases s <;> decide +kernel
theorem fin_canon (b : Nat) : fin (canon b) = fin b := by
  cases h : isNan b
  · rw [canon_not h]
  · rw [canon_nan h, fin_QN]
    cases hf : fin b
    · rfl
    · rw [fin_notnan hf] at h; cases h
theorem val_canon {b : Nat} (h : fin b = true) : val (canon b) = val b := by rw [canon_not (fin_notnan h)]

theorem dat_zero (s : Bool) (p : Int) : dat s 0 p = 0 := by unfold dat; simp
theorem word_zero (s : Bool) : val (D64.word s 0) = 0 ∧ fin (D64.word s 0) = true := by
  have h : D64.read (D64.word s 0) = .number s 0 (-1074) := by
    rw [read_word s 0 (by decide +kernel), if_pos (by decide +kernel)]
  exact ⟨by rw [val_of h, dat_zero], fin_of_read h⟩

def U : Rat := p2 (-53)
def ETA : Rat := p2 (-1075)
theorem U_pos : 0 < U := p2_pos _
theorem ETA_pos : 0 < ETA := p2_pos _

theorem dat_abs (s : Bool) (m : Nat) (p : Int) : (dat s m p).abs = (m : Rat) * p2 p := by
  unfold dat
  rw [abs_sgn_mul, Rat.abs_of_nonneg (Rat.mul_nonneg Rat.natCast_nonneg (Rat.le_of_lt (p2_pos p)))]

theorem half_unit (m : Nat) (p : Int) (h : m ≠ 0) : p2 (lastP m p - 1) ≤ U * ((m : Rat) * p2 p) + ETA := by
  have hm : 0 ≤ (m : Rat) * p2 p := Rat.mul_nonneg Rat.natCast_nonneg (Rat.le_of_lt (p2_pos p))
  rcases lastP_or m p with h1 | h1
  · rw [h1]
    have h2 : p2 (p + m.log2 - 52 - 1) = U * (p2 p * p2 (m.log2 : Nat)) := by
      unfold U; rw [← p2_add, ← p2_add]; congr 1; omega
    rw [h2]
    have h3 : p2 (m.log2 : Nat) ≤ (m : Rat) := by rw [p2_nat]; exact Rat.natCast_le_natCast.2 (log2_spec m h).1
    have h4 := Rat.mul_le_mul_of_nonneg_left h3 (Rat.le_of_lt (p2_pos p))
    have h5 := Rat.mul_le_mul_of_nonneg_left h4 (Rat.le_of_lt U_pos)
    have := ETA_pos
    grind
  · rw [h1.1]
    have := Rat.mul_nonneg (Rat.le_of_lt U_pos) hm
    show ETA ≤ _
    grind

/-- WHAT IS WRITTEN, IF FINITE, IS CLOSE TO WHAT WAS MEANT. -/
theorem write_err (s : Bool) (m : Nat) (p : Int) (hf : fin (D64.write (.number s m p)) = true) :
    (val (D64.write (.number s m p)) - dat s m p).abs ≤ U * (dat s m p).abs + ETA := by
  by_cases h : m = 0
  · subst h
    have e : D64.write (.number s 0 p) = D64.word s 0 := by
      show D64.nearest s 0 p = _; unfold Format.nearest; rw [if_pos rfl]
    rw [e, (word_zero s).1, dat_zero]
    have := ETA_pos
    have e1 : ((0 : Rat) - 0).abs = 0 := by decide +kernel
    have e2 : (0 : Rat).abs = 0 := by decide +kernel
    rw [e1, e2]
    grind
  · have h1 := (nearest_err s m p h hf).1
    have h2 := half_unit m p h
    rw [dat_abs]
    exact Rat.le_trans h1 h2

/-! SUMS -/
theorem signed_val (s : Bool) (m k : Nat) (p : Int) : ((signed s m k : Int) : Rat) * p2 p = dat s m (p + k) := by
  unfold signed dat
  cases s
  · simp only [Bool.false_eq_true, if_false, sgn]
    rw [Nat.shiftLeft_eq, Rat.intCast_natCast, Rat.natCast_mul, ← p2_nat, p2_add]
    grind
  · simp only [if_true, sgn]
    rw [Nat.shiftLeft_eq, Rat.intCast_neg, Rat.intCast_natCast, Rat.natCast_mul, ← p2_nat, p2_add]
    grind

theorem natAbs_val (z : Int) (b : Bool) (hb : z ≠ 0 → b = decide (z < 0)) (p : Int) : dat b z.natAbs p = (z : Rat) * p2 p := by
  unfold dat
  rcases Int.lt_trichotomy z 0 with h | h | h
  · rw [hb (by omega), decide_eq_true h]
    have e : (z : Rat) = -((z.natAbs : Nat) : Rat) := by
      have : z = -((z.natAbs : Nat) : Int) := by omega
      rw [← Rat.intCast_natCast, ← Rat.intCast_neg, ← this]
    rw [e]; simp only [sgn, if_true]; grind
  · subst h; simp
  · rw [hb (by omega), decide_eq_false (by omega)]
    have e : (z : Rat) = ((z.natAbs : Nat) : Rat) := by
      have : z = ((z.natAbs : Nat) : Int) := by omega
      rw [← Rat.intCast_natCast, ← this]
    rw [e]; simp only [sgn, Bool.false_eq_true, if_false]; grind

theorem sum_val {s t : Bool} {m n : Nat} {i j : Int} : ∃ c z b, (Datum.number s m i).sum (.number t n j) = some (.number c z b) ∧ dat c z b = dat s m i + dat t n j := by
  refine ⟨_, _, _, rfl, ?_⟩
  rw [natAbs_val _ _ (by intro h; simp [h])]
  rw [Rat.intCast_add, Rat.add_mul, signed_val, signed_val]
  congr 2 <;> omega

theorem fin_getD {o : Option Datum} (h : fin ((o.map D64.write).getD QN) = true) (hn : ∀ d, o = some d → d.isNaN = false) : ∃ s m p, o = some (.number s m p) := by
  cases o with
  | none => simp only [Option.map, Option.getD, fin_QN] at h; cases h
  | some d =>
    cases d with
    | number s m p => exact ⟨s, m, p, rfl⟩
    | infinity s => simp only [Option.map, Option.getD, fin_inf] at h; cases h
    | nan s t => have := hn _ rfl; cases this
theorem sum_number {d e : Datum} {s : Bool} {m : Nat} {p : Int} (h : d.sum e = some (.number s m p)) : (∃ a b c, d = .number a b c) ∧ (∃ a b c, e = .number a b c) := by
  cases d <;> cases e <;> simp only [Datum.sum] at h <;> first | exact ⟨⟨_, _, _, rfl⟩, ⟨_, _, _, rfl⟩⟩ | cases h | (split at h <;> cases h)
theorem product_number {d e : Datum} {s : Bool} {m : Nat} {p : Int} (h : d.product e = some (.number s m p)) : (∃ a b c, d = .number a b c) ∧ (∃ a b c, e = .number a b c) := by
  cases d <;> cases e <;> simp only [Datum.product] at h <;> first | exact ⟨⟨_, _, _, rfl⟩, ⟨_, _, _, rfl⟩⟩ | cases h | (split at h <;> cases h)
theorem opposite_number {d : Datum} {s : Bool} {m : Nat} {p : Int} (h : d.opposite = .number s m p) : ∃ a b c, d = .number a b c := by
  cases d <;> simp only [Datum.opposite] at h <;> first | exact ⟨_, _, _, rfl⟩ | cases h

theorem fadd_fin {x y : Nat} (h : fin (fadd x y) = true) : fin x = true ∧ fin y = true := by
  obtain ⟨s, m, p, ho⟩ := fin_getD h (fun d hd => sum_notnan hd)
  obtain ⟨h1, h2⟩ := sum_number ho
  exact ⟨(fin_iff _).2 h1, (fin_iff _).2 h2⟩

theorem fadd_read {x y : Nat} (hx : fin x = true) (hy : fin y = true) : ∃ c z b, fadd x y = D64.write (.number c z b) ∧ dat c z b = val x + val y := by
  obtain ⟨s, m, p, hx⟩ := (fin_iff x).1 hx
  obtain ⟨s', m', p', hy⟩ := (fin_iff y).1 hy
  obtain ⟨c, z, b, h1, h2⟩ := sum_val (s := s) (t := s') (m := m) (n := m') (i := p) (j := p')
  refine ⟨c, z, b, ?_, ?_⟩
  · unfold fadd Format.add; rw [hx, hy, h1]; rfl
  · rw [h2, val_of hx, val_of hy]

theorem fadd_err {x y : Nat} (h : fin (fadd x y) = true) : (val (fadd x y) - (val x + val y)).abs ≤ U * (val x + val y).abs + ETA := by
  obtain ⟨hx, hy⟩ := fadd_fin h
  obtain ⟨c, z, b, h1, h2⟩ := fadd_read hx hy
  rw [h1] at h ⊢
  rw [← h2]
  exact write_err c z b h

/-! PRODUCTS -/
theorem natCast_mul' (m n : Nat) : ((m * n : Nat) : Rat) = (m : Rat) * n := Rat.natCast_mul m n
theorem sgn_xor (s t : Bool) : sgn (s ^^ t) = sgn s * sgn t := by cases s <;> cases t <;> decide +kernel
theorem product_val (s t : Bool) (m n : Nat) (i j : Int) : dat (s ^^ t) (m * n) (i + j) = dat s m i * dat t n j := by
  unfold dat
  rw [natCast_mul', p2_add, sgn_xor]
  grind

theorem fmul_fin {x y : Nat} (h : fin (fmul x y) = true) : fin x = true ∧ fin y = true := by
  obtain ⟨s, m, p, ho⟩ := fin_getD h (fun d hd => product_notnan hd)
  obtain ⟨h1, h2⟩ := product_number ho
  exact ⟨(fin_iff _).2 h1, (fin_iff _).2 h2⟩

theorem fmul_read {x y : Nat} (hx : fin x = true) (hy : fin y = true) : ∃ c z b, fmul x y = D64.write (.number c z b) ∧ dat c z b = val x * val y := by
  obtain ⟨s, m, p, hx⟩ := (fin_iff x).1 hx
  obtain ⟨s', m', p', hy⟩ := (fin_iff y).1 hy
  refine ⟨s ^^ s', m * m', p + p', ?_, ?_⟩
  · unfold fmul Format.mul; rw [hx, hy]; rfl
  · rw [product_val, val_of hx, val_of hy]

theorem fmul_err {x y : Nat} (h : fin (fmul x y) = true) : (val (fmul x y) - val x * val y).abs ≤ U * (val x * val y).abs + ETA := by
  obtain ⟨hx, hy⟩ := fmul_fin h
  obtain ⟨c, z, b, h1, h2⟩ := fmul_read hx hy
  rw [h1] at h ⊢
  rw [← h2]
  exact write_err c z b h

/-! DIFFERENCES: y's sign turned. -/
theorem dat_not (s : Bool) (m : Nat) (p : Int) : dat (!s) m p = - dat s m p := by
  unfold dat
  cases s <;> simp only [sgn, Bool.not_true, Bool.not_false, Bool.false_eq_true, if_true, if_false] <;> grind
theorem fsub_fin {x y : Nat} (h : fin (fsub x y) = true) : fin x = true ∧ fin y = true := by
  obtain ⟨s, m, p, ho⟩ := fin_getD h (fun d hd => sum_notnan hd)
  obtain ⟨h1, a, b, c, h2⟩ := sum_number ho
  exact ⟨(fin_iff _).2 h1, (fin_iff _).2 (opposite_number h2)⟩
theorem fsub_read {x y : Nat} (hx : fin x = true) (hy : fin y = true) : ∃ c z b, fsub x y = D64.write (.number c z b) ∧ dat c z b = val x - val y := by
  obtain ⟨s, m, p, hx⟩ := (fin_iff x).1 hx
  obtain ⟨s', m', p', hy⟩ := (fin_iff y).1 hy
  obtain ⟨c, z, b, h1, h2⟩ := sum_val (s := s) (t := !s') (m := m) (n := m') (i := p) (j := p')
  refine ⟨c, z, b, ?_, ?_⟩
  · unfold fsub Format.sub; rw [hx, hy]; simp only [Datum.opposite]; rw [h1]; rfl
  · rw [h2, val_of hx, val_of hy, dat_not]; grind
theorem fsub_err {x y : Nat} (h : fin (fsub x y) = true) : (val (fsub x y) - (val x - val y)).abs ≤ U * (val x - val y).abs + ETA := by
  obtain ⟨hx, hy⟩ := fsub_fin h
  obtain ⟨c, z, b, h1, h2⟩ := fsub_read hx hy
  rw [h1] at h ⊢
  rw [← h2]
  exact write_err c z b h

end Sedge
end
section
/-
  Plain: what a number times a power of 2 is, by words.
-/
set_option linter.unusedSimpArgs false
set_option linter.unusedVariables false
namespace Sedge
open Ieee
theorem log2_mul_pow (m k : Nat) (h : m ≠ 0) : (m * 2 ^ k).log2 = m.log2 + k := by
  have hp : 0 < 2 ^ k := Nat.two_pow_pos _
  have hm : m * 2 ^ k ≠ 0 := Nat.mul_ne_zero h (by omega)
  obtain ⟨h1, h2⟩ := log2_spec m h
  refine (Nat.log2_eq_iff hm).2 ⟨?_, ?_⟩
  · rw [Nat.pow_add]; exact Nat.mul_le_mul_right _ h1
  · rw [show m.log2 + k + 1 = m.log2 + 1 + k from by omega, Nat.pow_add]; exact Nat.mul_lt_mul_of_pos_right h2 hp
theorem rne_scale (m k D : Nat) : rne (m * 2 ^ k) (D + k) = rne m D := by
  have hp : 0 < 2 ^ k := Nat.two_pow_pos _
  unfold rne
  rw [Nat.pow_add, Nat.mul_div_mul_right _ _ hp, Nat.mul_mod_mul_right]
  generalize m % 2 ^ D = r
  generalize 2 ^ D = g
  generalize 2 ^ k = q at *
  have e1 : decide (g * q < 2 * (r * q)) = decide (g < 2 * r) := by
    rw [Bool.eq_iff_iff]; simp only [decide_eq_true_eq]
    rw [← Nat.mul_assoc]
    exact Nat.mul_lt_mul_right hp
  have e2 : decide (g * q = 2 * (r * q)) = decide (g = 2 * r) := by
    rw [Bool.eq_iff_iff]; simp only [decide_eq_true_eq]
    rw [← Nat.mul_assoc]
    exact ⟨fun h => Nat.eq_of_mul_eq_mul_right hp h, fun h => by rw [h]⟩
  rw [e1, e2]
theorem lastP_scale (m k : Nat) (p : Int) (h : m ≠ 0) : lastP (m * 2 ^ k) (p - k) = lastP m p := by
  unfold lastP; rw [log2_mul_pow m k h]; push_cast; congr 1; omega
theorem keptP_scale (m k : Nat) (p : Int) (h : m ≠ 0) : keptP (m * 2 ^ k) (p - k) = keptP m p := by
  unfold keptP; rw [lastP_scale m k p h]
  generalize lastP m p = L
  by_cases h1 : p ≤ L
  · obtain ⟨D, hD⟩ : ∃ D : Nat, L = p + D := ⟨(L - p).toNat, by omega⟩
    rw [show (p - ↑k - L).toNat = 0 by omega, show (L - (p - ↑k)).toNat = D + k by omega, show (p - L).toNat = 0 by omega, show (L - p).toNat = D by omega]
    simp only [Nat.shiftLeft_zero]
    exact rne_scale m k D
  · obtain ⟨u, hu⟩ : ∃ u : Nat, p = L + u := ⟨(p - L).toNat, by omega⟩
    rw [show (p - L).toNat = u by omega, show (L - p).toNat = 0 by omega, rne_zero]
    simp only [Nat.shiftLeft_eq]
    by_cases h2 : k ≤ u
    · rw [show (p - ↑k - L).toNat = u - k by omega, show (L - (p - ↑k)).toNat = 0 by omega, rne_zero, Nat.mul_assoc, ← Nat.pow_add, show k + (u - k) = u by omega]
    · rw [show (p - ↑k - L).toNat = 0 by omega, show (L - (p - ↑k)).toNat = k - u by omega, show m * 2 ^ k * 2 ^ 0 = m * 2 ^ u * 2 ^ (k - u) by
        rw [Nat.pow_zero, Nat.mul_one, Nat.mul_assoc, ← Nat.pow_add, show u + (k - u) = k by omega], rne_exact]
theorem nearest_scale (s : Bool) (m k : Nat) (p : Int) (h : m ≠ 0) : D64.nearest s (m * 2 ^ k) (p - k) = D64.nearest s m p := by
  rw [nearest_eq s m p h, nearest_eq s _ _ (Nat.mul_ne_zero h (by have := Nat.two_pow_pos k; omega)), lastP_scale m k p h, keptP_scale m k p h]
/-- Halved so often: what is left, the last digit that went, and whether one before it was 1. -/
def hvM (m t : Nat) : Nat := m / 2 ^ t
def hvH (m t : Nat) : Bool := decide (2 ^ t ≤ 2 * (m % 2 ^ t))
def hvL (m t : Nat) : Bool := decide (m % 2 ^ t ≠ 0) && decide (2 ^ t ≠ 2 * (m % 2 ^ t))
theorem hv_zero (m : Nat) : hvM m 0 = m ∧ hvH m 0 = false ∧ hvL m 0 = false := by
  refine ⟨by simp [hvM], ?_, ?_⟩
  · simp [hvH, Nat.mod_one]
  · simp [hvL, Nat.mod_one]
theorem hv_succ (m t : Nat) : hvM m (t + 1) = hvM m t / 2 ∧ hvH m (t + 1) = decide (hvM m t % 2 = 1) ∧ hvL m (t + 1) = (hvL m t || hvH m t) := by
  have hp : 0 < 2 ^ t := Nat.two_pow_pos _
  have h1 : m / 2 ^ (t + 1) = m / 2 ^ t / 2 := by rw [Nat.pow_succ, Nat.div_div_eq_div_mul]
  have h2 : m % 2 ^ (t + 1) = m % 2 ^ t + 2 ^ t * (m / 2 ^ t % 2) := by rw [Nat.pow_succ, Nat.mod_mul]
  have h3 := Nat.mod_lt m hp
  refine ⟨h1, ?_, ?_⟩
  · unfold hvH hvM; rw [h2, Nat.pow_succ]
    rcases Nat.mod_two_eq_zero_or_one (m / 2 ^ t) with h | h
    · rw [h]; simp; omega
    · rw [h]; simp; omega
  · unfold hvL hvH; rw [h2, Nat.pow_succ]
    generalize m % 2 ^ t = r at *
    generalize 2 ^ t = g at *
    rw [Bool.eq_iff_iff]
    rcases Nat.mod_two_eq_zero_or_one (m / g) with h | h
    · rw [h]; simp only [Nat.mul_zero, Nat.add_zero, Bool.and_eq_true, Bool.or_eq_true, decide_eq_true_eq]; omega
    · rw [h]; simp only [Nat.mul_one, Bool.and_eq_true, Bool.or_eq_true, decide_eq_true_eq]; omega
theorem hv_rne (m t : Nat) : rne m t = hvM m t + (hvH m t && (hvL m t || decide (hvM m t % 2 = 1))).toNat := by
  have hp : 0 < 2 ^ t := Nat.two_pow_pos _
  have h3 := Nat.mod_lt m hp
  unfold rne hvM hvH hvL
  congr 2
  generalize m % 2 ^ t = r at *
  generalize 2 ^ t = g at *
  rw [Bool.eq_iff_iff]
  simp only [Bool.and_eq_true, Bool.or_eq_true, decide_eq_true_eq, beq_iff_eq]
  omega
theorem log2_le_52 {m : Nat} (h0 : m ≠ 0) (h1 : m < 2 ^ 53) : m.log2 ≤ 52 := by
  have := (Nat.log2_lt h0).2 h1; omega
theorem log2_ge_52 {m : Nat} (h0 : m ≠ 0) (h1 : 2 ^ 52 ≤ m) : 52 ≤ m.log2 := (Nat.le_log2 h0).2 h1
/-- The digits and their place, as they stand before the end. -/
theorem nearest_at (s : Bool) (m : Nat) (e : Int) (t : Nat) (h0 : m ≠ 0) (h1 : m < 2 ^ 53) (h2 : 2 ^ 52 ≤ m ∨ e ≤ -1074) (h3 : -1074 ≤ e + t) (h4 : t ≠ 0 → e + t = -1074) :
    D64.nearest s m e = D64.word s (min ((e + t + 1074).toNat * BN + rne m t) IR) := by
  have hl : lastP m e = e + t := by
    obtain ⟨a, b⟩ := log2_spec m h0
    have hle : m.log2 ≤ 52 := log2_le_52 h0 h1
    unfold lastP
    rcases h2 with h2 | h2
    · have : m.log2 = 52 := by
        have := log2_ge_52 h0 h2; omega
      rw [this]
      by_cases ht : t = 0
      · subst ht; simp only [Int.natCast_zero, Int.add_zero] at *; omega
      · have := h4 ht; omega
    · by_cases ht : t = 0
      · subst ht; simp only [Int.natCast_zero, Int.add_zero] at *; omega
      · have := h4 ht; omega
  rw [nearest_eq s m e h0, hl]
  unfold keptP
  rw [hl, show (e - (e + ↑t)).toNat = 0 by omega, show (e + ↑t - e).toNat = t by omega, Nat.shiftLeft_zero]
/-- The word off digits and a place. -/
def makeW (s : Bool) (M : Nat) (e : Int) : Nat := D64.word s (min ((e + 1074).toNat * BN + M) IR)
theorem makeW_top (s : Bool) (e : Int) (he : -1074 ≤ e) : makeW s (2 ^ 53) e = makeW s (2 ^ 52) (e + 1) := by
  have : (e + 1074).toNat * BN + 2 ^ 53 = (e + 1 + 1074).toNat * BN + 2 ^ 52 := by unfold BN; omega
  unfold makeW; rw [this]
theorem makeW_inf (s : Bool) (M : Nat) (e : Int) (h : 2 ^ 52 ≤ M) (he : 972 ≤ e) : makeW s M e = D64.word s IR := by
  have : min ((e + 1074).toNat * BN + M) IR = IR := by unfold BN IR; omega
  unfold makeW; rw [this]
theorem makeW_low (s : Bool) (M : Nat) (h : M < 2 ^ 52) : makeW s M (-1074) = D64.word s M := by
  have : min ((-1074 + 1074 : Int).toNat * BN + M) IR = M := by unfold BN IR; omega
  unfold makeW; rw [this]
theorem makeW_mid (s : Bool) (M : Nat) (e : Int) (h : 2 ^ 52 ≤ M) (h2 : M < 2 ^ 53) (he : -1074 ≤ e) (he2 : e < 972) : makeW s M e = D64.word s ((e + 1075).toNat * BN + M - BN) := by
  have : min ((e + 1074).toNat * BN + M) IR = (e + 1075).toNat * BN + M - BN := by unfold BN IR; omega
  unfold makeW; rw [this]
theorem rne_small (m t : Nat) (h : 2 * m < 2 ^ t) : rne m t = 0 := by
  have h1 : m < 2 ^ t := by omega
  unfold rne
  rw [Nat.div_eq_of_lt h1, Nat.mod_eq_of_lt h1]
  have f1 : decide (2 ^ t < 2 * m) = false := by simp; omega
  have f2 : decide (2 ^ t = 2 * m) = false := by simp; omega
  rw [f1, f2]; rfl
theorem nearest_low (s : Bool) (m : Nat) (e : Int) (h0 : m ≠ 0) (h1 : m < 2 ^ 53) (h2 : e ≤ -1128) : D64.nearest s m e = D64.word s 0 := by
  obtain ⟨t, ht⟩ : ∃ t : Nat, e + t = -1074 := ⟨(-1074 - e).toNat, by omega⟩
  rw [nearest_at s m e t h0 h1 (.inr (by omega)) (by omega) (fun _ => ht), ht, rne_small]
  · rfl
  · have := Nat.pow_le_pow_right (n := 2) (by decide) (show 54 ≤ t by omega); omega
theorem nearest_high (s : Bool) (m : Nat) (e : Int) (h0 : m ≠ 0) (h1 : m < 2 ^ 53) (h2 : 1024 ≤ e) : D64.nearest s m e = D64.word s IR := by
  obtain ⟨a, b⟩ := log2_spec m h0
  have hle : m.log2 ≤ 52 := log2_le_52 h0 h1
  rw [nearest_eq s m e h0]
  have hl : 972 ≤ lastP m e := by unfold lastP; omega
  by_cases h5 : 973 ≤ lastP m e
  · have : min ((lastP m e + 1074).toNat * BN + keptP m e) IR = IR := by unfold BN IR; omega
    rw [this]
  · have h6 : lastP m e = 972 := by omega
    have h7 : e = 1024 ∧ m.log2 = 0 := by unfold lastP at h6; omega
    have h8 : m = 1 := by have := h7.2; rw [this] at a b; omega
    have h9 := h7.1
    subst h8; subst h9
    have : (lastP 1 1024 + 1074).toNat * BN + keptP 1 1024 = IR := by decide +kernel
    rw [this]; simp
/-- Halved down to its place. -/
theorem nearest_hv (s : Bool) (m : Nat) (e : Int) (t : Nat) (h0 : m ≠ 0) (h1 : m < 2 ^ 53) (h2 : 2 ^ 52 ≤ m ∨ e ≤ -1074) (h3 : -1074 ≤ e + t) (h4 : t ≠ 0 → e + t = -1074) :
    D64.nearest s m e = makeW s (hvM m t + (hvH m t && (hvL m t || decide (hvM m t % 2 = 1))).toNat) (e + t) := by
  rw [nearest_at s m e t h0 h1 h2 h3 h4, hv_rne]; rfl
/-- The exponent, held. -/
def kcl (k : Int) : Int := max (min k 5000) (-5000)
/-- x times 2^k. -/
def fscale (x : Nat) (k : Int) : Nat := if pKind x = 0 ∧ pMag x ≠ 0 then D64.nearest (pNeg x) (pMag x) (pExp x + kcl k) else x
end Sedge
end
section
/-
  Plain: what math.Ldexp does to a number's word.
-/
set_option linter.unusedSimpArgs false
set_option linter.unusedVariables false
namespace Sedge
open Ieee
theorem BN_eq' : BN = 2 ^ 52 := by decide +kernel
theorem fmul_num {x y : Nat} {s t : Bool} {m n : Nat} {p q : Int} (hx : D64.read x = .number s m p) (hy : D64.read y = .number t n q) : fmul x y = D64.nearest (s ^^ t) (m * n) (p + q) := by
  unfold fmul Format.mul; rw [hx, hy]; rfl
theorem read_one : D64.read 4607182418800017408 = .number false 4503599627370496 (-52) := by decide +kernel
theorem read_m53 : D64.read 4368491638549381120 = .number false 4503599627370496 (-105) := by decide +kernel
theorem read_p52 : D64.read 4841369599423283200 = .number false 4503599627370496 0 := by decide +kernel
theorem read_mid (s : Bool) (X f : Nat) (h1 : 1 ≤ X) (h2 : X ≤ 2046) (hf : f < BN) : D64.read (D64.word s (X * BN + f)) = .number s (BN + f) ((X : Int) - 1075) := by
  have hb : X * BN + f < SW := by unfold BN SW at *; omega
  have hd : (X * BN + f) / BN = X := by rw [Nat.mul_comm, Nat.mul_add_div (by decide +kernel), Nat.div_eq_of_lt hf, Nat.add_zero]
  have hm : (X * BN + f) % BN = f := by rw [Nat.mul_comm, Nat.mul_add_mod, Nat.mod_eq_of_lt hf]
  rw [read_word s _ hb, if_neg (by unfold BN; omega), if_pos (by unfold IR BN at *; omega), hd, hm]
  congr 1
  omega
/-- The end of Ldexp, by 1. -/
theorem ld_end1 (s : Bool) (X f : Nat) (e : Int) (h1 : 1 ≤ X) (h2 : X ≤ 2046) (hf : f < BN) (he : (X : Int) = e + 1023) : fmul 4607182418800017408 (D64.word s (X * BN + f)) = D64.nearest s (BN + f) (e - 52) := by
  rw [fmul_num read_one (read_mid s X f h1 h2 hf), ← nearest_scale s (BN + f) 52 (e - 52) (by unfold BN; omega)]
  have a1 : 4503599627370496 * (BN + f) = (BN + f) * 2 ^ 52 := by rw [Nat.mul_comm]
  have a2 : (-52 : Int) + ((X : Int) - 1075) = e - 52 - (52 : Nat) := by omega
  rw [a1, a2]; simp
/-- The end of Ldexp, by 2^-53. -/
theorem ld_end2 (s : Bool) (X f : Nat) (e : Int) (h1 : 1 ≤ X) (h2 : X ≤ 2046) (hf : f < BN) (he : (X : Int) = e + 53 + 1023) : fmul 4368491638549381120 (D64.word s (X * BN + f)) = D64.nearest s (BN + f) (e - 52) := by
  rw [fmul_num read_m53 (read_mid s X f h1 h2 hf), ← nearest_scale s (BN + f) 52 (e - 52) (by unfold BN; omega)]
  have a1 : 4503599627370496 * (BN + f) = (BN + f) * 2 ^ 52 := by rw [Nat.mul_comm]
  have a2 : (-105 : Int) + ((X : Int) - 1075) = e - 52 - (52 : Nat) := by omega
  rw [a1, a2]; simp
theorem ld_low (s : Bool) (f : Nat) (e : Int) (hf : f < BN) (he : e < -1075) : D64.nearest s (BN + f) (e - 52) = D64.word s 0 :=
  nearest_low s _ _ (by unfold BN; omega) (by unfold BN at *; omega) (by omega)
theorem ld_high (s : Bool) (f : Nat) (e : Int) (hf : f < BN) (he : 1023 < e) : D64.nearest s (BN + f) (e - 52) = D64.word s IR := by
  have h := nearest_hv s (BN + f) (e - 52) 0 (by unfold BN; omega) (by unfold BN at *; omega) (.inl (by unfold BN; omega)) (by omega) (fun h => absurd rfl h)
  rw [h, (hv_zero _).1, (hv_zero _).2.1]
  simp only [Bool.false_and, Bool.toNat_false, Nat.add_zero, Int.natCast_zero, Int.add_zero]
  exact makeW_inf s _ _ (by unfold BN; omega) (by omega)
theorem kept_of {A L : Nat} {p : Int} (h : lastP A p = p + L) : keptP A p = rne A L := by
  unfold keptP; rw [h, show (p - (p + (L : Int))).toNat = 0 by omega, show (p + (L : Int) - p).toNat = L by omega, Nat.shiftLeft_zero]
/-- A finite number that isn't 0, made normal: its word, and what it stands for. -/
theorem normal_of {x : Nat} (hx : x < 2 ^ 64) (hk : pKind x = 0) (h0 : pMag x ≠ 0) (he : expo x ≠ 0) :
    ∃ X f, 1 ≤ X ∧ X ≤ 2046 ∧ f < BN ∧ x = D64.word (pNeg x) (X * BN + f) ∧ ∀ k : Int, D64.nearest (pNeg x) (pMag x) (pExp x + k) = D64.nearest (pNeg x) (BN + f) (k + X - 1023 - 52) := by
  have h1 := expo_lt x
  have h2 : expo x ≠ 2047 := by
    intro h; unfold pKind at hk; rw [if_pos h] at hk; split at hk <;> cases hk
  refine ⟨expo x, frac x, by omega, by omega, frac_lt x, ?_, fun k => ?_⟩
  · have hr := rung_eq x
    unfold Format.word
    simp only [signWeight_eq]
    unfold pNeg
    by_cases h : x / SW = 1
    · rw [if_pos (by simpa using h), ← hr]
      have := Nat.div_add_mod x SW
      rw [h] at this; omega
    · rw [if_neg (by simpa using h), ← hr]
      have h3 : x / SW = 0 := by unfold SW at *; omega
      have := Nat.div_add_mod x SW
      rw [h3] at this; omega
  · have e1 : pMag x = BN + frac x := by unfold pMag; rw [if_neg h2, if_neg he, Nat.add_comm]
    have e2 : pExp x = (expo x : Int) - 1075 := by unfold pExp; rw [if_neg h2, if_neg he]
    rw [e1, e2]; congr 1; omega
theorem normal_sub {x : Nat} (hx : x < 2 ^ 64) (hk : pKind x = 0) (h0 : pMag x ≠ 0) (he : expo x = 0) :
    ∃ X f, 1 ≤ X ∧ X ≤ 2046 ∧ f < BN ∧ fmul x 4841369599423283200 = D64.word (pNeg x) (X * BN + f) ∧ ∀ k : Int, D64.nearest (pNeg x) (pMag x) (pExp x + k) = D64.nearest (pNeg x) (BN + f) (k - 52 + X - 1023 - 52) := by
  have e1 : pMag x = frac x := by unfold pMag; rw [if_neg (by omega), if_pos he]
  have e2 : pExp x = -1074 := by unfold pExp; rw [if_neg (by omega), if_pos he]
  have hr : D64.read x = .number (pNeg x) (frac x) (-1074) := by rw [read_eq x hx, if_pos hk, e1, e2]
  obtain ⟨m, hm⟩ : ∃ m, m = frac x := ⟨_, rfl⟩
  have hm0 : m ≠ 0 := by rw [hm, ← e1]; exact h0
  have hmb : m < BN := by rw [hm]; exact frac_lt x
  rw [e1, e2, fmul_num hr read_p52, ← hm, Bool.xor_false]
  obtain ⟨a, b⟩ := log2_spec m hm0
  obtain ⟨L, hL⟩ : ∃ L, L = m.log2 := ⟨_, rfl⟩
  have hL51 : L ≤ 51 := by
    have : m < 2 ^ 52 := by rw [← BN_eq']; exact hmb
    have := (Nat.log2_lt hm0).2 this; omega
  rw [← hL] at a b
  have hp : 2 ^ L * 2 ^ (52 - L) = 2 ^ 52 := by rw [← Nat.pow_add]; congr 1; omega
  have hM1 : 2 ^ 52 ≤ m * 2 ^ (52 - L) := by rw [← hp]; exact Nat.mul_le_mul_right _ a
  have hM2 : m * 2 ^ (52 - L) < 2 ^ 53 := by
    have : m * 2 ^ (52 - L) < 2 ^ (L + 1) * 2 ^ (52 - L) := Nat.mul_lt_mul_of_pos_right b (Nat.two_pow_pos _)
    rw [← Nat.pow_add, show L + 1 + (52 - L) = 53 by omega] at this; exact this
  obtain ⟨f, hf⟩ : ∃ f, m * 2 ^ (52 - L) = BN + f := ⟨m * 2 ^ (52 - L) - BN, by rw [BN_eq']; omega⟩
  have hfb : f < BN := by rw [BN_eq'] at *; omega
  refine ⟨L + 1, f, by omega, by omega, hfb, ?_, fun k => ?_⟩
  · rw [Int.add_zero]
    have e3 : m * 4503599627370496 = m * 2 ^ 52 := by rw [show (2 : Nat) ^ 52 = 4503599627370496 from by decide]
    obtain ⟨A, hA⟩ : ∃ A, A = m * 4503599627370496 := ⟨_, rfl⟩
    have hA0 : A ≠ 0 := by omega
    have hA2 : A = (BN + f) * 2 ^ L := by rw [hA, e3, ← hf, Nat.mul_assoc, ← Nat.pow_add, show 52 - L + L = 52 by omega]
    have hAl : A.log2 = L + 52 := by rw [hA, e3, log2_mul_pow m 52 hm0, hL]
    rw [← hA]
    clear hA e3
    have hl : lastP A (-1074) = -1074 + L := by unfold lastP; rw [hAl]; push_cast; omega
    rw [nearest_eq _ _ _ hA0, kept_of hl, hl, hA2, rne_exact]
    have h3 : (-1074 + (L : Int) + 1074).toNat = L := by omega
    rw [h3]
    have h4 : L * BN + (BN + f) ≤ IR := by unfold IR BN at *; omega
    rw [Nat.min_eq_left h4]
    have h5 : (L + 1) * BN = L * BN + BN := Nat.succ_mul L BN
    rw [h5, Nat.add_assoc]
  · rw [← nearest_scale (pNeg x) m (52 - L) (-1074 + k) hm0, hf]
    congr 1
    omega
theorem shl_eq (m k : Nat) : m <<< k = m * 2 ^ k := Nat.shiftLeft_eq m k
theorem read_zero : D64.read 0 = .number false 0 (-1074) := by decide +kernel
theorem read_min : D64.read 4503599627370496 = .number false 4503599627370496 (-1074) := by decide +kernel
theorem read_max : D64.read 9218868437227405311 = .number false 9007199254740991 971 := by decide +kernel
theorem pExp_ge (b : Nat) (hk : pKind b = 0) : -1074 ≤ pExp b ∧ pExp b ≤ 971 := by
  have h1 := expo_lt b
  have h2 : expo b ≠ 2047 := by
    intro h; unfold pKind at hk; rw [if_pos h] at hk; split at hk <;> cases hk
  unfold pExp; rw [if_neg h2]; split <;> omega
theorem pMag_lt (b : Nat) : pMag b < 2 ^ 53 := by
  have := frac_lt' b
  unfold pMag BN; split
  · decide
  · split <;> omega
theorem cmp_lt (a b : Int) : (compare a b == Ordering.lt) = decide (a < b) := by
  simp only [compare, compareOfLessAndEq]
  by_cases h : a < b
  · simp [h]
  · by_cases h2 : a = b <;> simp [h, h2]
theorem cmp_eq (a b : Int) : (compare a b == Ordering.eq) = decide (a = b) := by
  simp only [compare, compareOfLessAndEq]
  by_cases h : a < b
  · have : a ≠ b := by omega
    simp [h, this]
  · by_cases h2 : a = b <;> simp [h, h2]
theorem cmp_gt (a b : Int) : (compare a b == Ordering.gt) = decide (b < a) := by
  simp only [compare, compareOfLessAndEq]
  by_cases h : a < b
  · have : ¬ b < a := by omega
    simp [h, this]
  · by_cases h2 : a = b
    · simp [h2]
    · have : b < a := by omega
      simp [h, h2, this]
theorem some_beq (a b : Ordering) : (some a == some b) = (a == b) := rfl
theorem ord_zero (b : Nat) (hb : b < 2 ^ 64) (hk : pKind b = 0) : D64.order b 0 = some (compare (signed (pNeg b) (pMag b) (pExp b + 1074).toNat) 0) := by
  have h1 := pExp_ge b hk
  unfold Format.order
  rw [read_eq b hb, if_pos hk, read_zero]
  simp only [Datum.order]
  rw [show min (pExp b) (-1074 : Int) = -1074 by omega, show (pExp b - -1074).toNat = (pExp b + 1074).toNat by congr 1]
  have : signed false 0 ((-1074 : Int) - -1074).toNat = 0 := by decide
  rw [this]
theorem signed_zero_iff (s : Bool) (m k : Nat) : signed s m k = 0 ↔ m = 0 := by
  have hp := Nat.two_pow_pos k
  unfold signed
  rw [shl_eq]
  have h : m * 2 ^ k = 0 ↔ m = 0 := ⟨fun h => (Nat.mul_eq_zero.1 h).resolve_right (by omega), fun h => by rw [h, Nat.zero_mul]⟩
  rw [← h]
  generalize m * 2 ^ k = q
  cases s
  · rw [if_neg (by decide)]; omega
  · rw [if_pos rfl]; omega
theorem ord_zero_eq (b : Nat) (hb : b < 2 ^ 64) (hk : pKind b = 0) : (D64.order b 0 == some .eq) = decide (pMag b = 0) := by
  rw [ord_zero b hb hk, some_beq, cmp_eq, Bool.eq_iff_iff, decide_eq_true_eq, decide_eq_true_eq]
  exact signed_zero_iff _ _ _
theorem ord_zero_lt (b : Nat) (hb : b < 2 ^ 64) (hk : pKind b = 0) (h0 : pMag b ≠ 0) : (D64.order b 0 == some .lt) = pNeg b := by
  rw [ord_zero b hb hk, some_beq, cmp_lt, Bool.eq_iff_iff, decide_eq_true_eq]
  have hz : signed (pNeg b) (pMag b) (pExp b + 1074).toNat ≠ 0 := fun h => h0 ((signed_zero_iff _ _ _).1 h)
  unfold signed at *
  rw [shl_eq] at *
  generalize pMag b * 2 ^ (pExp b + 1074).toNat = q at *
  generalize pNeg b = s at *
  cases s
  · rw [if_neg (by decide)] at hz ⊢; simp
  · rw [if_pos rfl] at hz ⊢; simp; omega
theorem pNeg_abs (b : Nat) : pNeg (fabs b) = false := by
  unfold pNeg fabs
  rw [decide_eq_false_iff_not, Nat.div_eq_of_lt (Nat.mod_lt _ (by decide))]; decide
theorem parts_abs (b : Nat) : pKind (fabs b) = pKind b ∧ pMag (fabs b) = pMag b ∧ pExp (fabs b) = pExp b := by
  unfold pKind pMag pExp fabs; rw [(kind_abs b).1, (kind_abs b).2]; exact ⟨rfl, rfl, rfl⟩
/-- Below the least normal one. -/
theorem ord_min (b : Nat) (hb : b < 2 ^ 64) (hk : pKind b = 0) : (D64.order (fabs b) 4503599627370496 == some .lt) = decide (expo b = 0) := by
  have hb' : fabs b < 2 ^ 64 := Nat.lt_of_le_of_lt (Nat.mod_le _ _) hb
  obtain ⟨k1, k2, k3⟩ := parts_abs b
  have h1 := pExp_ge b hk
  have h2 : expo b ≠ 2047 := by
    intro h; unfold pKind at hk; rw [if_pos h] at hk; split at hk <;> cases hk
  have hf := frac_lt' b
  unfold Format.order
  rw [read_eq _ hb', k1, if_pos hk, read_min, pNeg_abs, k2, k3]
  simp only [Datum.order]
  rw [show min (pExp b) (-1074 : Int) = -1074 by omega, some_beq, cmp_lt, Bool.eq_iff_iff, decide_eq_true_eq, decide_eq_true_eq]
  unfold signed
  simp only [Bool.false_eq_true, if_false, shl_eq]
  have e1 : ((-1074 : Int) - -1074).toNat = 0 := by decide
  rw [e1]
  by_cases he : expo b = 0
  · have m1 : pMag b = frac b := by unfold pMag; rw [if_neg h2, if_pos he]
    have m2 : pExp b = -1074 := by unfold pExp; rw [if_neg h2, if_pos he]
    rw [m1, m2, e1]
    refine ⟨fun _ => he, fun _ => ?_⟩
    rw [Nat.pow_zero, Nat.mul_one, Nat.mul_one]; omega
  · have m1 : pMag b = frac b + BN := by unfold pMag; rw [if_neg h2, if_neg he]
    have hp := Nat.two_pow_pos (pExp b - -1074).toNat
    have : pMag b * 1 ≤ pMag b * 2 ^ (pExp b - -1074).toNat := Nat.mul_le_mul_left _ hp
    unfold BN at m1
    constructor
    · intro h; exfalso; rw [Nat.pow_zero, Nat.mul_one] at h; omega
    · intro h; exact absurd h he
/-- Above the greatest one: infinite. -/
theorem ord_max (b : Nat) (hb : b < 2 ^ 64) : (D64.order (fabs b) 9218868437227405311 == some .gt) = decide (pKind b = 1) := by
  have hb' : fabs b < 2 ^ 64 := Nat.lt_of_le_of_lt (Nat.mod_le _ _) hb
  obtain ⟨k1, k2, k3⟩ := parts_abs b
  unfold Format.order
  rw [read_eq _ hb', k1, read_max, pNeg_abs, k2, k3]
  by_cases h0 : pKind b = 0
  · have h1 := pExp_ge b h0
    have hm := pMag_lt b
    rw [if_pos h0]
    simp only [Datum.order]
    rw [show min (pExp b) (971 : Int) = pExp b by omega, some_beq, cmp_gt, Bool.eq_iff_iff, decide_eq_true_eq, decide_eq_true_eq]
    unfold signed
    simp only [Bool.false_eq_true, if_false, shl_eq]
    rw [show (pExp b - pExp b).toNat = 0 by omega]
    have hp := Nat.two_pow_pos (971 - pExp b).toNat
    have : 9007199254740991 * 1 ≤ 9007199254740991 * 2 ^ (971 - pExp b).toNat := Nat.mul_le_mul_left _ hp
    constructor
    · intro h; exfalso; rw [Nat.pow_zero, Nat.mul_one] at h; omega
    · intro h; omega
  · rw [if_neg h0]
    by_cases h1 : pKind b = 1
    · rw [if_pos h1]; simp [Datum.order, h1]
    · rw [if_neg h1]; simp [Datum.order, h1]
end Sedge
end
section
/-
  Plain laws on 64-bit floats: what is written is no farther off than any float; sums have no error of their own near 0.
-/
set_option linter.unusedSimpArgs false
set_option linter.unusedVariables false
namespace Sedge
open Ieee

theorem grid_best (m : Nat) (p : Int) (k : Int) : ((keptP m p : Rat) * p2 (lastP m p) - (m : Rat) * p2 p).abs ≤ ((k : Rat) * p2 (lastP m p) - (m : Rat) * p2 p).abs := by
  have h1 := kept_err m p
  have hu := p2_pos (lastP m p)
  have hu1 : 2 * p2 (lastP m p - 1) = p2 (lastP m p) := by rw [← p2_succ]; congr 1; omega
  have hK : ((keptP m p : Nat) : Rat) = ((keptP m p : Int) : Rat) := (Rat.intCast_natCast _).symm
  rw [hK] at h1 ⊢
  generalize p2 (lastP m p - 1) = h at *
  generalize p2 (lastP m p) = u at *
  generalize (m : Rat) * p2 p = Z at *
  generalize (keptP m p : Int) = K at *
  have h2 : -h ≤ (K : Rat) * u - Z ∧ (K : Rat) * u - Z ≤ h := by
    rcases Rat.le_total (a := 0) (b := (K : Rat) * u - Z) with h0 | h0
    · rw [Rat.abs_of_nonneg h0] at h1; constructor <;> grind
    · rw [Rat.abs_of_nonpos h0] at h1; constructor <;> grind
  have hKk : k = K ∨ k + 1 ≤ K ∨ K + 1 ≤ k := by omega
  rcases hKk with rfl | hk | hk
  · exact Rat.le_refl
  · have hk' := Rat.intCast_le_intCast.2 hk
    rw [Rat.intCast_add] at hk'
    have hk2 := Rat.mul_le_mul_of_nonneg_right hk' (Rat.le_of_lt hu)
    have e1 : ((1 : Int) : Rat) = 1 := rfl
    rw [e1] at hk2
    have h3 : (k : Rat) * u - Z ≤ -h := by grind
    have h4 : (k : Rat) * u - Z ≤ 0 := by grind
    rw [Rat.abs_of_nonpos h4]
    exact Rat.le_trans h1 (by grind)
  · have hk' := Rat.intCast_le_intCast.2 hk
    rw [Rat.intCast_add] at hk'
    have hk2 := Rat.mul_le_mul_of_nonneg_right hk' (Rat.le_of_lt hu)
    have e1 : ((1 : Int) : Rat) = 1 := rfl
    rw [e1] at hk2
    have h3 : h ≤ (k : Rat) * u - Z := by grind
    have h4 : 0 ≤ (k : Rat) * u - Z := by grind
    rw [Rat.abs_of_nonneg h4]
    exact Rat.le_trans h1 (by grind)

theorem sgn_sq (s : Bool) : sgn s * sgn s = 1 := by cases s <;> decide +kernel
theorem abs_sgn (s : Bool) (x y : Rat) : (x - sgn s * y).abs = (sgn s * x - y).abs := by
  have : x - sgn s * y = sgn s * (sgn s * x - y) := by
    have := sgn_sq s
    grind
  rw [this, abs_sgn_mul]
theorem abs_le_of {x y : Rat} (h1 : -y ≤ x) (h2 : x ≤ y) : x.abs ≤ y := by
  rcases Rat.le_total (a := 0) (b := x) with h0 | h0
  · rw [Rat.abs_of_nonneg h0]; exact h2
  · rw [Rat.abs_of_nonpos h0]; grind
theorem le_abs (x : Rat) : x ≤ x.abs := by
  rcases Rat.le_total (a := 0) (b := x) with h0 | h0
  · rw [Rat.abs_of_nonneg h0]; exact Rat.le_refl
  · rw [Rat.abs_of_nonpos h0]; grind
theorem neg_le_abs (x : Rat) : -x ≤ x.abs := by
  rcases Rat.le_total (a := 0) (b := x) with h0 | h0
  · rw [Rat.abs_of_nonneg h0]; grind
  · rw [Rat.abs_of_nonpos h0]; exact Rat.le_refl

/-- NO FLOAT IS NEARER. -/
theorem nearest_best (s : Bool) (m : Nat) (p : Int) (h : m ≠ 0) (hf : fin (D64.nearest s m p) = true) {x : Nat} (hx : x < 2 ^ 64) (hfx : fin x = true) :
    (val (D64.nearest s m p) - dat s m p).abs ≤ (val x - dat s m p).abs := by
  rw [(nearest_err s m p h hf).2]
  have e1 : dat s (keptP m p) (lastP m p) - dat s m p = sgn s * ((keptP m p : Rat) * p2 (lastP m p) - (m : Rat) * p2 p) := by unfold dat; grind
  rw [e1, abs_sgn_mul]
  have e2 : dat s m p = sgn s * ((m : Rat) * p2 p) := rfl
  rw [e2, abs_sgn]
  have hk : pKind x = 0 := by
    have := read_eq x hx
    rcases Nat.lt_or_ge 0 (pKind x) with h0 | h0
    · rw [if_neg (by omega)] at this
      obtain ⟨s', m', p', hr⟩ := (fin_iff x).1 hfx
      rw [hr] at this
      split at this <;> cases this
    · omega
  have hr : D64.read x = .number (pNeg x) (pMag x) (pExp x) := by rw [read_eq x hx, if_pos hk]
  have hq := (pExp_ge x hk).1
  have hn := pMag_lt x
  rw [val_of hr]
  generalize pNeg x = t at *
  generalize pMag x = n at *
  generalize pExp x = q at *
  by_cases hqL : lastP m p ≤ q
  · -- on the grid
    have e3 : sgn s * dat t n q = (((if s = t then (1 : Int) else -1) * ((n * 2 ^ (q - lastP m p).toNat : Nat) : Int) : Int) : Rat) * p2 (lastP m p) := by
      have e4 : p2 q = p2 ((q - lastP m p).toNat : Nat) * p2 (lastP m p) := by rw [← p2_add]; congr 1; omega
      unfold dat
      rw [Rat.intCast_mul, Rat.intCast_natCast, Rat.natCast_mul, ← p2_nat, e4]
      have e5 : sgn s * sgn t = (((if s = t then (1 : Int) else -1) : Int) : Rat) := by cases s <;> cases t <;> decide +kernel
      rw [← e5]; grind
    rw [e3]
    exact grid_best m p _
  · have hL : lastP m p = p + m.log2 - 52 := by
      rcases lastP_or m p with h1 | h1
      · exact h1
      · omega
    have hb := grid_best m p ((2 ^ 52 : Nat) : Int)
    refine Rat.le_trans hb ?_
    have hZ : ((2 ^ 52 : Nat) : Rat) * p2 (lastP m p) ≤ (m : Rat) * p2 p := by
      have h3 : p2 (m.log2 : Nat) ≤ (m : Rat) := by rw [p2_nat]; exact Rat.natCast_le_natCast.2 (log2_spec m h).1
      have h4 := Rat.mul_le_mul_of_nonneg_right h3 (Rat.le_of_lt (p2_pos p))
      rw [← p2_nat, ← p2_add]
      rw [← p2_add] at h4
      rw [show ((52 : Nat) : Int) + lastP m p = (m.log2 : Nat) + p by omega]
      exact h4
    have hX : (dat t n q).abs ≤ ((2 ^ 52 : Nat) : Rat) * p2 (lastP m p) := by
      rw [dat_abs, ← p2_nat, ← p2_add]
      have h5 : (n : Rat) ≤ p2 ((53 : Nat) : Int) := by rw [p2_nat]; exact Rat.natCast_le_natCast.2 (Nat.le_of_lt hn)
      have h6 := Rat.mul_le_mul_of_nonneg_right h5 (Rat.le_of_lt (p2_pos q))
      rw [← p2_add] at h6
      exact Rat.le_trans h6 (p2_mono (by omega))
    have hX2 : (sgn s * dat t n q).abs ≤ ((2 ^ 52 : Nat) : Rat) * p2 (lastP m p) := by rw [abs_sgn_mul]; exact hX
    rw [Rat.intCast_natCast]
    have h7 := le_abs (sgn s * dat t n q)
    have h8 := neg_le_abs (sgn s * dat t n q - (m : Rat) * p2 p)
    refine Rat.le_trans (abs_le_of (y := (m : Rat) * p2 p - ((2 ^ 52 : Nat) : Rat) * p2 (lastP m p)) (by grind) (by grind)) ?_
    grind

theorem kept_exact (m : Nat) (p : Int) (h : lastP m p ≤ p) : (keptP m p : Rat) * p2 (lastP m p) = (m : Rat) * p2 p := by
  have h1 := numP_val m p
  have h2 : dropP m p = 0 := by unfold dropP; omega
  have h3 : keptP m p = numP m p := by
    show rne (numP m p) (dropP m p) = _
    rw [h2, rne_zero]
  rw [h3, h1, h2]
  have : ((2 ^ 0 : Nat) : Rat) = 1 := rfl
  rw [this]; grind
/-- What is written, of places that a float may have. -/
theorem write_err' (s : Bool) (m : Nat) (p : Int) (hp : -1074 ≤ p) (hf : fin (D64.write (.number s m p)) = true) :
    (val (D64.write (.number s m p)) - dat s m p).abs ≤ U * (dat s m p).abs := by
  by_cases h : m = 0
  · subst h
    have e : D64.write (.number s 0 p) = D64.word s 0 := by
      show D64.nearest s 0 p = _; unfold Format.nearest; rw [if_pos rfl]
    rw [e, (word_zero s).1, dat_zero]
    decide +kernel
  · have h0 : D64.write (.number s m p) = D64.nearest s m p := rfl
    rw [h0] at hf ⊢
    obtain ⟨h1, h2⟩ := nearest_err s m p h hf
    by_cases hL : lastP m p ≤ p
    · have h3 := kept_exact m p hL
      rw [h2]
      have e1 : dat s (keptP m p) (lastP m p) - dat s m p = 0 := by unfold dat; rw [h3]; grind
      rw [e1]
      have : (0 : Rat).abs = 0 := by decide +kernel
      rw [this]
      exact Rat.mul_nonneg (Rat.le_of_lt U_pos) (by rw [dat_abs]; exact Rat.mul_nonneg Rat.natCast_nonneg (Rat.le_of_lt (p2_pos p)))
    · have hL2 : lastP m p = p + m.log2 - 52 := by
        rcases lastP_or m p with h1 | h1
        · exact h1
        · omega
      refine Rat.le_trans h1 ?_
      rw [dat_abs, hL2]
      have h2 : p2 (p + m.log2 - 52 - 1) = U * (p2 p * p2 (m.log2 : Nat)) := by
        unfold U; rw [← p2_add, ← p2_add]; congr 1; omega
      rw [h2]
      have h3 : p2 (m.log2 : Nat) ≤ (m : Rat) := by rw [p2_nat]; exact Rat.natCast_le_natCast.2 (log2_spec m h).1
      have h4 := Rat.mul_le_mul_of_nonneg_left h3 (Rat.le_of_lt (p2_pos p))
      have h5 := Rat.mul_le_mul_of_nonneg_left h4 (Rat.le_of_lt U_pos)
      grind
theorem sum_val' {s t : Bool} {m n : Nat} {i j : Int} (hi : -1074 ≤ i) (hj : -1074 ≤ j) : ∃ c z b, (Datum.number s m i).sum (.number t n j) = some (.number c z b) ∧ -1074 ≤ b ∧ dat c z b = dat s m i + dat t n j := by
  refine ⟨_, _, _, rfl, ?_, ?_⟩
  · omega
  rw [natAbs_val _ _ (by intro h; simp [h])]
  rw [Rat.intCast_add, Rat.add_mul, signed_val, signed_val]
  congr 2 <;> omega
theorem fin_parts {x : Nat} (hx : x < 2 ^ 64) (hf : fin x = true) : pKind x = 0 ∧ D64.read x = .number (pNeg x) (pMag x) (pExp x) ∧ -1074 ≤ pExp x ∧ pMag x < 2 ^ 53 := by
  have hk : pKind x = 0 := by
    have := read_eq x hx
    rcases Nat.lt_or_ge 0 (pKind x) with h0 | h0
    · rw [if_neg (by omega)] at this
      obtain ⟨s', m', p', hr⟩ := (fin_iff x).1 hf
      rw [hr] at this
      split at this <;> cases this
    · omega
  exact ⟨hk, by rw [read_eq x hx, if_pos hk], (pExp_ge x hk).1, pMag_lt x⟩
theorem fin_kind {x : Nat} (hx : x < 2 ^ 64) : fin x = decide (pKind x = 0) := by
  cases h : fin x
  · symm; rw [decide_eq_false_iff_not]; intro hk
    have : fin x = true := fin_of_read (by rw [read_eq x hx, if_pos hk])
    rw [this] at h; cases h
  · rw [(fin_parts hx h).1]; rfl
theorem val_parts {x : Nat} (hx : x < 2 ^ 64) (hf : pKind x = 0) : val x = dat (pNeg x) (pMag x) (pExp x) := val_of (by rw [read_eq x hx, if_pos hf])
theorem fadd_read' {x y : Nat} (hx : x < 2 ^ 64) (hy : y < 2 ^ 64) (fx : fin x = true) (fy : fin y = true) : ∃ c z b, fadd x y = D64.write (.number c z b) ∧ -1074 ≤ b ∧ dat c z b = val x + val y := by
  obtain ⟨_, rx, px, _⟩ := fin_parts hx fx
  obtain ⟨_, ry, py, _⟩ := fin_parts hy fy
  obtain ⟨c, z, b, h1, h2, h3⟩ := sum_val' (s := pNeg x) (t := pNeg y) (m := pMag x) (n := pMag y) px py
  refine ⟨c, z, b, ?_, h2, ?_⟩
  · unfold fadd Format.add; rw [rx, ry, h1]; rfl
  · rw [h3, val_of rx, val_of ry]
theorem fadd_err' {x y : Nat} (hx : x < 2 ^ 64) (hy : y < 2 ^ 64) (h : fin (fadd x y) = true) : (val (fadd x y) - (val x + val y)).abs ≤ U * (val x + val y).abs := by
  obtain ⟨fx, fy⟩ := fadd_fin h
  obtain ⟨c, z, b, h1, h2, h3⟩ := fadd_read' hx hy fx fy
  rw [h1] at h ⊢
  rw [← h3]
  exact write_err' c z b h2 h
theorem fadd_best {x y f : Nat} (h : fin (fadd x y) = true) (hf : f < 2 ^ 64) (ff : fin f = true) : (val (fadd x y) - (val x + val y)).abs ≤ (val f - (val x + val y)).abs := by
  obtain ⟨fx, fy⟩ := fadd_fin h
  obtain ⟨c, z, b, h1, h2⟩ := fadd_read fx fy
  rw [h1] at h ⊢
  rw [← h2]
  by_cases hz : z = 0
  · subst hz
    have e : D64.write (.number c 0 b) = D64.word c 0 := by
      show D64.nearest c 0 b = _; unfold Format.nearest; rw [if_pos rfl]
    rw [e, (word_zero c).1, dat_zero]
    have : ((0 : Rat) - 0).abs = 0 := by decide +kernel
    rw [this]
    exact Rat.abs_nonneg
  · exact nearest_best c z b hz h hf ff
theorem fsub_read' {x y : Nat} (hx : x < 2 ^ 64) (hy : y < 2 ^ 64) (fx : fin x = true) (fy : fin y = true) : ∃ c z b, fsub x y = D64.write (.number c z b) ∧ -1074 ≤ b ∧ dat c z b = val x - val y := by
  obtain ⟨_, rx, px, _⟩ := fin_parts hx fx
  obtain ⟨_, ry, py, _⟩ := fin_parts hy fy
  obtain ⟨c, z, b, h1, h2, h3⟩ := sum_val' (s := pNeg x) (t := !(pNeg y)) (m := pMag x) (n := pMag y) px py
  refine ⟨c, z, b, ?_, h2, ?_⟩
  · unfold fsub Format.sub; rw [rx, ry]; simp only [Datum.opposite]; rw [h1]; rfl
  · rw [h3, val_of rx, val_of ry, dat_not]; grind
theorem fsub_err' {x y : Nat} (hx : x < 2 ^ 64) (hy : y < 2 ^ 64) (h : fin (fsub x y) = true) : (val (fsub x y) - (val x - val y)).abs ≤ U * (val x - val y).abs := by
  obtain ⟨fx, fy⟩ := fsub_fin h
  obtain ⟨c, z, b, h1, h2, h3⟩ := fsub_read' hx hy fx fy
  rw [h1] at h ⊢
  rw [← h3]
  exact write_err' c z b h2 h
end Sedge
end
section
/-
  Plain: a product added is close.
-/
set_option linter.unusedSimpArgs false
set_option linter.unusedVariables false
namespace Sedge
open Ieee
theorem pow64 : (2 : Nat) ^ D64.width = 2 ^ 64 := by decide +kernel
theorem fmul_lt (x y : Nat) : fmul x y < 2 ^ 64 := by
  unfold fmul
  cases h : D64.mul x y with
  | none => decide
  | some r => rw [← pow64]; exact D64.mul_lt h
theorem fadd_lt (x y : Nat) : fadd x y < 2 ^ 64 := by
  unfold fadd
  cases h : D64.add x y with
  | none => decide
  | some r => rw [← pow64]; exact D64.add_lt h
theorem fsub_lt (x y : Nat) : fsub x y < 2 ^ 64 := by
  unfold fsub
  cases h : D64.sub x y with
  | none => decide
  | some r => rw [← pow64]; exact D64.sub_lt h
theorem fdiv_lt (x y : Nat) : fdiv x y < 2 ^ 64 := by
  unfold fdiv
  cases h : D64.div x y with
  | none => decide
  | some r => rw [← pow64]; exact D64.div_lt h
theorem U_le : U ≤ 1 := by unfold U; decide +kernel
theorem abs_add_le (x y : Rat) : (x + y).abs ≤ x.abs + y.abs := by
  have h1 := le_abs x
  have h2 := le_abs y
  have h3 := neg_le_abs x
  have h4 := neg_le_abs y
  exact abs_le_of (by grind) (by grind)
theorem abs_sub_comm (x y : Rat) : (x - y).abs = (y - x).abs := by
  rw [show x - y = -(y - x) by grind, Rat.abs_neg]
theorem close_law {a x y : Nat} (hy : y < 2 ^ 64) (h : fin (fadd y (fmul a x)) = true) :
    (val (fadd y (fmul a x)) - val a * val x - val y).abs ≤ ((val a * val x).abs + (val y).abs) * p2 (-52) + p2 (-1074) := by
  obtain ⟨fy, fp⟩ := fadd_fin h
  have h1 := fmul_err fp
  have h2 := fadd_err' hy (fmul_lt a x) h
  have h3 := fadd_best h (fmul_lt a x) fp
  have hU := U_pos
  have hU1 := U_le
  have hE := ETA_pos
  have e1 : p2 (-52) = 2 * U := by unfold U; rw [← p2_succ]; rfl
  have e2 : p2 (-1074) = 2 * ETA := by unfold ETA; rw [← p2_succ]; rfl
  rw [e1, e2]
  have e3 : val (fmul a x) - (val y + val (fmul a x)) = -(val y) := by grind
  rw [e3, Rat.abs_neg] at h3
  generalize val (fadd y (fmul a x)) = d at *
  generalize val (fmul a x) = P at *
  generalize val a * val x = A at *
  generalize val y = Y at *
  have t1 := abs_add_le (d - (Y + P)) (P - A)
  have t2 := abs_add_le (Y + A) (P - A)
  have t3 := abs_add_le Y A
  rw [show d - (Y + P) + (P - A) = d - A - Y by grind] at t1
  rw [show Y + A + (P - A) = Y + P by grind] at t2
  have n1 : 0 ≤ A.abs := Rat.abs_nonneg
  have n2 : 0 ≤ Y.abs := Rat.abs_nonneg
  generalize (d - (Y + P)).abs = E2 at *
  generalize (P - A).abs = E1 at *
  generalize (d - A - Y).abs = G at *
  generalize (Y + P).abs = S at *
  generalize (Y + A).abs = T at *
  generalize A.abs = a' at *
  generalize Y.abs = y' at *
  have m1 := Rat.mul_le_mul_of_nonneg_left h1 (Rat.le_of_lt hU)
  rcases Rat.le_total (a := y') (b := U * a') with hc | hc
  · have p0 : 0 ≤ U * y' := Rat.mul_nonneg (Rat.le_of_lt hU) n2
    grind
  · have m2 := Rat.mul_le_mul_of_nonneg_left hc (Rat.le_of_lt hU)
    have m3 := Rat.mul_le_mul_of_nonneg_left (Rat.le_trans t2 (Rat.add_le_add_right.2 t3)) (Rat.le_of_lt hU)
    have m4 := Rat.mul_le_mul_of_nonneg_right hU1 (Rat.le_of_lt hE)
    grind
end Sedge
end
section
/-
  Plain: how far sums of products, made step by step, are from the exact ones.
-/
set_option linter.unusedSimpArgs false
set_option linter.unusedVariables false
namespace Sedge
open Ieee
/-- The exact sum, and the sum without signs. -/
def exS (s0 : Rat) (T : Nat → Rat) : Nat → Rat
  | 0 => s0
  | j + 1 => exS s0 T j + T j
def exB (s0 : Rat) (T : Nat → Rat) : Nat → Rat
  | 0 => s0.abs
  | j + 1 => exB s0 T j + (T j).abs
theorem exB_nonneg (s0 : Rat) (T : Nat → Rat) : ∀ j, 0 ≤ exB s0 T j
  | 0 => Rat.abs_nonneg
  | j + 1 => by
    have h1 := exB_nonneg s0 T j
    have h2 : 0 ≤ (T j).abs := Rat.abs_nonneg
    show 0 ≤ exB s0 T j + (T j).abs
    grind
theorem exS_le (s0 : Rat) (T : Nat → Rat) : ∀ j, (exS s0 T j).abs ≤ exB s0 T j
  | 0 => Rat.le_refl
  | j + 1 => by
    have h1 := exS_le s0 T j
    have h2 := abs_add_le (exS s0 T j) (T j)
    show (exS s0 T j + T j).abs ≤ exB s0 T j + (T j).abs
    grind
theorem exB_mono (s0 : Rat) (T : Nat → Rat) (j : Nat) : exB s0 T j ≤ exB s0 T (j + 1) := by
  have h2 : 0 ≤ (T j).abs := Rat.abs_nonneg
  show exB s0 T j ≤ exB s0 T j + (T j).abs
  grind
theorem U_small : 4096 * U ≤ 1 := by unfold U; decide +kernel
/-- SUMS OF PRODUCTS: the error. -/
theorem sum_err (S P T : Nat → Rat) (n : Nat) (hn : n ≤ 64) (hP : ∀ j, j < n → (P j - T j).abs ≤ U * (T j).abs + ETA) (hS : ∀ j, j < n → (S (j + 1) - (S j + P j)).abs ≤ U * (S j + P j).abs) :
    ∀ j, j ≤ n → (S j - exS (S 0) T j).abs ≤ (j + 1) * (33 / 32) * (U * exB (S 0) T j) + 2 * j * ETA := by
  intro j
  have hU := U_pos
  have hU1 := U_small
  have hE := ETA_pos
  induction j with
  | zero =>
    intro _
    have : S 0 - exS (S 0) T 0 = 0 := by show S 0 - S 0 = 0; grind
    rw [this]
    have h0 : (0 : Rat).abs = 0 := by decide +kernel
    rw [h0]
    have h1 := Rat.mul_nonneg (Rat.le_of_lt hU) (exB_nonneg (S 0) T 0)
    have e0 : ((0 : Nat) : Rat) = 0 := rfl
    rw [e0]
    grind
  | succ j ih =>
    intro hj
    have h1 := ih (by omega)
    have h2 := hP j (by omega)
    have h3 := hS j (by omega)
    have hb := exB_nonneg (S 0) T j
    have hx := exS_le (S 0) T j
    have ej : ((j + 1 : Nat) : Rat) = (j : Rat) + 1 := by rw [Rat.natCast_add]; rfl
    have hj64 : (j : Rat) ≤ 64 := by
      have := Rat.natCast_le_natCast.2 (show j ≤ 64 by omega)
      simpa using this
    have hj0 : (0 : Rat) ≤ (j : Rat) := Rat.natCast_nonneg
    rw [ej]
    show (S (j + 1) - (exS (S 0) T j + T j)).abs ≤ ((j : Rat) + 1 + 1) * (33 / 32) * (U * (exB (S 0) T j + (T j).abs)) + 2 * ((j : Rat) + 1) * ETA
    generalize exB (S 0) T j = B at *
    generalize exS (S 0) T j = X at *
    generalize S (j + 1) = s' at *
    generalize S j = s at *
    generalize P j = p at *
    generalize T j = t at *
    have a1 := abs_add_le (s' - (s + p)) (s - X + (p - t))
    have a2 := abs_add_le (s - X) (p - t)
    have a3 := abs_add_le (X + t) (s - X + (p - t))
    have a4 := abs_add_le X t
    rw [show s' - (s + p) + (s - X + (p - t)) = s' - (X + t) by grind] at a1
    rw [show X + t + (s - X + (p - t)) = s + p by grind] at a3
    have n1 : 0 ≤ t.abs := Rat.abs_nonneg
    generalize (s' - (s + p)).abs = e3 at *
    generalize (s - X + (p - t)).abs = e12 at *
    generalize (s - X).abs = e1 at *
    generalize (p - t).abs = e2 at *
    generalize (s' - (X + t)).abs = G at *
    generalize (s + p).abs = sp at *
    generalize (X + t).abs = xt at *
    generalize X.abs = xa at *
    generalize t.abs = ta at *
    -- e1 <= (j+1) k U B + 2 j ETA ; e2 <= U ta + ETA ; e3 <= U sp ; sp <= B + ta + e12
    have u1 : 0 ≤ U * B := Rat.mul_nonneg (Rat.le_of_lt hU) hb
    have u2 : 0 ≤ U * ta := Rat.mul_nonneg (Rat.le_of_lt hU) n1
    have j1 : (j : Rat) * (U * B) ≤ 64 * (U * B) := Rat.mul_le_mul_of_nonneg_right hj64 u1
    have j2 : (j : Rat) * ETA ≤ 64 * ETA := Rat.mul_le_mul_of_nonneg_right hj64 (Rat.le_of_lt hE)
    have j3 : 0 ≤ (j : Rat) * (U * ta) := Rat.mul_nonneg hj0 u2
    have j4 : 0 ≤ (j : Rat) * ETA := Rat.mul_nonneg hj0 (Rat.le_of_lt hE)
    have j5 : 0 ≤ (j : Rat) * (U * B) := Rat.mul_nonneg hj0 u1
    -- e1 <= 68 U B + 128 ETA
    have k1 : e1 ≤ 68 * (U * B) + 128 * ETA := by grind
    have k2 : U * e1 ≤ U * (68 * (U * B) + 128 * ETA) := Rat.mul_le_mul_of_nonneg_left k1 (Rat.le_of_lt hU)
    have k3 : U * e2 ≤ U * (U * ta + ETA) := Rat.mul_le_mul_of_nonneg_left h2 (Rat.le_of_lt hU)
    have k4 : U * sp ≤ U * (B + ta + (e1 + e2)) := Rat.mul_le_mul_of_nonneg_left (by grind) (Rat.le_of_lt hU)
    have k5 : 4096 * U * (U * B) ≤ 1 * (U * B) := Rat.mul_le_mul_of_nonneg_right hU1 u1
    have k6 : 4096 * U * (U * ta) ≤ 1 * (U * ta) := Rat.mul_le_mul_of_nonneg_right hU1 u2
    have k7 : 4096 * U * ETA ≤ 1 * ETA := Rat.mul_le_mul_of_nonneg_right hU1 (Rat.le_of_lt hE)
    have k8 : U * (68 * (U * B) + 128 * ETA) = 68 * (U * (U * B)) + 128 * (U * ETA) := by grind
    have k9 : U * (U * ta + ETA) = U * (U * ta) + U * ETA := by grind
    have k10 : U * (B + ta + (e1 + e2)) = U * B + U * ta + U * e1 + U * e2 := by grind
    have r1 : ((j : Rat) + 1 + 1) * (33 / 32) * (U * (B + ta)) = 33 / 32 * (j * (U * B)) + 33 / 32 * (j * (U * ta)) + 33 / 16 * (U * B) + 33 / 16 * (U * ta) := by grind
    have r2 : ((j : Rat) + 1) * (33 / 32) * (U * B) = 33 / 32 * (j * (U * B)) + 33 / 32 * (U * B) := by grind
    have r3 : 4096 * U * (U * B) = 4096 * (U * (U * B)) := by grind
    have r4 : 4096 * U * (U * ta) = 4096 * (U * (U * ta)) := by grind
    have r5 : 4096 * U * ETA = 4096 * (U * ETA) := by grind
    have r6 : 2 * ((j : Rat) + 1) * ETA = 2 * (j * ETA) + 2 * ETA := by grind
    have r7 : 2 * (j : Rat) * ETA = 2 * (j * ETA) := by grind
    rw [r1, r6]
    rw [r2, r7] at h1
    rw [r3] at k5
    rw [r4] at k6
    rw [r5] at k7
    rw [k8] at k2
    rw [k9] at k3
    rw [k10] at k4
    generalize (j : Rat) * (U * B) = jUB at *
    generalize (j : Rat) * (U * ta) = jUt at *
    generalize (j : Rat) * ETA = jE at *
    generalize U * (U * B) = UUB at *
    generalize U * (U * ta) = UUt at *
    generalize U * ETA = UE at *
    generalize U * B = UB at *
    generalize U * ta = Ut at *
    generalize U * e1 = Ue1 at *
    generalize U * e2 = Ue2 at *
    generalize U * sp = Usp at *
    clear r1 r2 r3 r4 r5 r6 r7 k8 k9 k10 hU hU1
    grind
end Sedge
end
section
/-
  Plain: the bound of a rest is one.
-/
set_option linter.unusedSimpArgs false
set_option linter.unusedVariables false
namespace Sedge
open Ieee
theorem U_tiny : 1048576 * U ≤ 1 := by unfold U; decide +kernel
/-- A number without its sign. -/
theorem fabs_val {x : Nat} (hx : x < 2 ^ 64) : fin (fabs x) = fin x ∧ (fin x = true → val (fabs x) = (val x).abs) := by
  have hl : fabs x < 2 ^ 64 := Nat.lt_of_le_of_lt (Nat.mod_le _ _) hx
  obtain ⟨h1, h2, h3⟩ := parts_abs x
  refine ⟨by rw [fin_kind hl, fin_kind hx, h1], fun hf => ?_⟩
  have hk := (fin_parts hx hf).1
  rw [val_parts hl (by rw [h1]; exact hk), val_parts hx hk, h2, h3, pNeg_abs, dat_abs]
  unfold dat sgn
  simp
theorem fabs_lt {x : Nat} (hx : x < 2 ^ 64) : fabs x < 2 ^ 64 := Nat.lt_of_le_of_lt (Nat.mod_le _ _) hx
/-- The inequality of the bounds. -/
theorem rest_ineq {n B X E r w gv p q t f : Rat} (hn0 : 0 ≤ n) (hn : n ≤ 16) (hB : 0 ≤ B) (hE : E = (n + 1) * (33 / 32) * (U * B) + 2 * n * ETA) (hX : X.abs ≤ B) (hr : (r - X).abs ≤ E) (hw : (w - B).abs ≤ E)
    (hg : gv = (n + 3) * (2 * U)) (ht : t = (n + 3) * (32 * ETA)) (hp : (p - gv * w).abs ≤ U * (gv * w).abs + ETA) (hq : (q - (r.abs + p)).abs ≤ U * (r.abs + p).abs) (hf : (f - (q + t)).abs ≤ U * (q + t).abs) : r.abs + 2 * E ≤ f := by
  have hU := U_pos
  have hU1 := U_tiny
  have hEt := ETA_pos
  have uB : 0 ≤ U * B := Rat.mul_nonneg (Rat.le_of_lt hU) hB
  have n1 : 0 ≤ n * (U * B) := Rat.mul_nonneg hn0 uB
  have n2 : n * (U * B) ≤ 16 * (U * B) := Rat.mul_le_mul_of_nonneg_right hn uB
  have n3 : 0 ≤ n * ETA := Rat.mul_nonneg hn0 (Rat.le_of_lt hEt)
  have n4 : n * ETA ≤ 16 * ETA := Rat.mul_le_mul_of_nonneg_right hn (Rat.le_of_lt hEt)
  have hE' : E = 33 / 32 * (n * (U * B)) + 33 / 32 * (U * B) + 2 * (n * ETA) := by rw [hE]; grind
  have E0 : 0 ≤ E := by rw [hE']; grind
  have tiny : ∀ x : Rat, 0 ≤ x → 1048576 * (U * x) ≤ x := fun x hx => by
    have := Rat.mul_le_mul_of_nonneg_right hU1 hx
    grind
  have pos : ∀ x : Rat, 0 ≤ x → 0 ≤ U * x := fun x hx => Rat.mul_nonneg (Rat.le_of_lt hU) hx
  have tE := tiny E E0
  have pE := pos E E0
  -- w
  have w1 := le_abs (w - B)
  have w2 := neg_le_abs (w - B)
  have g0 : 0 ≤ gv := by rw [hg]; exact Rat.mul_nonneg (by grind) (by grind)
  have g38 : gv ≤ 38 * U := by
    rw [hg]
    have := Rat.mul_le_mul_of_nonneg_right (show n + 3 ≤ 19 by grind) (show 0 ≤ 2 * U by grind)
    grind
  have gw1 : gv * (B - E) ≤ gv * w := Rat.mul_le_mul_of_nonneg_left (by grind) g0
  have gw2 : gv * w ≤ gv * (B + E) := Rat.mul_le_mul_of_nonneg_left (by grind) g0
  have gE : gv * E ≤ 38 * U * E := Rat.mul_le_mul_of_nonneg_right g38 E0
  have gB : gv * B = 2 * (n * (U * B)) + 6 * (U * B) := by rw [hg]; grind
  have gwL : 2 * (n * (U * B)) + 6 * (U * B) - 38 * (U * E) ≤ gv * w := by grind
  have gwH : gv * w ≤ 38 * (U * B) + 38 * (U * E) := by grind
  have agw : (gv * w).abs ≤ 38 * (U * B) + 38 * (U * E) := abs_le_of (by grind) gwH
  have uagw : U * (gv * w).abs ≤ U * (38 * (U * B) + 38 * (U * E)) := Rat.mul_le_mul_of_nonneg_left agw (Rat.le_of_lt hU)
  have tgw := tiny (38 * (U * B) + 38 * (U * E)) (by grind)
  have p1 := le_abs (p - gv * w)
  have p2' := neg_le_abs (p - gv * w)
  have pab : p.abs ≤ 76 * (U * B) + 76 * (U * E) + ETA := abs_le_of (by grind) (by grind)
  have pa0 : 0 ≤ p.abs := Rat.abs_nonneg
  have ra0 : 0 ≤ r.abs := Rat.abs_nonneg
  have upa := pos p.abs pa0
  have tpa := tiny p.abs pa0
  -- r
  have r1 := abs_add_le X (r - X)
  rw [show X + (r - X) = r by grind] at r1
  have ur : U * r.abs ≤ U * (B + E) := Rat.mul_le_mul_of_nonneg_left (by grind) (Rat.le_of_lt hU)
  have urs : U * (B + E) = U * B + U * E := by grind
  -- q
  have q0 := abs_add_le r.abs p
  rw [Rat.abs_of_nonneg ra0] at q0
  have uq0 : U * (r.abs + p).abs ≤ U * (r.abs + p.abs) := Rat.mul_le_mul_of_nonneg_left q0 (Rat.le_of_lt hU)
  have uqs : U * (r.abs + p.abs) = U * r.abs + U * p.abs := by grind
  have q1 := le_abs (q - (r.abs + p))
  have q2 := neg_le_abs (q - (r.abs + p))
  have qab : q.abs ≤ r.abs + p.abs + (U * r.abs + U * p.abs) := by
    have := le_abs p
    have := neg_le_abs p
    exact abs_le_of (by grind) (by grind)
  have uq : U * q.abs ≤ U * (r.abs + p.abs + (U * r.abs + U * p.abs)) := Rat.mul_le_mul_of_nonneg_left qab (Rat.le_of_lt hU)
  have pur := pos r.abs ra0
  have tq := tiny (U * r.abs + U * p.abs) (by grind)
  have uqss : U * (r.abs + p.abs + (U * r.abs + U * p.abs)) = U * r.abs + U * p.abs + U * (U * r.abs + U * p.abs) := by grind
  -- f
  have t0 : 0 ≤ t := by rw [ht]; exact Rat.mul_nonneg (by grind) (by grind)
  have tt := tiny t t0
  have f1 := neg_le_abs (f - (q + t))
  have f0 := abs_add_le q t
  rw [Rat.abs_of_nonneg t0] at f0
  have uf : U * (q + t).abs ≤ U * (q.abs + t) := Rat.mul_le_mul_of_nonneg_left f0 (Rat.le_of_lt hU)
  have ufs : U * (q.abs + t) = U * q.abs + U * t := by grind
  have ht' : t = 32 * (n * ETA) + 96 * ETA := by rw [ht]; grind
  generalize U * (38 * (U * B) + 38 * (U * E)) = z1 at *
  generalize U * (gv * w).abs = z2 at *
  generalize gv * w = gw at *
  generalize n * (U * B) = nUB at *
  generalize n * ETA = nE at *
  generalize U * B = UB at *
  generalize U * E = UE at *
  generalize U * (U * r.abs + U * p.abs) = z4 at *
  generalize U * r.abs = z5 at *
  generalize U * p.abs = z6 at *
  generalize U * q.abs = z7 at *
  generalize U * (q + t).abs = z8 at *
  generalize U * (r.abs + p).abs = z9 at *
  generalize U * t = z10 at *
  rw [hE']
  clear tiny pos hE hg ht gE gB g38 gw1 gw2
  grind
/-- The values of the constants in the bounds. -/
def cG (n : Nat) : Rat := ((n : Rat) + 3) * p2 (-52)
theorem row_fin {S P : Nat → Nat} {op : Nat → Nat → Nat} (hop : ∀ x y, fin (op x y) = true → fin x = true ∧ fin y = true) {n : Nat} (hS : ∀ j, j < n → S (j + 1) = op (S j) (P j)) (hf : fin (S n) = true) : ∀ j, j ≤ n → fin (S j) = true ∧ (j < n → fin (P j) = true) := by
  have key : ∀ k, k ≤ n → fin (S (n - k)) = true := by
    intro k
    induction k with
    | zero => intro _; exact hf
    | succ k ih =>
      intro hk
      have h1 := ih (by omega)
      have h2 := hS (n - (k + 1)) (by omega)
      rw [show n - (k + 1) + 1 = n - k by omega] at h2
      rw [h2] at h1
      exact (hop _ _ h1).1
  intro j hj
  have h1 := key (n - j) (by omega)
  rw [show n - (n - j) = j by omega] at h1
  refine ⟨h1, fun hlt => ?_⟩
  have h3 := key (n - (j + 1)) (by omega)
  rw [show n - (n - (j + 1)) = j + 1 by omega, hS j hlt] at h3
  exact (hop _ _ h3).2
/-- A row's rest and weight, and how far they are off. -/
theorem rest_err {S W : Nat → Nat} {A X : Nat → Nat} {n : Nat} (hn : n ≤ 64) (hA : ∀ j, A j < 2 ^ 64) (hX : ∀ j, X j < 2 ^ 64) (h0 : S 0 < 2 ^ 64) (hS : ∀ j, j < n → S (j + 1) = fsub (S j) (fmul (A j) (X j)))
    (w0 : W 0 = fabs (S 0)) (hW : ∀ j, j < n → W (j + 1) = fadd (W j) (fmul (fabs (A j)) (fabs (X j)))) (fS : fin (S n) = true) (fW : fin (W n) = true) :
    (val (S n) - exS (val (S 0)) (fun j => -(val (A j) * val (X j))) n).abs ≤ (n + 1) * (33 / 32) * (U * exB (val (S 0)) (fun j => -(val (A j) * val (X j))) n) + 2 * n * ETA ∧
    (val (W n) - exB (val (S 0)) (fun j => -(val (A j) * val (X j))) n).abs ≤ (n + 1) * (33 / 32) * (U * exB (val (S 0)) (fun j => -(val (A j) * val (X j))) n) + 2 * n * ETA := by
  have kS := row_fin (op := fsub) (P := fun j => fmul (A j) (X j)) (fun _ _ => fsub_fin) hS fS
  have kW := row_fin (op := fadd) (P := fun j => fmul (fabs (A j)) (fabs (X j))) (fun _ _ => fadd_fin) hW fW
  have lS : ∀ j, j ≤ n → S j < 2 ^ 64 := fun j hj => by
    cases j with
    | zero => exact h0
    | succ j => rw [hS j (by omega)]; exact fsub_lt _ _
  have lW : ∀ j, j ≤ n → W j < 2 ^ 64 := fun j hj => by
    cases j with
    | zero => rw [w0]; exact fabs_lt h0
    | succ j => rw [hW j (by omega)]; exact fadd_lt _ _
  constructor
  · have := sum_err (fun j => val (S j)) (fun j => -(val (fmul (A j) (X j)))) (fun j => -(val (A j) * val (X j))) n hn ?_ ?_ n (Nat.le_refl _)
    · exact this
    · intro j hj
      have h1 := fmul_err ((kS j (by omega)).2 hj)
      show (-(val (fmul (A j) (X j))) - -(val (A j) * val (X j))).abs ≤ U * (-(val (A j) * val (X j))).abs + ETA
      rw [Rat.abs_neg, show -(val (fmul (A j) (X j))) - -(val (A j) * val (X j)) = -(val (fmul (A j) (X j)) - val (A j) * val (X j)) by grind, Rat.abs_neg]
      exact h1
    · intro j hj
      have h1 := (kS (j + 1) (by omega)).1
      have h2 := hS j hj
      show (val (S (j + 1)) - (val (S j) + -(val (fmul (A j) (X j))))).abs ≤ U * (val (S j) + -(val (fmul (A j) (X j)))).abs
      rw [h2] at h1 ⊢
      have := fsub_err' (lS j (by omega)) (fmul_lt _ _) h1
      rw [show val (S j) + -(val (fmul (A j) (X j))) = val (S j) - val (fmul (A j) (X j)) by grind]
      exact this
  · have f0 := (kS 0 (by omega)).1
    have v0 : val (W 0) = (val (S 0)).abs := by rw [w0]; exact (fabs_val h0).2 f0
    have eB : ∀ k, exS (val (S 0)).abs (fun j => (val (A j) * val (X j)).abs) k = exB (val (S 0)) (fun j => -(val (A j) * val (X j))) k ∧ exB (val (S 0)).abs (fun j => (val (A j) * val (X j)).abs) k = exB (val (S 0)) (fun j => -(val (A j) * val (X j))) k := by
      intro k
      induction k with
      | zero => exact ⟨rfl, Rat.abs_of_nonneg Rat.abs_nonneg⟩
      | succ k ih =>
        have e1 : (-(val (A k) * val (X k))).abs = (val (A k) * val (X k)).abs := Rat.abs_neg
        refine ⟨?_, ?_⟩
        · show exS _ _ k + (val (A k) * val (X k)).abs = exB _ _ k + (-(val (A k) * val (X k))).abs
          rw [ih.1, e1]
        · show exB _ _ k + ((val (A k) * val (X k)).abs).abs = exB _ _ k + (-(val (A k) * val (X k))).abs
          rw [ih.2, e1, Rat.abs_of_nonneg Rat.abs_nonneg]
    have := sum_err (fun j => val (W j)) (fun j => val (fmul (fabs (A j)) (fabs (X j)))) (fun j => (val (A j) * val (X j)).abs) n hn ?_ ?_ n (Nat.le_refl _)
    · have this' : (val (W n) - exS (val (W 0)) (fun j => (val (A j) * val (X j)).abs) n).abs ≤ (n + 1) * (33 / 32) * (U * exB (val (W 0)) (fun j => (val (A j) * val (X j)).abs) n) + 2 * n * ETA := this
      rw [v0, (eB n).1, (eB n).2] at this'
      exact this'
    · intro j hj
      have h1 := (kW j (by omega)).2 hj
      have h2 := fmul_err h1
      obtain ⟨h3, h4⟩ := fmul_fin h1
      rw [(fabs_val (hA j)).1] at h3
      rw [(fabs_val (hX j)).1] at h4
      rw [(fabs_val (hA j)).2 h3, (fabs_val (hX j)).2 h4] at h2
      have e1 : (val (A j)).abs * (val (X j)).abs = (val (A j) * val (X j)).abs := by
        rcases Rat.le_total (a := 0) (b := val (A j)) with p | p <;> rcases Rat.le_total (a := 0) (b := val (X j)) with q | q
        · rw [Rat.abs_of_nonneg p, Rat.abs_of_nonneg q, Rat.abs_of_nonneg (Rat.mul_nonneg p q)]
        · rw [Rat.abs_of_nonneg p, Rat.abs_of_nonpos q, Rat.abs_of_nonpos (by have := Rat.mul_nonneg p (show 0 ≤ -(val (X j)) by grind); grind)]; grind
        · rw [Rat.abs_of_nonpos p, Rat.abs_of_nonneg q, Rat.abs_of_nonpos (by have := Rat.mul_nonneg (show 0 ≤ -(val (A j)) by grind) q; grind)]; grind
        · rw [Rat.abs_of_nonpos p, Rat.abs_of_nonpos q, Rat.abs_of_nonneg (by have := Rat.mul_nonneg (show 0 ≤ -(val (A j)) by grind) (show 0 ≤ -(val (X j)) by grind); grind)]; grind
      rw [e1] at h2
      show (val (fmul (fabs (A j)) (fabs (X j))) - (val (A j) * val (X j)).abs).abs ≤ U * ((val (A j) * val (X j)).abs).abs + ETA
      rw [Rat.abs_of_nonneg (Rat.abs_nonneg (x := val (A j) * val (X j)))] at h2 ⊢
      exact h2
    · intro j hj
      have h1 := (kW (j + 1) (by omega)).1
      have h2 := hW j hj
      show (val (W (j + 1)) - (val (W j) + val (fmul (fabs (A j)) (fabs (X j))))).abs ≤ U * (val (W j) + val (fmul (fabs (A j)) (fabs (X j)))).abs
      rw [h2] at h1 ⊢
      exact fadd_err' (lW j (by omega)) (fmul_lt _ _) h1
/-- THE BOUND: with what both are off, twice. -/
theorem bound_law {S W : Nat → Nat} {A X : Nat → Nat} {n g t : Nat} (hn : n ≤ 16) (hA : ∀ j, A j < 2 ^ 64) (hX : ∀ j, X j < 2 ^ 64) (h0 : S 0 < 2 ^ 64) (hS : ∀ j, j < n → S (j + 1) = fsub (S j) (fmul (A j) (X j)))
    (w0 : W 0 = fabs (S 0)) (hW : ∀ j, j < n → W (j + 1) = fadd (W j) (fmul (fabs (A j)) (fabs (X j)))) (hg : val g = ((n : Rat) + 3) * (2 * U)) (ht : val t = ((n : Rat) + 3) * (32 * ETA)) (htl : t < 2 ^ 64)
    (hf : fin (fadd (fadd (fabs (S n)) (fmul g (W n))) t) = true) :
    (exS (val (S 0)) (fun j => -(val (A j) * val (X j))) n).abs + ((n + 1) * (33 / 32) * (U * exB (val (S 0)) (fun j => -(val (A j) * val (X j))) n) + 2 * n * ETA) ≤ val (fadd (fadd (fabs (S n)) (fmul g (W n))) t) ∧ fin (S n) = true ∧ fin (W n) = true := by
  obtain ⟨f1, f2⟩ := fadd_fin hf
  obtain ⟨f3, f4⟩ := fadd_fin f1
  obtain ⟨f5, f6⟩ := fmul_fin f4
  have hSl : S n < 2 ^ 64 := by
    cases n with
    | zero => exact h0
    | succ n => rw [hS n (by omega)]; exact fsub_lt _ _
  have fS : fin (S n) = true := by rw [← (fabs_val hSl).1]; exact f3
  obtain ⟨e1, e2⟩ := rest_err (by omega) hA hX h0 hS w0 hW fS f6
  have hn0 : (0 : Rat) ≤ n := Rat.natCast_nonneg
  have hn16 : (n : Rat) ≤ 16 := by
    have := Rat.natCast_le_natCast.2 hn
    simpa using this
  have hp := fmul_err f4
  have hq := fadd_err' (fabs_lt hSl) (fmul_lt _ _) f1
  have hff := fadd_err' (fadd_lt _ _) htl hf
  rw [(fabs_val hSl).2 fS] at hq
  rw [ht] at hff
  rw [hg] at hp
  have := rest_ineq hn0 hn16 (exB_nonneg _ _ n) rfl (exS_le _ _ n) e1 e2 rfl rfl hp hq hff
  refine ⟨?_, fS, f6⟩
  have h3 := abs_add_le (val (S n)) (exS (val (S 0)) (fun j => -(val (A j) * val (X j))) n - val (S n))
  rw [abs_sub_comm] at e1
  rw [show val (S n) + (exS (val (S 0)) (fun j => -(val (A j) * val (X j))) n - val (S n)) = exS (val (S 0)) (fun j => -(val (A j) * val (X j))) n by grind] at h3
  grind
end Sedge
end
section
/-
  Plain: quotients.
-/
set_option linter.unusedSimpArgs false
set_option linter.unusedVariables false
namespace Sedge
open Ieee
theorem dat_ne {s : Bool} {m : Nat} {p : Int} (h : dat s m p ≠ 0) : m ≠ 0 := fun h0 => by subst h0; exact h (dat_zero s p)
theorem dat_eq_zero {s : Bool} {m : Nat} {p : Int} (h : dat s m p = 0) : m = 0 := by
  rcases Nat.eq_zero_or_pos m with h0 | h0
  · exact h0
  · exfalso
    have h1 : (dat s m p).abs = (m : Rat) * p2 p := dat_abs s m p
    rw [h] at h1
    have h2 : (0 : Rat).abs = 0 := by decide +kernel
    rw [h2] at h1
    have h3 : (0 : Rat) < m := Rat.natCast_pos.2 h0
    have := Rat.mul_pos h3 (p2_pos p)
    rw [← h1] at this
    exact absurd this (by decide +kernel)
/-- The digits of a quotient. -/
theorem quot_digits {m n more : Nat} (hm : m ≠ 0) (hn : n ≠ 0) (hmore : more = 54 + n.log2 - m.log2) :
    2 ^ 53 * n ≤ m <<< more ∧ ((2 * ((m <<< more) / n) + ((m <<< more) % n != 0).toNat) * n ≤ 2 * (m <<< more) + n) ∧ (2 * (m <<< more) ≤ (2 * ((m <<< more) / n) + ((m <<< more) % n != 0).toNat) * n + n) := by
  have h1 : 2 ^ 53 * n ≤ m <<< more := by
    rw [Nat.shiftLeft_eq]
    have a1 := (log2_spec m hm).1
    have a2 := (log2_spec n hn).2
    have a3 : 2 ^ m.log2 * 2 ^ more ≤ m * 2 ^ more := Nat.mul_le_mul_right _ a1
    rw [← Nat.pow_add] at a3
    have a4 : 2 ^ (54 + n.log2) ≤ 2 ^ (m.log2 + more) := Nat.pow_le_pow_right (by decide) (by omega)
    have a5 : 2 ^ (54 + n.log2) = 2 ^ 53 * 2 ^ (n.log2 + 1) := by rw [← Nat.pow_add]; congr 1; omega
    have a6 : 2 ^ 53 * n ≤ 2 ^ 53 * 2 ^ (n.log2 + 1) := Nat.mul_le_mul_left _ (Nat.le_of_lt a2)
    omega
  refine ⟨h1, ?_⟩
  generalize m <<< more = d at *
  have hd := Nat.div_add_mod d n
  have hr := Nat.mod_lt d (Nat.pos_of_ne_zero hn)
  generalize d / n = q at *
  generalize d % n = r at *
  have e1 : (2 * q + (r != 0).toNat) * n = 2 * (n * q) + (r != 0).toNat * n := by rw [Nat.add_mul, Nat.mul_assoc, Nat.mul_comm q n]
  rw [e1]
  by_cases h0 : r = 0
  · subst h0; simp; omega
  · have : (r != 0) = true := by simpa using h0
    rw [this]; simp; omega
theorem fdiv_read {x y : Nat} (hx : fin x = true) (hy : fin y = true) (hy0 : val y ≠ 0) : ∃ c z b, fdiv x y = D64.write (.number c z b) ∧ (dat c z b * val y - val x).abs ≤ U * (val x).abs := by
  obtain ⟨s, m, i, hx⟩ := (fin_iff x).1 hx
  obtain ⟨t, n, j, hy⟩ := (fin_iff y).1 hy
  rw [val_of hy] at hy0 ⊢
  rw [val_of hx]
  have hn := dat_ne hy0
  refine ⟨s ^^ t, 2 * ((m <<< (54 + n.log2 - m.log2)) / n) + ((m <<< (54 + n.log2 - m.log2)) % n != 0).toNat, i - j - ((54 + n.log2 - m.log2 : Nat) : Int) - 1, ?_, ?_⟩
  · unfold fdiv Format.div; rw [hx, hy]; simp only [Datum.quotient, if_neg hn]; rfl
  by_cases hm : m = 0
  · subst hm
    have e0 : (0 : Nat) <<< (54 + n.log2 - Nat.log2 0) = 0 := by rw [Nat.shiftLeft_eq]; simp
    rw [e0]
    have e1 : 2 * (0 / n) + (0 % n != 0).toNat = 0 := by simp
    rw [e1, dat_zero, dat_zero]
    have : ((0 : Rat) * dat t n j - 0).abs = 0 := by rw [show (0 : Rat) * dat t n j - 0 = 0 by grind]; decide +kernel
    rw [this]
    have h2 : (0 : Rat).abs = 0 := by decide +kernel
    rw [h2]; grind
  obtain ⟨h1, h2, h3⟩ := quot_digits hm hn rfl
  generalize hmo : 54 + n.log2 - m.log2 = more at *
  generalize hq : 2 * (m <<< more / n) + (m <<< more % n != 0).toNat = Q at *
  have hd : m <<< more = m * 2 ^ more := Nat.shiftLeft_eq m more
  rw [hd] at h1 h2 h3
  -- in units of 2^(i - more - 1)
  have e1 : dat (s ^^ t) Q (i - j - more - 1) * dat t n j - dat s m i = sgn s * (((Q * n : Nat) : Rat) - ((2 * (m * 2 ^ more) : Nat) : Rat)) * p2 (i - more - 1) := by
    unfold dat
    rw [sgn_xor]
    have a1 : p2 (i - j - more - 1) * p2 j = p2 (i - more - 1) := by rw [← p2_add]; congr 1; omega
    have a2 : p2 i = 2 * ((2 ^ more : Nat) : Rat) * p2 (i - more - 1) := by
      rw [← p2_nat, ← p2_succ, ← p2_add]; congr 1; omega
    have a3 := sgn_sq t
    rw [a2]
    simp only [Rat.natCast_mul]
    have b1 : ((2 : Nat) : Rat) = 2 := rfl
    rw [b1]
    grind
  rw [e1]
  have h1' := Rat.natCast_le_natCast.2 h1
  have h2' := Rat.natCast_le_natCast.2 h2
  have h3' := Rat.natCast_le_natCast.2 h3
  have e2 : (dat s m i).abs = ((2 * (m * 2 ^ more) : Nat) : Rat) * p2 (i - more - 1) := by
    rw [dat_abs]
    have a2 : p2 i = 2 * ((2 ^ more : Nat) : Rat) * p2 (i - more - 1) := by
      rw [← p2_nat, ← p2_succ, ← p2_add]; congr 1; omega
    rw [a2]
    simp only [Rat.natCast_mul]
    have b1 : ((2 : Nat) : Rat) = 2 := rfl
    rw [b1]
    grind
  rw [e2]
  have hp := p2_pos (i - more - 1)
  rw [Rat.mul_assoc, abs_sgn_mul]
  have e3 : ((2 ^ 53 * n : Nat) : Rat) = p2 53 * (n : Rat) := by rw [Rat.natCast_mul, ← p2_nat]; rfl
  have e4 : p2 53 * U = 1 := by unfold U; exact p2_inv 53
  have hU := U_pos
  have c1 : ((n : Nat) : Rat) ≤ U * ((2 * (m * 2 ^ more) : Nat) : Rat) := by
    rw [e3] at h1'
    have := Rat.mul_le_mul_of_nonneg_left h1' (Rat.le_of_lt hU)
    have e5 : ((2 * (m * 2 ^ more) : Nat) : Rat) = 2 * ((m * 2 ^ more : Nat) : Rat) := by rw [Rat.natCast_mul]; rfl
    rw [e5]
    have p0 : 0 ≤ U * ((m * 2 ^ more : Nat) : Rat) := Rat.mul_nonneg (Rat.le_of_lt hU) Rat.natCast_nonneg
    have : U * (p2 53 * (n : Rat)) = n := by
      have : U * (p2 53 * (n : Rat)) = p2 53 * U * n := by grind
      rw [this, e4]; grind
    grind
  rw [Rat.natCast_add] at h2' h3'
  generalize ((2 * (m * 2 ^ more) : Nat) : Rat) = D at *
  generalize ((Q * n : Nat) : Rat) = R at *
  have k1 := Rat.mul_le_mul_of_nonneg_right (show R - D ≤ U * D by grind) (Rat.le_of_lt hp)
  have k2 := Rat.mul_le_mul_of_nonneg_right (show -(U * D) ≤ R - D by grind) (Rat.le_of_lt hp)
  exact abs_le_of (by grind) (by grind)
theorem abs_mul (x y : Rat) : (x * y).abs = x.abs * y.abs := by
  rcases Rat.le_total (a := 0) (b := x) with p | p <;> rcases Rat.le_total (a := 0) (b := y) with q | q
  · rw [Rat.abs_of_nonneg p, Rat.abs_of_nonneg q, Rat.abs_of_nonneg (Rat.mul_nonneg p q)]
  · rw [Rat.abs_of_nonneg p, Rat.abs_of_nonpos q, Rat.abs_of_nonpos (by have := Rat.mul_nonneg p (show 0 ≤ -y by grind); grind)]; grind
  · rw [Rat.abs_of_nonpos p, Rat.abs_of_nonneg q, Rat.abs_of_nonpos (by have := Rat.mul_nonneg (show 0 ≤ -x by grind) q; grind)]; grind
  · rw [Rat.abs_of_nonpos p, Rat.abs_of_nonpos q, Rat.abs_of_nonneg (by have := Rat.mul_nonneg (show 0 ≤ -x by grind) (show 0 ≤ -y by grind); grind)]; grind
/-- A QUOTIENT, TIMES WHAT DIVIDED. -/
theorem fdiv_err {x y : Nat} (hx : fin x = true) (hy : fin y = true) (hy0 : val y ≠ 0) (h : fin (fdiv x y) = true) : (val (fdiv x y) * val y - val x).abs ≤ 3 * U * (val x).abs + ETA * (val y).abs := by
  obtain ⟨c, z, b, h1, h2⟩ := fdiv_read hx hy hy0
  rw [h1] at h ⊢
  have h3 := write_err c z b h
  generalize val (D64.write (.number c z b)) = q at *
  generalize dat c z b = d at *
  generalize val x = X at *
  generalize val y = Y at *
  have a1 := abs_add_le ((q - d) * Y) (d * Y - X)
  rw [show (q - d) * Y + (d * Y - X) = q * Y - X by grind, abs_mul] at a1
  have y0 : 0 ≤ Y.abs := Rat.abs_nonneg
  have a2 := Rat.mul_le_mul_of_nonneg_right h3 y0
  have a3 := abs_add_le X (d * Y - X)
  rw [show X + (d * Y - X) = d * Y by grind, abs_mul] at a3
  have hU := U_pos
  have hU1 := U_le
  have x0 : 0 ≤ X.abs := Rat.abs_nonneg
  have a4 := Rat.mul_le_mul_of_nonneg_left a3 (Rat.le_of_lt hU)
  have a5 := Rat.mul_le_mul_of_nonneg_left h2 (Rat.le_of_lt hU)
  have ux : 0 ≤ U * X.abs := Rat.mul_nonneg (Rat.le_of_lt hU) x0
  have a6 := Rat.mul_le_mul_of_nonneg_right hU1 ux
  grind
/-- What a quotient that is finite was made of. -/
theorem fdiv_fin {x y : Nat} (h : fin (fdiv x y) = true) : fin x = true := by
  obtain ⟨s, m, p, ho⟩ := fin_getD h (fun d hd => quotient_notnan hd)
  refine (fin_iff _).2 ?_
  revert ho
  cases D64.read x <;> cases D64.read y <;> simp [Datum.quotient]
end Sedge
end
section
/-
  Plain: the backward error of a row is one.
-/
set_option linter.unusedSimpArgs false
set_option linter.unusedVariables false
namespace Sedge
open Ieee
/-! Words that are not below 0. -/
def nnD : Datum → Prop
  | .number s m _ => s = false ∨ m = 0
  | .infinity s => s = false
  | .nan .. => True
def nn (x : Nat) : Prop := nnD (D64.read x)
theorem nn_word (s : Bool) (n : Nat) (hn : n ≤ IR) (h : s = false ∨ n = 0) : nn (D64.word s n) := by
  unfold nn
  have hI : IR < SW := by decide +kernel
  rw [read_word s n (by omega)]
  split
  · rcases h with h | h
    · exact .inl h
    · exact .inr h
  · rename_i h1
    have hs : s = false := by
      rcases h with h | h
      · exact h
      · subst h; exact absurd (show 0 < BN by decide +kernel) h1
    split
    · exact .inl hs
    · split
      · exact hs
      · trivial
theorem nn_write (d : Datum) (h : nnD d) (hn : d.isNaN = false) : nn (D64.write d) := by
  cases d with
  | number s m p =>
    show nn (D64.nearest s m p)
    by_cases h0 : m = 0
    · subst h0
      have e : D64.nearest s 0 p = D64.word s 0 := by unfold Format.nearest; rw [if_pos rfl]
      rw [e]; exact nn_word s 0 (Nat.zero_le _) (.inr rfl)
    · rw [nearest_eq s m p h0]
      refine nn_word s _ (Nat.min_le_right _ _) (.inl ?_)
      rcases h with h | h
      · exact h
      · exact absurd h h0
  | infinity s =>
    have e : D64.write (.infinity s) = D64.word s IR := by cases s <;> decide +kernel
    rw [e]; exact nn_word s IR (Nat.le_refl _) (.inl h)
  | nan s t => cases hn
theorem nn_QN : nn QN := by
  unfold nn
  have : (D64.read QN).isNaN = true := isNan_QN
  revert this
  cases D64.read QN <;> simp [Datum.isNaN, nnD]
theorem nn_op {o : Option Datum} (h : ∀ d, o = some d → nnD d) (hn : ∀ d, o = some d → d.isNaN = false) : nn ((o.map D64.write).getD QN) := by
  cases o with
  | none => exact nn_QN
  | some d => exact nn_write d (h d rfl) (hn d rfl)
theorem nn_signed {s : Bool} {m k : Nat} (h : s = false ∨ m = 0) : 0 ≤ signed s m k := by
  unfold signed
  rcases h with h | h
  · subst h; simp only [Bool.false_eq_true, if_false]; exact Int.natCast_nonneg _
  · subst h; simp [Nat.shiftLeft_eq]
theorem nn_fadd {x y : Nat} (hx : nn x) (hy : nn y) : nn (fadd x y) := by
  refine nn_op (fun d hd => ?_) (fun d hd => sum_notnan hd)
  unfold nn at hx hy
  revert hd hx hy
  cases D64.read x <;> cases D64.read y <;> simp only [Datum.sum, nnD]
  · rename_i s m i t n j
    intro h1 h2 h3
    cases h3
    have a1 := nn_signed (k := (i - min i j).toNat) h1
    have a2 := nn_signed (k := (j - min i j).toNat) h2
    rcases Int.lt_or_le 0 (signed s m (i - min i j).toNat + signed t n (j - min i j).toNat) with h | h
    · left
      simp only [show ¬ (signed s m (i - min i j).toNat + signed t n (j - min i j).toNat = 0) by omega, if_false]
      simp; omega
    · right; omega
  all_goals first | (intro h1 h2 h3; cases h3; first | exact h1 | exact h2) | (intro h1 h2 h3; split at h3 <;> cases h3; first | exact h1 | exact h2) | (intro h1 h2 h3; cases h3)
theorem nn_fmul {x y : Nat} (hx : nn x) (hy : nn y) : nn (fmul x y) := by
  refine nn_op (fun d hd => ?_) (fun d hd => product_notnan hd)
  unfold nn at hx hy
  revert hd hx hy
  cases D64.read x <;> cases D64.read y <;> simp only [Datum.product, nnD]
  · intro h1 h2 h3
    cases h3
    rcases h1 with rfl | rfl
    · rcases h2 with rfl | rfl
      · left; rfl
      · right; simp
    · right; simp
  all_goals first | (intro h1 h2 h3; cases h3; done) | (intro h1 h2 h3; cases h3; simp_all; done) | (intro h1 h2 h3; split at h3 <;> cases h3; simp_all [nnD])
theorem nn_fdiv {x y : Nat} (hx : nn x) (hy : nn y) (h0 : ∀ s p, D64.read y ≠ .number s 0 p) : nn (fdiv x y) := by
  refine nn_op (fun d hd => ?_) (fun d hd => quotient_notnan hd)
  unfold nn at hx hy
  revert hd hx hy h0
  cases D64.read x <;> cases D64.read y <;> simp only [Datum.quotient, nnD]
  · rename_i s m i t n j
    intro h1 h2 h0 h3
    by_cases hn : n = 0
    · subst hn; exact absurd rfl (h0 t j)
    · rw [if_neg hn] at h3
      cases h3
      have ht : t = false := by
        rcases h2 with h2 | h2
        · exact h2
        · exact absurd h2 hn
      subst ht
      rcases h1 with rfl | rfl
      · left; rfl
      · right; simp [Nat.shiftLeft_eq]
  · intro h1 h2 h0 h3
    cases h3
    exact .inr rfl
  case infinity.number s t n j =>
    intro h1 h2 h0 h3
    cases h3
    subst h1
    rcases h2 with rfl | rfl
    · show (false ^^ false) = false
      rfl
    · exact absurd rfl (h0 t j)
  all_goals (intro h1 h2 h0 h3; cases h3)
theorem nn_fabs {x : Nat} (hx : x < 2 ^ 64) : nn (fabs x) := by
  unfold nn
  rw [read_eq _ (fabs_lt hx), pNeg_abs]
  split
  · exact .inl rfl
  · split
    · rfl
    · trivial
theorem nn_val {x : Nat} (h : nn x) (hf : fin x = true) : 0 ≤ val x := by
  obtain ⟨s, m, p, hr⟩ := (fin_iff x).1 hf
  unfold nn at h
  rw [hr] at h
  rw [val_of hr]
  rcases h with rfl | rfl
  · unfold dat sgn
    have := Rat.mul_nonneg (Rat.natCast_nonneg (a := m)) (Rat.le_of_lt (p2_pos p))
    simp; exact this
  · rw [dat_zero]; exact Rat.le_refl
/-- How finite numbers are ordered. -/
theorem order_val {x y : Nat} (hx : fin x = true) (hy : fin y = true) : (fgt x y = true ↔ val y < val x) ∧ (feq x y = true ↔ val x = val y) ∧ (flt x y = true ↔ val x < val y) := by
  obtain ⟨s, m, i, hx⟩ := (fin_iff x).1 hx
  obtain ⟨t, n, j, hy⟩ := (fin_iff y).1 hy
  have h1 := signed_val s m (i - min i j).toNat (min i j)
  have h2 := signed_val t n (j - min i j).toNat (min i j)
  rw [show min i j + ((i - min i j).toNat : Int) = i by omega] at h1
  rw [show min i j + ((j - min i j).toNat : Int) = j by omega] at h2
  have e : D64.order x y = some (compare (signed s m (i - min i j).toNat) (signed t n (j - min i j).toNat)) := by
    unfold Format.order; rw [hx, hy]; rfl
  rw [val_of hx, val_of hy, ← h1, ← h2]
  unfold fgt feq flt
  rw [e]
  generalize signed s m (i - min i j).toNat = a
  generalize signed t n (j - min i j).toNat = b
  have hp := p2_pos (min i j)
  generalize p2 (min i j) = g at *
  have key : ∀ c d : Int, c < d → (c : Rat) * g < (d : Rat) * g := fun c d h => Rat.mul_lt_mul_of_pos_right (Rat.intCast_lt_intCast.2 h) hp
  have irr : ∀ r : Rat, ¬ r < r := fun r => Rat.lt_irrefl
  rw [some_beq, some_beq, some_beq, cmp_gt, cmp_eq, cmp_lt]
  simp only [decide_eq_true_eq]
  rcases Int.lt_trichotomy a b with h | h | h
  · have := key a b h
    refine ⟨⟨fun h' => by omega, fun h' => by grind⟩, ⟨fun h' => by omega, fun h' => by grind⟩, ⟨fun _ => this, fun _ => h⟩⟩
  · subst h
    refine ⟨⟨fun h' => by omega, fun h' => absurd h' (irr _)⟩, ⟨fun _ => rfl, fun _ => rfl⟩, ⟨fun h' => by omega, fun h' => absurd h' (irr _)⟩⟩
  · have := key b a h
    refine ⟨⟨fun _ => this, fun _ => h⟩, ⟨fun h' => by omega, fun h' => by grind⟩, ⟨fun h' => by omega, fun h' => by grind⟩⟩
theorem back_ineq {B X E F w ρ q1 qv : Rat} (hB : 0 ≤ B) (hXE : X.abs + E ≤ F) (hEU : U * B ≤ E) (hw : (w - B).abs ≤ E) (w0 : 0 < w) (r0 : 0 ≤ ρ) (hr : (ρ * w - F).abs ≤ 3 * U * F.abs + ETA * w.abs)
    (h1 : (q1 - ρ * (8 * U)).abs ≤ U * (ρ * (8 * U)).abs + ETA) (hq : (qv - (ρ + q1)).abs ≤ U * (ρ + q1).abs) (q0 : 0 ≤ qv) (hle : qv ≤ 1) (hq1 : 0 ≤ q1) : X.abs ≤ qv * B := by
  have hU := U_pos
  have hU1 := U_tiny
  have hEt := ETA_pos
  have uB : 0 ≤ U * B := Rat.mul_nonneg (Rat.le_of_lt hU) hB
  have E0 : 0 ≤ E := Rat.le_trans uB hEU
  have X0 : 0 ≤ X.abs := Rat.abs_nonneg
  have F0 : 0 ≤ F := by grind
  have w0' := Rat.le_of_lt w0
  rw [Rat.abs_of_nonneg F0, Rat.abs_of_nonneg w0'] at hr
  have tiny : ∀ x : Rat, 0 ≤ x → 1048576 * (U * x) ≤ x := fun x hx => by
    have := Rat.mul_le_mul_of_nonneg_right hU1 hx
    grind
  have pos : ∀ x : Rat, 0 ≤ x → 0 ≤ U * x := fun x hx => Rat.mul_nonneg (Rat.le_of_lt hU) hx
  have ur := pos ρ r0
  have uur := pos _ ur
  have tur := tiny _ ur
  have tr := tiny ρ r0
  have e1 : ρ * (8 * U) = 8 * (U * ρ) := by grind
  rw [e1, Rat.abs_of_nonneg (show 0 ≤ 8 * (U * ρ) by grind)] at h1
  have a1 := neg_le_abs (q1 - 8 * (U * ρ))
  have a1' := le_abs (q1 - 8 * (U * ρ))
  have e2 : U * (8 * (U * ρ)) = 8 * (U * (U * ρ)) := by grind
  rw [Rat.abs_of_nonneg (show 0 ≤ ρ + q1 by grind)] at hq
  have a2 := neg_le_abs (qv - (ρ + q1))
  have e3 : U * (ρ + q1) = U * ρ + U * q1 := by grind
  have uq1 : U * q1 ≤ U * (9 * (U * ρ) + ETA) := Rat.mul_le_mul_of_nonneg_left (by grind) (Rat.le_of_lt hU)
  have e4 : U * (9 * (U * ρ) + ETA) = 9 * (U * (U * ρ)) + U * ETA := by grind
  have tE := tiny ETA (Rat.le_of_lt hEt)
  -- qv >= rho (1 + 6U) - 2 ETA
  have k1 : ρ + 6 * (U * ρ) - 2 * ETA ≤ qv := by grind
  -- times w
  have k2 := Rat.mul_le_mul_of_nonneg_right k1 w0'
  have a3 := neg_le_abs (ρ * w - F)
  have e5 : (ρ + 6 * (U * ρ) - 2 * ETA) * w = ρ * w + 6 * (U * (ρ * w)) - 2 * (ETA * w) := by grind
  have k3 : F - 3 * (U * F) - ETA * w ≤ ρ * w := by grind
  have k4 : U * (F - 3 * (U * F) - ETA * w) ≤ U * (ρ * w) := Rat.mul_le_mul_of_nonneg_left k3 (Rat.le_of_lt hU)
  have e6 : U * (F - 3 * (U * F) - ETA * w) = U * F - 3 * (U * (U * F)) - U * (ETA * w) := by grind
  have uF := pos F F0
  have tuF := tiny _ uF
  have ew : 0 ≤ ETA * w := Rat.mul_nonneg (Rat.le_of_lt hEt) w0'
  have tew := tiny _ ew
  have k5 : F + 2 * (U * F) - 4 * (ETA * w) ≤ qv * w := by grind
  -- U F covers ETA w
  have b1 := le_abs (w - B)
  have uw : U * w ≤ U * (B + E) := Rat.mul_le_mul_of_nonneg_left (by grind) (Rat.le_of_lt hU)
  have e7 : U * (B + E) = U * B + U * E := by grind
  have tEE := tiny E E0
  have c1 : U * w ≤ 2 * F := by grind
  have c2 : U * (U * w) ≤ U * (2 * F) := Rat.mul_le_mul_of_nonneg_left c1 (Rat.le_of_lt hU)
  have c3 : 4 * ETA ≤ U * U := by unfold ETA U; decide +kernel
  have c4 := Rat.mul_le_mul_of_nonneg_right c3 w0'
  have e8 : U * U * w = U * (U * w) := by grind
  have e9 : U * (2 * F) = 2 * (U * F) := by grind
  have k6 : F ≤ qv * w := by grind
  -- B >= w - E
  have d1 : w - E ≤ B := by grind
  have d2 := Rat.mul_le_mul_of_nonneg_left d1 q0
  have d3 := Rat.mul_le_mul_of_nonneg_right hle E0
  have e10 : qv * (w - E) = qv * w - qv * E := by grind
  grind
/-- THE BACKWARD ERROR OF A ROW. -/
theorem back_law {S W : Nat → Nat} {A X : Nat → Nat} {n g t tw : Nat} (hn : n ≤ 16) (hA : ∀ j, A j < 2 ^ 64) (hX : ∀ j, X j < 2 ^ 64) (h0 : S 0 < 2 ^ 64) (hS : ∀ j, j < n → S (j + 1) = fsub (S j) (fmul (A j) (X j)))
    (w0 : W 0 = fabs (S 0)) (hW : ∀ j, j < n → W (j + 1) = fadd (W j) (fmul (fabs (A j)) (fabs (X j)))) (hg : val g = ((n : Rat) + 3) * (2 * U)) (ht : val t = ((n : Rat) + 3) * (32 * ETA)) (htl : t < 2 ^ 64) (ng : nn g) (nt : nn t)
    (htw : val tw = 8 * U) (ntw : nn tw) (hnz : feq (W n) 0 = false) {f Q q : Nat} (hf : f = fadd (fadd (fabs (S n)) (fmul g (W n))) t) (hQ : Q = fadd (fdiv f (W n)) (fmul (fdiv f (W n)) tw))
    (hq : q = if fgt Q 4607182418800017408 = true then 4607182418800017408 else Q) (hnan : isNan q = false) :
    fin q = true ∧ 0 ≤ val q ∧ val q ≤ 1 ∧ ∀ v, val q ≤ v → (exS (val (S 0)) (fun j => -(val (A j) * val (X j))) n).abs ≤ v * exB (val (S 0)) (fun j => -(val (A j) * val (X j))) n := by
  have hB := exB_nonneg (val (S 0)) (fun j => -(val (A j) * val (X j))) n
  have hXB := exS_le (val (S 0)) (fun j => -(val (A j) * val (X j))) n
  have f1 : fin 4607182418800017408 = true := by decide +kernel
  have v1 : val 4607182418800017408 = 1 := by decide +kernel
  have f0 : fin 0 = true := by decide +kernel
  have v0 : val 0 = 0 := by decide +kernel
  have fin1 : ∀ v, val q ≤ v → q = 4607182418800017408 → (exS (val (S 0)) (fun j => -(val (A j) * val (X j))) n).abs ≤ v * exB (val (S 0)) (fun j => -(val (A j) * val (X j))) n := fun v hv e => by
    rw [e, v1] at hv
    have := Rat.mul_le_mul_of_nonneg_right hv hB
    grind
  -- not below 0
  have nW : ∀ j, j ≤ n → nn (W j) := fun j => by
    induction j with
    | zero => intro _; rw [w0]; exact nn_fabs h0
    | succ j ih => intro hj; rw [hW j (by omega)]; exact nn_fadd (ih (by omega)) (nn_fmul (nn_fabs (hA j)) (nn_fabs (hX j)))
  have hSl : S n < 2 ^ 64 := by
    cases n with
    | zero => exact h0
    | succ n => rw [hS n (by omega)]; exact fsub_lt _ _
  have nf : nn f := by rw [hf]; exact nn_fadd (nn_fadd (nn_fabs hSl) (nn_fmul ng (nW n (Nat.le_refl _)))) nt
  have wz : ∀ s p, D64.read (W n) ≠ .number s 0 p := fun s p hr => by
    have h2 : fin (W n) = true := fin_of_read hr
    have h3 : feq (W n) 0 = true := (order_val h2 f0).2.1.2 (by rw [val_of hr, dat_zero, v0])
    rw [h3] at hnz; cases hnz
  have nq : nn (fdiv f (W n)) := nn_fdiv nf (nW n (Nat.le_refl _)) wz
  have nQ : nn Q := by rw [hQ]; exact nn_fadd nq (nn_fmul nq ntw)
  by_cases hgt : fgt Q 4607182418800017408 = true
  · rw [if_pos hgt] at hq
    refine ⟨by rw [hq]; exact f1, by rw [hq, v1]; decide +kernel, by rw [hq, v1]; exact Rat.le_refl, fun v hv => fin1 v hv hq⟩
  · rw [if_neg hgt] at hq
    subst hq
    have hfq : fin q = true := by
      rcases read_number_or q with ⟨s, m, p, h⟩ | ⟨s, h⟩ | ⟨s, t, h⟩
      · exact fin_of_read h
      · exfalso
        unfold nn at nQ
        rw [h] at nQ
        cases nQ
        refine hgt ?_
        unfold fgt Format.order
        rw [h]
        have : D64.read 4607182418800017408 = .number false 4503599627370496 (-52) := read_one
        rw [this]
        rfl
      · exfalso
        unfold isNan at hnan
        rw [h] at hnan
        cases hnan
    have hle : val q ≤ 1 := by
      have := (order_val hfq f1).1
      rw [v1] at this
      rcases Rat.le_total (a := val q) (b := 1) with h | h
      · exact h
      · by_cases h2 : (1 : Rat) < val q
        · exact absurd (this.2 h2) hgt
        · grind
    have hq0 : 0 ≤ val q := nn_val nQ hfq
    refine ⟨hfq, hq0, hle, fun v hv => ?_⟩
    rw [hQ] at hfq
    obtain ⟨p1, p2'⟩ := fadd_fin hfq
    have ff := fdiv_fin p1
    rw [hf] at ff
    obtain ⟨b1, b2, b3⟩ := bound_law hn hA hX h0 hS w0 hW hg ht htl ff
    obtain ⟨c1, c2⟩ := rest_err (by omega) hA hX h0 hS w0 hW b2 b3
    rw [← hf] at b1 ff
    have hwn : val (W n) ≠ 0 := fun h => by
      have h3 : feq (W n) 0 = true := (order_val b3 f0).2.1.2 (by rw [h, v0])
      rw [h3] at hnz; cases hnz
    have hw0 : 0 ≤ val (W n) := nn_val (nW n (Nat.le_refl _)) b3
    have hwp : 0 < val (W n) := by grind
    have d1 := fdiv_err ff b3 hwn p1
    have d2 := fmul_err p2'
    have d3 := fadd_err' (fdiv_lt _ _) (fmul_lt _ _) hfq
    rw [htw] at d2
    rw [← hQ] at d3
    have hU := U_pos
    have hEt := ETA_pos
    have hn0 : (0 : Rat) ≤ n := Rat.natCast_nonneg
    have uB := Rat.mul_nonneg (Rat.le_of_lt hU) hB
    have hEU : U * exB (val (S 0)) (fun j => -(val (A j) * val (X j))) n ≤ (n + 1) * (33 / 32) * (U * exB (val (S 0)) (fun j => -(val (A j) * val (X j))) n) + 2 * n * ETA := by
      have h1 := Rat.mul_nonneg hn0 uB
      have h2 := Rat.mul_nonneg hn0 (Rat.le_of_lt hEt)
      grind
    have := back_ineq hB b1 hEU c2 hwp (nn_val nq p1) d1 d2 d3 hq0 hle (nn_val (nn_fmul nq ntw) p2')
    have h2 := Rat.mul_le_mul_of_nonneg_right hv hB
    grind
end Sedge
end
section
/-
  Plain: whole numbers that are small: sums and products are exact.
-/
set_option linter.unusedSimpArgs false
set_option linter.unusedVariables false
namespace Sedge
open Ieee
theorem word_lt (s : Bool) (n : Nat) (h : n < SW) : D64.word s n < 2 ^ 64 := by
  have e : (2:Nat) ^ 64 = SW + SW := by decide +kernel
  rw [e]
  unfold Format.word
  simp only [signWeight_eq]
  split <;> omega
/-- Two whole numbers in units of 2^l that are less than a unit apart. -/
theorem units_eq {K Z : Int} {l : Int} (h : ((K : Rat) * p2 l - (Z : Rat) * p2 l).abs ≤ p2 (l - 1)) : K = Z := by
  have hp := p2_pos (l - 1)
  have e : p2 l = 2 * p2 (l - 1) := by rw [show l = l - 1 + 1 by omega, p2_succ]; rw [show l - 1 + 1 - 1 = l - 1 by omega]
  have h1 := Rat.le_trans (le_abs _) h
  have h2 := Rat.le_trans (neg_le_abs _) h
  rw [e] at h1 h2
  rcases Int.lt_trichotomy K Z with h3 | h3 | h3
  · have h4 : (K : Rat) + 1 ≤ Z := by
      have : ((K + 1 : Int) : Rat) ≤ (Z : Rat) := Rat.intCast_le_intCast.2 (by omega)
      rw [Rat.intCast_add] at this; exact this
    have h5 := Rat.mul_le_mul_of_nonneg_right h4 (Rat.le_of_lt hp)
    grind
  · exact h3
  · have h4 : (Z : Rat) + 1 ≤ K := by
      have : ((Z + 1 : Int) : Rat) ≤ (K : Rat) := Rat.intCast_le_intCast.2 (by omega)
      rw [Rat.intCast_add] at this; exact this
    have h5 := Rat.mul_le_mul_of_nonneg_right h4 (Rat.le_of_lt hp)
    grind
theorem dat_int (s : Bool) (k : Nat) (l : Int) : dat s k l = ((if s then -(k : Int) else (k : Int) : Int) : Rat) * p2 l := by
  unfold dat sgn
  cases s
  · simp [Rat.intCast_natCast]
  · simp only [if_true]; rw [Rat.intCast_neg, Rat.intCast_natCast]; grind
/-- What is written of a whole number below 2^53. -/
theorem write_int {s : Bool} {m : Nat} {p : Int} {z : Int} (hz : z.natAbs < 2 ^ 53) (h : dat s m p = (z : Rat)) : fin (D64.write (.number s m p)) = true ∧ val (D64.write (.number s m p)) = (z : Rat) ∧ D64.write (.number s m p) < 2 ^ 64 := by
  by_cases h0 : m = 0
  · subst h0
    have e : D64.write (.number s 0 p) = D64.word s 0 := by
      show D64.nearest s 0 p = _; unfold Format.nearest; rw [if_pos rfl]
    rw [e]
    rw [dat_zero] at h
    exact ⟨(word_zero s).2, by rw [(word_zero s).1]; exact h, word_lt s 0 (by decide +kernel)⟩
  · have ew : D64.write (.number s m p) = D64.nearest s m p := rfl
    rw [ew]
    have hm : (m : Rat) * p2 p = ((z.natAbs : Nat) : Rat) := by
      rw [← dat_abs s m p, h]
      rcases (show z < 0 ∨ 0 ≤ z by omega) with hn | hn
      · have : (z : Rat) = -((z.natAbs : Nat) : Rat) := by rw [← Rat.intCast_natCast, ← Rat.intCast_neg]; congr 1; omega
        rw [this, Rat.abs_neg]; exact Rat.abs_of_nonneg Rat.natCast_nonneg
      · have : (z : Rat) = ((z.natAbs : Nat) : Rat) := by rw [← Rat.intCast_natCast]; congr 1; omega
        rw [this]; exact Rat.abs_of_nonneg Rat.natCast_nonneg
    obtain ⟨hl1, hl2⟩ := log2_spec m h0
    have hlog : p + m.log2 ≤ 52 := by
      rcases (show p + m.log2 < 53 ∨ 53 ≤ p + m.log2 by omega) with h1 | h1
      · omega
      · exfalso
        have a1 : p2 53 ≤ p2 (p + m.log2) := p2_mono h1
        have a2 : p2 (p + m.log2) ≤ (m : Rat) * p2 p := by
          rw [p2_add, Rat.mul_comm]
          refine Rat.mul_le_mul_of_nonneg_right ?_ (Rat.le_of_lt (p2_pos p))
          rw [p2_nat]; exact Rat.natCast_le_natCast.2 hl1
        rw [hm] at a2
        have a3 : ((z.natAbs : Nat) : Rat) < p2 53 := by
          rw [show (53 : Int) = ((53 : Nat) : Int) from rfl, p2_nat]; exact Rat.natCast_lt_natCast.2 hz
        grind
    have hl0 : lastP m p ≤ 0 := by unfold lastP; omega
    have hge := lastP_ge m p
    have hk := kept_le m p h0
    have hlt : (lastP m p + 1074).toNat * BN + keptP m p < IR := by
      have h1 : (lastP m p + 1074).toNat ≤ 1074 := by omega
      have h2 := Nat.mul_le_mul_right BN h1
      have h3 : 1074 * BN + 2 ^ 53 < IR := by decide +kernel
      omega
    have hf : fin (D64.nearest s m p) = true := by
      rw [nearest_eq s m p h0, Nat.min_eq_left (Nat.le_of_lt hlt)]
      have hor : 2 ^ 52 ≤ keptP m p ∨ lastP m p = -1074 := by
        rcases lastP_or m p with h1 | h1
        · exact .inl (kept_ge m p h0 h1)
        · exact .inr h1.1
      obtain ⟨m', q, hr, _⟩ := read_kept s (lastP m p) (keptP m p) hge hk hor hlt
      exact fin_of_read hr
    obtain ⟨e1, e2⟩ := nearest_err s m p h0 hf
    refine ⟨hf, ?_, ?_⟩
    · rw [e2, h, dat_int] at e1
      obtain ⟨L, hL⟩ : ∃ L : Nat, lastP m p = -(L : Int) := ⟨(-lastP m p).toNat, by omega⟩
      have ez : (z : Rat) = ((z * (2 ^ L : Nat) : Int) : Rat) * p2 (lastP m p) := by
        rw [Rat.intCast_mul, Rat.intCast_natCast, ← p2_nat, Rat.mul_assoc, ← p2_add, hL, show (L : Int) + -(L : Int) = 0 by omega, p2_zero, Rat.mul_one]
      rw [e2, dat_int]
      rw [ez] at e1 ⊢
      rw [units_eq e1]
    · rw [nearest_eq s m p h0, Nat.min_eq_left (Nat.le_of_lt hlt)]
      exact word_lt s _ (Nat.lt_trans hlt (by decide +kernel))
/-- The word x is worth the whole number z. -/
def WI (x : Nat) (z : Int) : Prop := x < 2 ^ 64 ∧ fin x = true ∧ val x = (z : Rat)
theorem WI.zero : WI 0 0 := ⟨by decide, by decide +kernel, by decide +kernel⟩
theorem WI.one : WI 4607182418800017408 1 := ⟨by decide, by decide +kernel, by decide +kernel⟩
theorem WI.two : WI 4611686018427387904 2 := ⟨by decide, by decide +kernel, by decide +kernel⟩
theorem fint_int {z : Int} (hz : z.natAbs < 2 ^ 53) : WI (fint z) z := by
  have h : dat (decide (z < 0)) z.natAbs 0 = (z : Rat) := by rw [natAbs_val _ _ (fun _ => rfl), p2_zero, Rat.mul_one]
  obtain ⟨h1, h2, h3⟩ := write_int hz h
  exact ⟨h3, h1, h2⟩
theorem fadd_int {x y : Nat} {a b : Int} (hx : WI x a) (hy : WI y b) (h : (a + b).natAbs < 2 ^ 53) : WI (fadd x y) (a + b) := by
  obtain ⟨c, z, p, h1, h2⟩ := fadd_read hx.2.1 hy.2.1
  rw [hx.2.2, hy.2.2, ← Rat.intCast_add] at h2
  obtain ⟨h3, h4, h5⟩ := write_int h h2
  rw [← h1] at h3 h4 h5
  exact ⟨h5, h3, h4⟩
theorem fmul_int {x y : Nat} {a b : Int} (hx : WI x a) (hy : WI y b) (h : (a * b).natAbs < 2 ^ 53) : WI (fmul x y) (a * b) := by
  obtain ⟨c, z, p, h1, h2⟩ := fmul_read hx.2.1 hy.2.1
  rw [hx.2.2, hy.2.2, ← Rat.intCast_mul] at h2
  obtain ⟨h3, h4, h5⟩ := write_int h h2
  rw [← h1] at h3 h4 h5
  exact ⟨h5, h3, h4⟩
theorem WI.feq {x y : Nat} {a b : Int} (hx : WI x a) (hy : WI y b) : feq x y = decide (a = b) := by
  have h := (order_val hx.2.1 hy.2.1).2.1
  rw [hx.2.2, hy.2.2, Rat.intCast_inj] at h
  by_cases e : a = b
  · rw [h.2 e, decide_eq_true e]
  · rw [decide_eq_false e]
    cases hh : Sedge.feq x y
    · rfl
    · exact absurd (h.1 hh) e
end Sedge
end
section
/-
  Laws of walks that the texts of this seat share: floats within a walk, what a slice reads as.
-/
set_option linter.unusedSimpArgs false
set_option linter.unusedVariables false
namespace Sedge
open Go Go.RowKit

/-- A stop for the walk between two pieces of code: here the world is given a name. -/
def Stop (K : Act → World → Prop) (a : Act) (w : World) : Prop := K a w
theorem seq_stop {P : Program} {x y : Code} {Q : Exit → Act → World → Prop} {a : Act} {w : World}
    (h : x.wp P (Exit.then (Stop (y.wp P Q)) Q) a w) : (Code.seq x y).wp P Q a w := wp_seq h
theorem stop_go {K : Act → World → Prop} {a : Act} {w : World} (h : ∀ W, W = w → K a W) : Stop K a w := h _ rfl
theorem name_world {P : Program} {c : Code} {Q : Exit → Act → World → Prop} {a : Act} {w : World} (h : ∀ W, W = w → c.wp P Q a W) : c.wp P Q a w := h _ rfl

theorem hid {p : Prop} (h : p) : Hid p := h

/-- What '+', '-', '*', '/' give, of canonical words. -/
def fop : BinOp → Nat → Nat → Nat
  | .add => fadd
  | .sub => fsub
  | .mul => fmul
  | .quo => fdiv
  | _ => fun _ _ => QN
def fbits : BinOp → Nat → Nat → Option Nat
  | .add => D64.add
  | .sub => D64.sub
  | .mul => D64.mul
  | .quo => D64.div
  | _ => fun _ _ => none
def isArith : BinOp → Bool
  | .add | .sub | .mul | .quo => true
  | _ => false

theorem isNan_of_cut (t x y : Nat) : (Question.nanBits .f64 x y).cut t < 2 ^ 64 ∧ isNan ((Question.nanBits .f64 x y).cut t) = true := by
  show (t % 2) * 2 ^ 63 + 0x7ff0000000000000 + 1 + (t / 2) % (2 ^ 52 - 1) < 2 ^ 64 ∧ isNan ((t % 2) * 2 ^ 63 + 0x7ff0000000000000 + 1 + (t / 2) % (2 ^ 52 - 1)) = true
  have h1 : (t / 2) % (2 ^ 52 - 1) < 2 ^ 52 - 1 := Nat.mod_lt _ (by decide)
  have h2 : t % 2 < 2 := Nat.mod_lt _ (by decide)
  generalize (t / 2) % (2 ^ 52 - 1) = q at *
  refine ⟨by omega, ?_⟩
  have e : (t % 2) * 2 ^ 63 + 0x7ff0000000000000 + 1 + q = D64.word (t % 2 == 1) (0x7ff0000000000000 + 1 + q) := by
    unfold Ieee.Format.word
    rw [signWeight_eq]
    rcases Nat.lt_or_ge (t % 2) 1 with h | h
    · have : t % 2 = 0 := by omega
      rw [this]; simp
    · have : t % 2 = 1 := by omega
      rw [this]; simp [SW]; omega
  rw [e]
  unfold isNan
  rw [read_word _ _ (by unfold SW; omega), if_neg (by unfold BN; omega), if_neg (by unfold IR; omega), if_neg (by unfold IR; omega)]
  rfl

theorem fop_notnan {op : BinOp} {x y r : Nat} (h : fbits op x y = some r) : isNan r = false := by
  cases op <;> simp only [fbits] at h <;> first | exact add_notnan h | exact sub_notnan h | exact mul_notnan h | exact div_notnan h | cases h
theorem fop_lt {op : BinOp} {x y r : Nat} (h : fbits op x y = some r) : r < 2 ^ 64 := by
  have e : (2 : Nat) ^ D64.width = 2 ^ 64 := by decide +kernel
  rw [← e]
  cases op <;> simp only [fbits] at h <;> first | exact D64.add_lt h | exact D64.sub_lt h | exact D64.mul_lt h | exact D64.div_lt h | cases h
theorem fop_eq {op : BinOp} (hop : isArith op = true) (x y : Nat) : fop op (canon x) (canon y) = (fbits op x y).getD QN := by
  cases op <;> simp only [isArith] at hop <;> first | cases hop | skip
  · simp only [fop, fbits, fadd, add_canon]
  · simp only [fop, fbits, fsub, sub_canon]
  · simp only [fop, fbits, fmul, mul_canon]
  · simp only [fop, fbits, fdiv, div_canon]

theorem upon_id {P : Program} {o : Oper} {a : Act} {K : Act → World → Prop} {Q : Exit → Act → World → Prop} {w : World} {op : BinOp} {t : TypeId} {b c : Nat} {f : Value → World → Result Next}
    (h : o.upon P a K Q ((Sem.run P (binOp op t (.float .f64 b) (.float .f64 c)) w).andThen f)) : o.upon P a K Q ((Sem.run P (binOp op t (.float .f64 b) (.float .f64 c)) w).andThen f) := h
/-- THE WALK's ARM FOR '+', '-', '*', '/' ON FLOATS: some word that stands for the result; perhaps one draw. -/
theorem upon_fop {P : Program} {o : Oper} {a : Act} {K : Act → World → Prop} {Q : Exit → Act → World → Prop} {w : World} {op : BinOp} {t : TypeId} {b c x y : Nat}
    (hop : isArith op = true) (hx : IsF b x) (hy : IsF c y)
    (h : ∀ r n, IsF r (fop op x y) → K (a.put o.dst (.float .f64 r)) (w.drewN n)) :
    o.upon P a K Q ((Sem.run P (binOp op t (.float .f64 b) (.float .f64 c)) w).andThen fun v w' => .ok (.value v) w') := by
  have hrun : Sem.run P (binOp op t (.float .f64 b) (.float .f64 c)) w = match fbits op b c with
      | some r => .ok (.float .f64 r) w
      | none => .ok (.float .f64 ((Question.nanBits .f64 b c).cut (w.tape w.drawn (.nanBits .f64 b c)))) (w.drewN 1) := by
    cases op <;> simp only [isArith] at hop <;> first | cases hop | skip
    · have e : FloatKind.f64.format.add b c = D64.add b c := rfl
      show Sem.run P (Op.floatArith .add .f64 b c) w = match D64.add b c with
        | some r => Result.ok (Value.float .f64 r) w
        | none => .ok (.float .f64 ((Question.nanBits .f64 b c).cut (w.tape w.drawn (.nanBits .f64 b c)))) (w.drewN 1)
      unfold Op.floatArith
      simp only [e]
      cases D64.add b c <;> rfl
    · have e : FloatKind.f64.format.sub b c = D64.sub b c := rfl
      show Sem.run P (Op.floatArith .sub .f64 b c) w = match D64.sub b c with
        | some r => Result.ok (Value.float .f64 r) w
        | none => .ok (.float .f64 ((Question.nanBits .f64 b c).cut (w.tape w.drawn (.nanBits .f64 b c)))) (w.drewN 1)
      unfold Op.floatArith
      simp only [e]
      cases D64.sub b c <;> rfl
    · have e : FloatKind.f64.format.mul b c = D64.mul b c := rfl
      show Sem.run P (Op.floatArith .mul .f64 b c) w = match D64.mul b c with
        | some r => Result.ok (Value.float .f64 r) w
        | none => .ok (.float .f64 ((Question.nanBits .f64 b c).cut (w.tape w.drawn (.nanBits .f64 b c)))) (w.drewN 1)
      unfold Op.floatArith
      simp only [e]
      cases D64.mul b c <;> rfl
    · have e : FloatKind.f64.format.div b c = D64.div b c := rfl
      show Sem.run P (Op.floatArith .quo .f64 b c) w = match D64.div b c with
        | some r => Result.ok (Value.float .f64 r) w
        | none => .ok (.float .f64 ((Question.nanBits .f64 b c).cut (w.tape w.drawn (.nanBits .f64 b c)))) (w.drewN 1)
      unfold Op.floatArith
      simp only [e]
      cases D64.div b c <;> rfl
  rw [hrun]
  have he := fop_eq hop b c
  rw [hx.2, hy.2] at he
  cases hb : fbits op b c with
  | some r =>
    rw [hb] at he
    exact h r 0 ⟨fop_lt hb, by rw [canon_not (fop_notnan hb), he]; rfl⟩
  | none =>
    rw [hb] at he
    obtain ⟨h1, h2⟩ := isNan_of_cut (w.tape w.drawn (.nanBits .f64 b c)) b c
    exact h _ 1 ⟨h1, by rw [canon_nan h2, he]; rfl⟩

end Sedge
end
