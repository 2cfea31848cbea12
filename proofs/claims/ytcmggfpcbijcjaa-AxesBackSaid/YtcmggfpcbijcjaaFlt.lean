/-
  Plain laws on 64-bit floats by their words, without a program: canonical words (one NaN), the operations on them.
-/
import Ieee.Arith
set_option linter.unusedSimpArgs false
set_option linter.unusedVariables false
namespace Sedge
open Ieee

abbrev D64 : Format := Ieee.double

/-- The one NaN of ours. -/
def QN : Nat := 0x7ff8000000000001

def isNan (b : Nat) : Bool := (D64.read b).isNaN

/-- The word, all NaNs made one. -/
def canon (b : Nat) : Nat := if isNan b then QN else b

theorem isNan_QN : isNan QN = true := by decide +kernel

theorem canon_nan {b : Nat} (h : isNan b = true) : canon b = QN := by simp [canon, h]
theorem canon_not {b : Nat} (h : isNan b = false) : canon b = b := by simp [canon, h]
theorem isNan_canon (b : Nat) : isNan (canon b) = isNan b := by
  cases h : isNan b
  · rw [canon_not h, h]
  · rw [canon_nan h, isNan_QN]
theorem canon_canon (b : Nat) : canon (canon b) = canon b := by
  cases h : isNan b
  · rw [canon_not h, canon_not h]
  · rw [canon_nan h]; decide +kernel

/-- Reading the canonical word: the datum, or some NaN where it was one. -/
theorem read_canon (b : Nat) (h : isNan b = false) : D64.read (canon b) = D64.read b := by rw [canon_not h]

theorem isNaN_eq (d : Datum) (h : d.isNaN = true) : ∃ s t, d = .nan s t := by
  cases d <;> simp [Datum.isNaN] at h
  exact ⟨_, _, rfl⟩

theorem sum_nan_left {d e : Datum} (h : d.isNaN = true) : d.sum e = none := by
  obtain ⟨s, t, rfl⟩ := isNaN_eq d h; cases e <;> rfl
theorem sum_nan_right {d e : Datum} (h : e.isNaN = true) : d.sum e = none := by
  obtain ⟨s, t, rfl⟩ := isNaN_eq e h; cases d <;> rfl
theorem product_nan_left {d e : Datum} (h : d.isNaN = true) : d.product e = none := by
  obtain ⟨s, t, rfl⟩ := isNaN_eq d h; cases e <;> rfl
theorem product_nan_right {d e : Datum} (h : e.isNaN = true) : d.product e = none := by
  obtain ⟨s, t, rfl⟩ := isNaN_eq e h; cases d <;> rfl
theorem quotient_nan_left {n : Nat} {d e : Datum} (h : d.isNaN = true) : d.quotient n e = none := by
  obtain ⟨s, t, rfl⟩ := isNaN_eq d h; cases e <;> rfl
theorem quotient_nan_right {n : Nat} {d e : Datum} (h : e.isNaN = true) : d.quotient n e = none := by
  obtain ⟨s, t, rfl⟩ := isNaN_eq e h; cases d <;> rfl
theorem order_nan_left {d e : Datum} (h : d.isNaN = true) : d.order e = none := by
  obtain ⟨s, t, rfl⟩ := isNaN_eq d h; cases e <;> rfl
theorem order_nan_right {d e : Datum} (h : e.isNaN = true) : d.order e = none := by
  obtain ⟨s, t, rfl⟩ := isNaN_eq e h; cases d <;> rfl
theorem opposite_isNaN (d : Datum) : d.opposite.isNaN = d.isNaN := by cases d <;> rfl

theorem add_canon (x y : Nat) : D64.add (canon x) (canon y) = D64.add x y := by
  unfold Format.add
  cases hx : isNan x
  · cases hy : isNan y
    · rw [canon_not hx, canon_not hy]
    · rw [sum_nan_right (by rw [← isNan, isNan_canon]; exact hy), sum_nan_right hy]
  · rw [sum_nan_left (by rw [← isNan, isNan_canon]; exact hx), sum_nan_left hx]
theorem sub_canon (x y : Nat) : D64.sub (canon x) (canon y) = D64.sub x y := by
  unfold Format.sub
  cases hx : isNan x
  · cases hy : isNan y
    · rw [canon_not hx, canon_not hy]
    · rw [sum_nan_right (by rw [opposite_isNaN, ← isNan, isNan_canon]; exact hy), sum_nan_right (by rw [opposite_isNaN]; exact hy)]
  · rw [sum_nan_left (by rw [← isNan, isNan_canon]; exact hx), sum_nan_left hx]
theorem mul_canon (x y : Nat) : D64.mul (canon x) (canon y) = D64.mul x y := by
  unfold Format.mul
  cases hx : isNan x
  · cases hy : isNan y
    · rw [canon_not hx, canon_not hy]
    · rw [product_nan_right (by rw [← isNan, isNan_canon]; exact hy), product_nan_right hy]
  · rw [product_nan_left (by rw [← isNan, isNan_canon]; exact hx), product_nan_left hx]
theorem div_canon (x y : Nat) : D64.div (canon x) (canon y) = D64.div x y := by
  unfold Format.div
  cases hx : isNan x
  · cases hy : isNan y
    · rw [canon_not hx, canon_not hy]
    · rw [quotient_nan_right (by rw [← isNan, isNan_canon]; exact hy), quotient_nan_right hy]
  · rw [quotient_nan_left (by rw [← isNan, isNan_canon]; exact hx), quotient_nan_left hx]
theorem order_canon (x y : Nat) : D64.order (canon x) (canon y) = D64.order x y := by
  unfold Format.order
  cases hx : isNan x
  · cases hy : isNan y
    · rw [canon_not hx, canon_not hy]
    · rw [order_nan_right (by rw [← isNan, isNan_canon]; exact hy), order_nan_right hy]
  · rw [order_nan_left (by rw [← isNan, isNan_canon]; exact hx), order_nan_left hx]

/-! What is written reads as it was. -/
def SW : Nat := 9223372036854775808
def IR : Nat := 9218868437227405312
def BN : Nat := 4503599627370496
theorem signWeight_eq : D64.signWeight = SW := by decide +kernel
theorem infRung_eq : D64.infRung = IR := by decide +kernel
theorem binade_eq : D64.binade = BN := by decide +kernel
theorem leastPlace_eq : D64.leastPlace = -1074 := by decide +kernel

theorem read_word (neg : Bool) (rung : Nat) (h : rung < SW) : D64.read (D64.word neg rung) =
    if rung < BN then .number neg rung (-1074)
    else if rung < IR then .number neg (BN + rung % BN) (-1074 + (rung / BN - 1 : Nat))
    else if rung = IR then .infinity neg
    else .nan neg (rung - IR) := by
  unfold Format.read Format.word
  simp only [signWeight_eq, infRung_eq, binade_eq, leastPlace_eq]
  have hs : (if neg = true then SW + rung else rung) % SW = rung := by
    cases neg
    · simp only [Bool.false_eq_true, if_false]; exact Nat.mod_eq_of_lt h
    · simp only [if_true, Nat.add_mod_left]; exact Nat.mod_eq_of_lt h
  have hn : ((if neg = true then SW + rung else rung) / SW % 2 == 1) = neg := by
    cases neg
    · simp only [Bool.false_eq_true, if_false]; rw [Nat.div_eq_of_lt h]; rfl
    · simp only [if_true]; rw [Nat.add_div_left _ (by decide +kernel), Nat.div_eq_of_lt h]; rfl
  rw [hs, hn]

theorem read_word_notnan (neg : Bool) (rung : Nat) (h : rung ≤ IR) : isNan (D64.word neg rung) = false := by
  unfold isNan
  have hlt : rung < SW := Nat.lt_of_le_of_lt h (by decide +kernel)
  rw [read_word neg rung hlt]
  by_cases h1 : rung < BN
  · rw [if_pos h1]; rfl
  · rw [if_neg h1]
    by_cases h2 : rung < IR
    · rw [if_pos h2]; rfl
    · rw [if_neg h2, if_pos (by omega)]; rfl

theorem nearest_notnan (neg : Bool) (m : Nat) (p : Int) : isNan (D64.nearest neg m p) = false := by
  unfold Format.nearest
  split
  · exact read_word_notnan _ _ (Nat.zero_le _)
  · exact read_word_notnan _ _ (by rw [← infRung_eq]; exact Nat.min_le_right _ _)

theorem write_notnan (d : Datum) (h : d.isNaN = false) : isNan (D64.write d) = false := by
  cases d with
  | number s m p => exact nearest_notnan s m p
  | infinity s => exact read_word_notnan s _ (by rw [infRung_eq]; exact Nat.le_refl _)
  | nan s t => simp [Datum.isNaN] at h

theorem sum_notnan {d e f : Datum} (h : d.sum e = some f) : f.isNaN = false := by
  cases d <;> cases e <;> simp only [Datum.sum] at h <;> first | (cases h; rfl) | cases h | (split at h <;> first | (cases h; rfl) | cases h)
theorem product_notnan {d e f : Datum} (h : d.product e = some f) : f.isNaN = false := by
  cases d <;> cases e <;> simp only [Datum.product] at h <;> first | (cases h; rfl) | cases h | (split at h <;> first | (cases h; rfl) | cases h)
theorem quotient_notnan {n : Nat} {d e f : Datum} (h : d.quotient n e = some f) : f.isNaN = false := by
  cases d <;> cases e <;> simp only [Datum.quotient] at h <;> first | (cases h; rfl) | cases h | (split at h <;> first | (cases h; rfl) | (split at h <;> first | (cases h; rfl) | cases h))

theorem add_notnan {x y r : Nat} (h : D64.add x y = some r) : isNan r = false := by
  unfold Format.add at h
  cases hd : (D64.read x).sum (D64.read y) with
  | none => rw [hd] at h; cases h
  | some d => rw [hd] at h; cases h; exact write_notnan _ (sum_notnan hd)
theorem sub_notnan {x y r : Nat} (h : D64.sub x y = some r) : isNan r = false := by
  unfold Format.sub at h
  cases hd : (D64.read x).sum (D64.read y).opposite with
  | none => rw [hd] at h; cases h
  | some d => rw [hd] at h; cases h; exact write_notnan _ (sum_notnan hd)
theorem mul_notnan {x y r : Nat} (h : D64.mul x y = some r) : isNan r = false := by
  unfold Format.mul at h
  cases hd : (D64.read x).product (D64.read y) with
  | none => rw [hd] at h; cases h
  | some d => rw [hd] at h; cases h; exact write_notnan _ (product_notnan hd)
theorem div_notnan {x y r : Nat} (h : D64.div x y = some r) : isNan r = false := by
  unfold Format.div at h
  cases hd : (D64.read x).quotient (D64.fractionBits + 2) (D64.read y) with
  | none => rw [hd] at h; cases h
  | some d => rw [hd] at h; cases h; exact write_notnan _ (quotient_notnan hd)

/-! The operations, all NaNs one. -/
def fadd (x y : Nat) : Nat := (D64.add x y).getD QN
def fsub (x y : Nat) : Nat := (D64.sub x y).getD QN
def fmul (x y : Nat) : Nat := (D64.mul x y).getD QN
def fdiv (x y : Nat) : Nat := (D64.div x y).getD QN
def feq (x y : Nat) : Bool := D64.order x y == some .eq
def flt (x y : Nat) : Bool := D64.order x y == some .lt
def fle (x y : Nat) : Bool := D64.order x y == some .lt || D64.order x y == some .eq
/-- Without its sign. -/
def fabs (x : Nat) : Nat := x % SW
/-- The word of a whole number. -/
def fint (n : Int) : Nat := D64.write (.number (n < 0) n.natAbs 0)

/-- The word b stands for x. -/
def IsF (b x : Nat) : Prop := b < 2 ^ 64 ∧ canon b = x

instance (b x : Nat) : Decidable (IsF b x) := by unfold IsF; exact inferInstance
theorem IsF.canon_eq {b x : Nat} (h : IsF b x) : canon b = x := h.2
theorem isF_self {b : Nat} (h : b < 2 ^ 64) : IsF b (canon b) := ⟨h, rfl⟩
theorem IsF.canonical {b x : Nat} (h : IsF b x) : canon x = x := by rw [← h.2, canon_canon]


/-! By its bits. -/
def expo (b : Nat) : Nat := b / BN % 2048
def frac (b : Nat) : Nat := b % BN
def pNeg (b : Nat) : Bool := decide (b / SW = 1)
def pKind (b : Nat) : Nat := if expo b = 2047 then (if frac b = 0 then 1 else 2) else 0
def pMag (b : Nat) : Nat := if expo b = 2047 then 0 else if expo b = 0 then frac b else frac b + BN
def pExp (b : Nat) : Int := if expo b = 2047 then 0 else if expo b = 0 then -1074 else (expo b : Int) - 1075

theorem rung_eq (b : Nat) : b % SW = expo b * BN + frac b := by
  unfold expo frac SW BN; omega
theorem expo_lt (b : Nat) : expo b < 2048 := Nat.mod_lt _ (by decide)
theorem frac_lt (b : Nat) : frac b < BN := Nat.mod_lt _ (by decide)
theorem frac_lt' (b : Nat) : frac b < 4503599627370496 := frac_lt b

theorem read_eq (b : Nat) (hb : b < 2 ^ 64) : D64.read b =
    if pKind b = 0 then .number (pNeg b) (pMag b) (pExp b) else if pKind b = 1 then .infinity (pNeg b) else .nan (pNeg b) (frac b) := by
  have hn : (b / SW % 2 == 1) = pNeg b := by
    unfold pNeg
    rw [Bool.eq_iff_iff]
    simp only [beq_iff_eq, decide_eq_true_eq]
    unfold SW; omega
  unfold Format.read
  simp only [signWeight_eq, infRung_eq, binade_eq, leastPlace_eq]
  rw [hn, rung_eq]
  have h1 := expo_lt b
  have h2 := frac_lt' b
  unfold pKind pMag pExp
  generalize expo b = E at *
  generalize frac b = F at *
  unfold BN IR
  by_cases k0 : E = 0
  · subst k0
    simp [h2]
  · by_cases k1 : E = 2047
    · subst k1
      rw [if_neg (by omega), if_neg (by omega), if_pos rfl]
      by_cases k2 : F = 0
      · subst k2; simp
      · rw [if_neg (by omega)]
        simp [k2]
    · rw [if_neg (by omega), if_pos (by omega)]
      simp only [k0, k1, if_false, if_true]
      congr 1
      · omega
      · omega

theorem isNan_kind (b : Nat) (hb : b < 2 ^ 64) : isNan b = decide (pKind b = 2) := by
  unfold isNan
  rw [read_eq b hb]
  have : pKind b = 0 ∨ pKind b = 1 ∨ pKind b = 2 := by unfold pKind; split <;> (try split) <;> simp
  rcases this with h | h | h <;> rw [h] <;> simp <;> rfl

theorem kind_abs (b : Nat) : expo (b % SW) = expo b ∧ frac (b % SW) = frac b := by
  unfold expo frac SW BN; omega
theorem isNan_abs (b : Nat) (hb : b < 2 ^ 64) : isNan (fabs b) = isNan b := by
  have h : fabs b < 2 ^ 64 := Nat.lt_of_le_of_lt (Nat.mod_le _ _) hb
  rw [isNan_kind _ h, isNan_kind _ hb]
  unfold pKind fabs
  rw [(kind_abs b).1, (kind_abs b).2]
theorem IsF.abs {b x : Nat} (h : IsF b x) : IsF (b % SW) (fabs x) := by
  refine ⟨Nat.lt_of_le_of_lt (Nat.mod_le _ _) h.1, ?_⟩
  have e := h.2
  subst e
  show canon (fabs b) = fabs (canon b)
  cases hn : isNan b
  · rw [canon_not hn, canon_not (by rw [isNan_abs b h.1]; exact hn)]
  · rw [canon_nan hn, canon_nan (by rw [isNan_abs b h.1]; exact hn)]; decide +kernel

theorem canon_lt {b : Nat} (h : b < 2 ^ 64) : canon b < 2 ^ 64 := by
  cases hn : isNan b
  · rw [canon_not hn]; exact h
  · rw [canon_nan hn]; decide +kernel
theorem IsF.lt {b x : Nat} (h : IsF b x) : x < 2 ^ 64 := by rw [← h.2]; exact canon_lt h.1
/-- The words that stand for x, x being canonical. -/
theorem IsF.self {b x : Nat} (h : IsF b x) : IsF x x := ⟨h.lt, h.canonical⟩
/-- Are two words the same? -/
theorem same_iff {a b : Nat} (ha : a < 2 ^ 64) (hb : b < 2 ^ 64) : (a = b ∨ pKind a = 2 ∧ pKind b = 2) ↔ canon a = canon b := by
  have h1 := isNan_kind a ha
  have h2 := isNan_kind b hb
  constructor
  · rintro (h | ⟨h, h'⟩)
    · rw [h]
    · rw [canon_nan (by rw [h1, h]; rfl), canon_nan (by rw [h2, h']; rfl)]
  · intro h
    cases ha : isNan a
    · cases hb : isNan b
      · rw [canon_not ha, canon_not hb] at h; exact .inl h
      · rw [canon_not ha, canon_nan hb] at h
        rw [h, isNan_QN] at ha; cases ha
    · cases hb : isNan b
      · rw [canon_nan ha, canon_not hb] at h
        rw [← h, isNan_QN] at hb; cases hb
      · rw [h1] at ha; rw [h2] at hb
        exact .inr ⟨by simpa using ha, by simpa using hb⟩
/-- Finite, by its canonical word. -/
def finB (x : Nat) : Bool := decide (pKind x = 0)
theorem kind_canon (b : Nat) (hb : b < 2 ^ 64) : pKind (canon b) = pKind b := by
  cases h : isNan b
  · rw [canon_not h]
  · rw [canon_nan h]
    have := isNan_kind b hb
    rw [h] at this
    have e : pKind b = 2 := by simpa using this
    rw [e]; decide +kernel
theorem IsF.kind {b x : Nat} (h : IsF b x) : pKind b = pKind x := by rw [← h.2, kind_canon b h.1]


/-- x > y. -/
def fgt (x y : Nat) : Bool := D64.order x y == some .gt
theorem IsF.order {b c x y : Nat} (h : IsF b x) (k : IsF c y) : D64.order b c = D64.order x y := by rw [← h.2, ← k.2, order_canon]
theorem isNan_can {x : Nat} (h : canon x = x) : isNan x = true → x = QN := fun hn => by rw [← h, canon_nan hn]
theorem order_refl_num (s : Bool) (m : Nat) (i : Int) : (Datum.number s m i).order (.number s m i) = some .eq := by
  simp only [Datum.order]
  congr 1
  exact Int.compare_eq_eq.2 rfl
theorem order_self (x : Nat) : (D64.order x x != some .eq) = isNan x := by
  unfold isNan Format.order
  cases h : D64.read x with
  | number s m i => rw [order_refl_num]; rfl
  | infinity s => cases s <;> rfl
  | nan s t => rfl
theorem IsF.nan {b x : Nat} (h : IsF b x) : isNan b = isNan x := by rw [← h.2, isNan_canon]
end Sedge
