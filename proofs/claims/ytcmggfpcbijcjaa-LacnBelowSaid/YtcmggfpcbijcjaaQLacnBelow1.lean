/-
  Texts laid one behind the other (a claim has at most 60 files): Flt, FltVal, FltVal2, FltErr, FltScale, FltLd, FltBest, Close1, FltSum, FltRest, FltDiv, FltBack, FltGemv, FltInt, Walk, Mem, Reg, Ref1, Own, Wr.
-/
import Ieee.Arith
import Derived.Laws.FloatBits
import Derived.WalkKit
import Derived.WalkLawsBesides
import Derived.WalkSpells
import Derived.Deep.Draws
import Derived.OrdersHeld
import Derived.Test.YtcmggfpcbijcjaaProg
import Derived.KernelRfl
import Derived.Laws.BitsAllLaws
import Derived.OwnWalk
import Derived.Laws.AppendOwnNone
section
/-
  Plain laws on 64-bit floats by their words, without a program: canonical words (one NaN), the operations on them.
-/
set_option linter.unusedSimpArgs false
set_option linter.unusedVariables false
namespace Sedge
open Ieee

abbrev D64 : Format := Ieee.double

/-- The one NaN of ours. -/
def QN : Nat := 0x7ff8000000000001

def isNan (b : Nat) : Bool := (D64.read b).isNaN

/-- The word, all NaNs made one. -/
def canon (b : Nat) : Nat := if isNan b then QN else b

theorem isNan_QN : isNan QN = true := by decide +kernel

theorem canon_nan {b : Nat} (h : isNan b = true) : canon b = QN := by simp [canon, h]
theorem canon_not {b : Nat} (h : isNan b = false) : canon b = b := by simp [canon, h]
theorem isNan_canon (b : Nat) : isNan (canon b) = isNan b := by
  cases h : isNan b
  · rw [canon_not h, h]
  · rw [canon_nan h, isNan_QN]
theorem canon_canon (b : Nat) : canon (canon b) = canon b := by
  cases h : isNan b
  · rw [canon_not h, canon_not h]
  · rw [canon_nan h]; decide +kernel

theorem isNaN_eq (d : Datum) (h : d.isNaN = true) : ∃ s t, d = .nan s t := by
  cases d <;> simp [Datum.isNaN] at h
  exact ⟨_, _, rfl⟩

theorem sum_nan_left {d e : Datum} (h : d.isNaN = true) : d.sum e = none := by
  obtain ⟨s, t, rfl⟩ := isNaN_eq d h; cases e <;> rfl
theorem sum_nan_right {d e : Datum} (h : e.isNaN = true) : d.sum e = none := by
  obtain ⟨s, t, rfl⟩ := isNaN_eq e h; cases d <;> rfl
theorem product_nan_left {d e : Datum} (h : d.isNaN = true) : d.product e = none := by
  obtain ⟨s, t, rfl⟩ := isNaN_eq d h; cases e <;> rfl
theorem product_nan_right {d e : Datum} (h : e.isNaN = true) : d.product e = none := by
  obtain ⟨s, t, rfl⟩ := isNaN_eq e h; cases d <;> rfl
theorem quotient_nan_left {n : Nat} {d e : Datum} (h : d.isNaN = true) : d.quotient n e = none := by
  obtain ⟨s, t, rfl⟩ := isNaN_eq d h; cases e <;> rfl
theorem quotient_nan_right {n : Nat} {d e : Datum} (h : e.isNaN = true) : d.quotient n e = none := by
  obtain ⟨s, t, rfl⟩ := isNaN_eq e h; cases d <;> rfl
theorem order_nan_left {d e : Datum} (h : d.isNaN = true) : d.order e = none := by
  obtain ⟨s, t, rfl⟩ := isNaN_eq d h; cases e <;> rfl
theorem order_nan_right {d e : Datum} (h : e.isNaN = true) : d.order e = none := by
  obtain ⟨s, t, rfl⟩ := isNaN_eq e h; cases d <;> rfl
theorem opposite_isNaN (d : Datum) : d.opposite.isNaN = d.isNaN := by cases d <;> rfl

theorem add_canon (x y : Nat) : D64.add (canon x) (canon y) = D64.add x y := by
  unfold Format.add
  cases hx : isNan x
  · cases hy : isNan y
    · rw [canon_not hx, canon_not hy]
    · rw [sum_nan_right (by rw [← isNan, isNan_canon]; exact hy), sum_nan_right hy]
  · rw [sum_nan_left (by rw [← isNan, isNan_canon]; exact hx), sum_nan_left hx]
theorem sub_canon (x y : Nat) : D64.sub (canon x) (canon y) = D64.sub x y := by
  unfold Format.sub
  cases hx : isNan x
  · cases hy : isNan y
    · rw [canon_not hx, canon_not hy]
    · rw [sum_nan_right (by rw [opposite_isNaN, ← isNan, isNan_canon]; exact hy), sum_nan_right (by rw [opposite_isNaN]; exact hy)]
  · rw [sum_nan_left (by rw [← isNan, isNan_canon]; exact hx), sum_nan_left hx]
theorem mul_canon (x y : Nat) : D64.mul (canon x) (canon y) = D64.mul x y := by
  unfold Format.mul
  cases hx : isNan x
  · cases hy : isNan y
    · rw [canon_not hx, canon_not hy]
    · rw [product_nan_right (by rw [← isNan, isNan_canon]; exact hy), product_nan_right hy]
  · rw [product_nan_left (by rw [← isNan, isNan_canon]; exact hx), product_nan_left hx]
theorem div_canon (x y : Nat) : D64.div (canon x) (canon y) = D64.div x y := by
  unfold Format.div
  cases hx : isNan x
  · cases hy : isNan y
    · rw [canon_not hx, canon_not hy]
    · rw [quotient_nan_right (by rw [← isNan, isNan_canon]; exact hy), quotient_nan_right hy]
  · rw [quotient_nan_left (by rw [← isNan, isNan_canon]; exact hx), quotient_nan_left hx]
theorem order_canon (x y : Nat) : D64.order (canon x) (canon y) = D64.order x y := by
  unfold Format.order
  cases hx : isNan x
  · cases hy : isNan y
    · rw [canon_not hx, canon_not hy]
    · rw [order_nan_right (by rw [← isNan, isNan_canon]; exact hy), order_nan_right hy]
  · rw [order_nan_left (by rw [← isNan, isNan_canon]; exact hx), order_nan_left hx]

/-! What is written reads as it was. -/
def SW : Nat := 9223372036854775808
def IR : Nat := 9218868437227405312
def BN : Nat := 4503599627370496
theorem signWeight_eq : D64.signWeight = SW := by decide +kernel
theorem infRung_eq : D64.infRung = IR := by decide +kernel
theorem binade_eq : D64.binade = BN := by decide +kernel
theorem leastPlace_eq : D64.leastPlace = -1074 := by decide +kernel

theorem read_word (neg : Bool) (rung : Nat) (h : rung < SW) : D64.read (D64.word neg rung) =
    if rung < BN then .number neg rung (-1074)
    else if rung < IR then .number neg (BN + rung % BN) (-1074 + (rung / BN - 1 : Nat))
    else if rung = IR then .infinity neg
    else .nan neg (rung - IR) := by
  unfold Format.read Format.word
  simp only [signWeight_eq, infRung_eq, binade_eq, leastPlace_eq]
  have hs : (if neg = true then SW + rung else rung) % SW = rung := by
    cases neg
    · simp only [Bool.false_eq_true, if_false]; exact Nat.mod_eq_of_lt h
    · simp only [if_true, Nat.add_mod_left]; exact Nat.mod_eq_of_lt h
  have hn : ((if neg = true then SW + rung else rung) / SW % 2 == 1) = neg := by
    cases neg
    · simp only [Bool.false_eq_true, if_false]; rw [Nat.div_eq_of_lt h]; rfl
    · simp only [if_true]; rw [Nat.add_div_left _ (by decide +kernel), Nat.div_eq_of_lt h]; rfl
  rw [hs, hn]

theorem read_word_notnan (neg : Bool) (rung : Nat) (h : rung ≤ IR) : isNan (D64.word neg rung) = false := by
  unfold isNan
  have hlt : rung < SW := Nat.lt_of_le_of_lt h (by decide +kernel)
  rw [read_word neg rung hlt]
  by_cases h1 : rung < BN
  · rw [if_pos h1]; rfl
  · rw [if_neg h1]
    by_cases h2 : rung < IR
    · rw [if_pos h2]; rfl
    · rw [if_neg h2, if_pos (by omega)]; rfl

theorem nearest_notnan (neg : Bool) (m : Nat) (p : Int) : isNan (D64.nearest neg m p) = false := by
  unfold Format.nearest
  split
  · exact read_word_notnan _ _ (Nat.zero_le _)
  · exact read_word_notnan _ _ (by rw [← infRung_eq]; exact Nat.min_le_right _ _)

theorem write_notnan (d : Datum) (h : d.isNaN = false) : isNan (D64.write d) = false := by
  cases d with
  | number s m p => exact nearest_notnan s m p
  | infinity s => exact read_word_notnan s _ (by rw [infRung_eq]; exact Nat.le_refl _)
  | nan s t => simp [Datum.isNaN] at h

theorem sum_notnan {d e f : Datum} (h : d.sum e = some f) : f.isNaN = false := by
  cases d <;> cases e <;> simp only [Datum.sum] at h <;> first | (cases h; rfl) | cases h | (split at h <;> first | (cases h; rfl) | cases h)
theorem product_notnan {d e f : Datum} (h : d.product e = some f) : f.isNaN = false := by
  cases d <;> cases e <;> simp only [Datum.product] at h <;> first | (cases h; rfl) | cases h | (split at h <;> first | (cases h; rfl) | cases h)
theorem quotient_notnan {n : Nat} {d e f : Datum} (h : d.quotient n e = some f) : f.isNaN = false := by
  cases d <;> cases e <;> simp only [Datum.quotient] at h <;> first | (cases h; rfl) | cases h | (split at h <;> first | (cases h; rfl) | (split at h <;> first | (cases h; rfl) | cases h))

theorem add_notnan {x y r : Nat} (h : D64.add x y = some r) : isNan r = false := by
  unfold Format.add at h
  cases hd : (D64.read x).sum (D64.read y) with
  | none => rw [hd] at h; cases h
  | some d => rw [hd] at h; cases h; exact write_notnan _ (sum_notnan hd)
theorem sub_notnan {x y r : Nat} (h : D64.sub x y = some r) : isNan r = false := by
  unfold Format.sub at h
  cases hd : (D64.read x).sum (D64.read y).opposite with
  | none => rw [hd] at h; cases h
  | some d => rw [hd] at h; cases h; exact write_notnan _ (sum_notnan hd)
theorem mul_notnan {x y r : Nat} (h : D64.mul x y = some r) : isNan r = false := by
  unfold Format.mul at h
  cases hd : (D64.read x).product (D64.read y) with
  | none => rw [hd] at h; cases h
  | some d => rw [hd] at h; cases h; exact write_notnan _ (product_notnan hd)
theorem div_notnan {x y r : Nat} (h : D64.div x y = some r) : isNan r = false := by
  unfold Format.div at h
  cases hd : (D64.read x).quotient (D64.fractionBits + 2) (D64.read y) with
  | none => rw [hd] at h; cases h
  | some d => rw [hd] at h; cases h; exact write_notnan _ (quotient_notnan hd)

/-! The operations, all NaNs one. -/
def fadd (x y : Nat) : Nat := (D64.add x y).getD QN
def fsub (x y : Nat) : Nat := (D64.sub x y).getD QN
def fmul (x y : Nat) : Nat := (D64.mul x y).getD QN
def fdiv (x y : Nat) : Nat := (D64.div x y).getD QN
def feq (x y : Nat) : Bool := D64.order x y == some .eq
def flt (x y : Nat) : Bool := D64.order x y == some .lt
def fle (x y : Nat) : Bool := D64.order x y == some .lt || D64.order x y == some .eq
/-- Without its sign. -/
def fabs (x : Nat) : Nat := x % SW
/-- The word of a whole number. -/
def fint (n : Int) : Nat := D64.write (.number (n < 0) n.natAbs 0)

/-- The word b stands for x. -/
def IsF (b x : Nat) : Prop := b < 2 ^ 64 ∧ canon b = x

instance (b x : Nat) : Decidable (IsF b x) := by unfold IsF; exact inferInstance
theorem IsF.canonical {b x : Nat} (h : IsF b x) : canon x = x := by rw [← h.2, canon_canon]


/-! By its bits. -/
def expo (b : Nat) : Nat := b / BN % 2048
def frac (b : Nat) : Nat := b % BN
def pNeg (b : Nat) : Bool := decide (b / SW = 1)
def pKind (b : Nat) : Nat := if expo b = 2047 then (if frac b = 0 then 1 else 2) else 0
def pMag (b : Nat) : Nat := if expo b = 2047 then 0 else if expo b = 0 then frac b else frac b + BN
def pExp (b : Nat) : Int := if expo b = 2047 then 0 else if expo b = 0 then -1074 else (expo b : Int) - 1075

theorem rung_eq (b : Nat) : b % SW = expo b * BN + frac b := by
  unfold expo frac SW BN; omega
theorem expo_lt (b : Nat) : expo b < 2048 := Nat.mod_lt _ (by decide)
theorem frac_lt (b : Nat) : frac b < BN := Nat.mod_lt _ (by decide)
theorem frac_lt' (b : Nat) : frac b < 4503599627370496 := frac_lt b

theorem read_eq (b : Nat) (hb : b < 2 ^ 64) : D64.read b =
    if pKind b = 0 then .number (pNeg b) (pMag b) (pExp b) else if pKind b = 1 then .infinity (pNeg b) else .nan (pNeg b) (frac b) := by
  have hn : (b / SW % 2 == 1) = pNeg b := by
    unfold pNeg
    rw [Bool.eq_iff_iff]
    simp only [beq_iff_eq, decide_eq_true_eq]
    unfold SW; omega
  unfold Format.read
  simp only [signWeight_eq, infRung_eq, binade_eq, leastPlace_eq]
  rw [hn, rung_eq]
  have h1 := expo_lt b
  have h2 := frac_lt' b
  unfold pKind pMag pExp
  generalize expo b = E at *
  generalize frac b = F at *
  unfold BN IR
  by_cases k0 : E = 0
  · subst k0
    simp [h2]
  · by_cases k1 : E = 2047
    · subst k1
      rw [if_neg (by omega), if_neg (by omega), if_pos rfl]
      by_cases k2 : F = 0
      · subst k2; simp
      · rw [if_neg (by omega)]
        simp [k2]
    · rw [if_neg (by omega), if_pos (by omega)]
      simp only [k0, k1, if_false, if_true]
      congr 1
      · omega
      · omega

theorem isNan_kind (b : Nat) (hb : b < 2 ^ 64) : isNan b = decide (pKind b = 2) := by
  unfold isNan
  rw [read_eq b hb]
  have : pKind b = 0 ∨ pKind b = 1 ∨ pKind b = 2 := by unfold pKind; split <;> (try split) <;> simp
  rcases this with h | h | h <;> rw [h] <;> simp <;> rfl

theorem kind_abs (b : Nat) : expo (b % SW) = expo b ∧ frac (b % SW) = frac b := by
  unfold expo frac SW BN; omega
theorem isNan_abs (b : Nat) (hb : b < 2 ^ 64) : isNan (fabs b) = isNan b := by
  have h : fabs b < 2 ^ 64 := Nat.lt_of_le_of_lt (Nat.mod_le _ _) hb
  rw [isNan_kind _ h, isNan_kind _ hb]
  unfold pKind fabs
  rw [(kind_abs b).1, (kind_abs b).2]
theorem IsF.abs {b x : Nat} (h : IsF b x) : IsF (b % SW) (fabs x) := by
  refine ⟨Nat.lt_of_le_of_lt (Nat.mod_le _ _) h.1, ?_⟩
  have e := h.2
  subst e
  show canon (fabs b) = fabs (canon b)
  cases hn : isNan b
  · rw [canon_not hn, canon_not (by rw [isNan_abs b h.1]; exact hn)]
  · rw [canon_nan hn, canon_nan (by rw [isNan_abs b h.1]; exact hn)]; decide +kernel

theorem canon_lt {b : Nat} (h : b < 2 ^ 64) : canon b < 2 ^ 64 := by
  cases hn : isNan b
  · rw [canon_not hn]; exact h
  · rw [canon_nan hn]; decide +kernel
theorem IsF.lt {b x : Nat} (h : IsF b x) : x < 2 ^ 64 := by rw [← h.2]; exact canon_lt h.1
/-- The words that stand for x, x being canonical. -/
theorem IsF.self {b x : Nat} (h : IsF b x) : IsF x x := ⟨h.lt, h.canonical⟩
/-- Finite, by its canonical word. -/
def finB (x : Nat) : Bool := decide (pKind x = 0)
theorem kind_canon (b : Nat) (hb : b < 2 ^ 64) : pKind (canon b) = pKind b := by
  cases h : isNan b
  · rw [canon_not h]
  · rw [canon_nan h]
    have := isNan_kind b hb
    rw [h] at this
    have e : pKind b = 2 := by simpa using this
    rw [e]; decide +kernel
theorem IsF.kind {b x : Nat} (h : IsF b x) : pKind b = pKind x := by rw [← h.2, kind_canon b h.1]


/-- x > y. -/
def fgt (x y : Nat) : Bool := D64.order x y == some .gt
theorem IsF.order {b c x y : Nat} (h : IsF b x) (k : IsF c y) : D64.order b c = D64.order x y := by rw [← h.2, ← k.2, order_canon]
theorem isNan_can {x : Nat} (h : canon x = x) : isNan x = true → x = QN := fun hn => by rw [← h, canon_nan hn]
theorem order_refl_num (s : Bool) (m : Nat) (i : Int) : (Datum.number s m i).order (.number s m i) = some .eq := by
  simp only [Datum.order]
  congr 1
  exact Int.compare_eq_eq.2 rfl
theorem order_self (x : Nat) : (D64.order x x != some .eq) = isNan x := by
  unfold isNan Format.order
  cases h : D64.read x with
  | number s m i => rw [order_refl_num]; rfl
  | infinity s => cases s <;> rfl
  | nan s t => rfl
theorem IsF.nan {b x : Nat} (h : IsF b x) : isNan b = isNan x := by rw [← h.2, isNan_canon]
end Sedge
end
section
/-
  Plain laws on 64-bit floats: what a word is worth, and how far what is written is from what was meant.
-/
set_option linter.unusedSimpArgs false
set_option linter.unusedVariables false
namespace Sedge
open Ieee

/-- n / 2^drop, to the nearest, of two the even one. -/
def rne (n drop : Nat) : Nat :=
  n / 2 ^ drop + (decide (2 ^ drop < 2 * (n % 2 ^ drop)) || (decide (2 ^ drop = 2 * (n % 2 ^ drop)) && n / 2 ^ drop % 2 == 1)).toNat

theorem cut_even (neg : Bool) (n drop : Nat) : Toward.even.cut neg n drop = rne n drop := by
  unfold Toward.cut rne
  by_cases h : drop ≤ n.log2 + 2
  · rw [Nat.min_eq_left h]
    simp only [Nat.one_shiftLeft]
    have e1 : (2 ^ drop == 2 * (n % 2 ^ drop)) = decide (2 ^ drop = 2 * (n % 2 ^ drop)) := by rw [Bool.eq_iff_iff]; simp
    simp only [e1]
  · rw [Nat.min_eq_right (by omega)]
    simp only [Nat.one_shiftLeft]
    have h1 : n < 2 ^ (n.log2 + 1) := Nat.lt_log2_self
    have h2 : 2 ^ (n.log2 + 2) = 2 * 2 ^ (n.log2 + 1) := by rw [Nat.pow_succ, Nat.mul_comm]
    have h3 : 2 ^ (n.log2 + 2) ≤ 2 ^ drop := Nat.pow_le_pow_right (by decide) (by omega)
    have d1 : n / 2 ^ (n.log2 + 2) = 0 := Nat.div_eq_of_lt (by omega)
    have m1 : n % 2 ^ (n.log2 + 2) = n := Nat.mod_eq_of_lt (by omega)
    have d2 : n / 2 ^ drop = 0 := Nat.div_eq_of_lt (by omega)
    have m2 : n % 2 ^ drop = n := Nat.mod_eq_of_lt (by omega)
    rw [d1, m1, d2, m2]
    have f1 : decide (2 ^ (n.log2 + 2) < 2 * n) = false := by simp; omega
    have f2 : decide (2 ^ drop < 2 * n) = false := by simp; omega
    rw [f1, f2]; simp

theorem rne_lo (n drop : Nat) : 2 * n ≤ 2 * (rne n drop * 2 ^ drop) + 2 ^ drop := by
  unfold rne
  have hd := Nat.div_add_mod n (2 ^ drop)
  have hp : 0 < 2 ^ drop := Nat.two_pow_pos _
  have hm := Nat.mod_lt n hp
  generalize n / 2 ^ drop = q at *
  generalize n % 2 ^ drop = r at *
  generalize 2 ^ drop = g at *
  subst hd
  rw [Nat.add_mul, Nat.mul_comm q g]
  by_cases h1 : g < 2 * r
  · simp [h1]; omega
  · have : 2 * r ≤ g := by omega
    omega
theorem rne_hi (n drop : Nat) : 2 * (rne n drop * 2 ^ drop) ≤ 2 * n + 2 ^ drop := by
  unfold rne
  have hd := Nat.div_add_mod n (2 ^ drop)
  have hp : 0 < 2 ^ drop := Nat.two_pow_pos _
  have hm := Nat.mod_lt n hp
  generalize n / 2 ^ drop = q at *
  generalize n % 2 ^ drop = r at *
  generalize 2 ^ drop = g at *
  subst hd
  rw [Nat.add_mul, Nat.mul_comm q g]
  by_cases h1 : g < 2 * r
  · simp [h1]; omega
  · by_cases h2 : g = 2 * r
    · cases h3 : (q % 2 == 1)
      · simp [h1]; omega
      · simp [h2]; omega
    · simp [h1, h2]; omega
/-- What divides is not rounded. -/
theorem rne_exact (k drop : Nat) : rne (k * 2 ^ drop) drop = k := by
  unfold rne
  have hp : 0 < 2 ^ drop := Nat.two_pow_pos _
  rw [Nat.mul_div_cancel _ hp, Nat.mul_mod_left]
  have f1 : decide (2 ^ drop < 2 * 0) = false := by simp
  have f2 : decide (2 ^ drop = 2 * 0) = false := by simp
  rw [f1, f2]; simp
theorem rne_zero (n : Nat) : rne n 0 = n := by
  have := rne_exact n 0
  simpa using this
theorem rne_mono {m n : Nat} (h : m ≤ n) (drop : Nat) : rne m drop ≤ rne n drop := by
  have hp : 0 < 2 ^ drop := Nat.two_pow_pos _
  unfold rne
  have h1 : m / 2 ^ drop ≤ n / 2 ^ drop := Nat.div_le_div_right h
  rcases Nat.lt_or_ge (m / 2 ^ drop) (n / 2 ^ drop) with h2 | h2
  · have : ∀ b : Bool, b.toNat ≤ 1 := by intro b; cases b <;> decide
    have := this (decide (2 ^ drop < 2 * (m % 2 ^ drop)) || (decide (2 ^ drop = 2 * (m % 2 ^ drop)) && m / 2 ^ drop % 2 == 1))
    omega
  · have h3 : m / 2 ^ drop = n / 2 ^ drop := Nat.le_antisymm h1 h2
    have h4 : m % 2 ^ drop ≤ n % 2 ^ drop := by
      have a := Nat.div_add_mod m (2 ^ drop)
      have b := Nat.div_add_mod n (2 ^ drop)
      rw [h3] at a
      omega
    rw [h3]
    refine Nat.add_le_add_left ?_ _
    generalize m % 2 ^ drop = r at *
    generalize n % 2 ^ drop = s at *
    generalize 2 ^ drop = g at *
    by_cases c1 : g < 2 * r
    · have c2 : g < 2 * s := by omega
      simp [c1, c2]
    · by_cases c3 : g = 2 * r
      · by_cases c2 : g < 2 * s
        · simp [c2]; exact Bool.toNat_le _
        · have : s = r := by omega
          subst this; exact Nat.le_refl _
      · simp [c1, c3]

/-- The place of the last digit that is kept. -/
def lastP (m : Nat) (p : Int) : Int := max (p + m.log2 - 52) (-1074)
/-- The digits that are kept. -/
def keptP (m : Nat) (p : Int) : Nat := rne (m <<< (p - lastP m p).toNat) (lastP m p - p).toNat

theorem nearest_eq (neg : Bool) (m : Nat) (p : Int) (h : m ≠ 0) :
    D64.nearest neg m p = D64.word neg (min ((lastP m p + 1074).toNat * BN + keptP m p) IR) := by
  unfold Format.nearest
  rw [if_neg h]
  simp only [leastPlace_eq, binade_eq, infRung_eq, cut_even]
  have : (D64.fractionBits : Int) = 52 := rfl
  rw [this]
  unfold keptP
  have e : lastP m p - -1074 = lastP m p + 1074 := by omega
  show D64.word neg (min ((lastP m p - -1074).toNat * BN + _) IR) = _
  rw [e]
  rfl

theorem log2_spec (m : Nat) (h : m ≠ 0) : 2 ^ m.log2 ≤ m ∧ m < 2 ^ (m.log2 + 1) := ⟨Nat.log2_self_le h, Nat.lt_log2_self⟩

end Sedge
end
section
set_option linter.unusedSimpArgs false
set_option linter.unusedVariables false
namespace Sedge
open Ieee

def p2 (k : Int) : Rat := (2 : Rat) ^ k
theorem p2_pos (k : Int) : 0 < p2 k := Rat.zpow_pos (by decide)
theorem p2_add (j k : Int) : p2 (j + k) = p2 j * p2 k := Rat.zpow_add (by decide) j k
theorem p2_zero : p2 0 = 1 := Rat.zpow_zero 2
theorem p2_one : p2 1 = 2 := Rat.zpow_one 2
theorem p2_nat (n : Nat) : p2 n = ((2 ^ n : Nat) : Rat) := by
  unfold p2; rw [Rat.zpow_natCast, Rat.natCast_pow]; rfl
theorem p2_succ (k : Int) : p2 (k + 1) = 2 * p2 k := by rw [p2_add, p2_one, Rat.mul_comm]
theorem p2_mono {j k : Int} (h : j ≤ k) : p2 j ≤ p2 k := by
  obtain ⟨n, rfl⟩ : ∃ n : Nat, k = j + n := ⟨(k - j).toNat, by omega⟩
  rw [p2_add, p2_nat]
  have h1 : (1 : Rat) ≤ ((2 ^ n : Nat) : Rat) := by
    have : 1 ≤ 2 ^ n := Nat.two_pow_pos n
    have := Rat.natCast_le_natCast.2 this
    simpa using this
  have := Rat.mul_le_mul_of_nonneg_left h1 (Rat.le_of_lt (p2_pos j))
  grind
theorem p2_inv (k : Int) : p2 k * p2 (-k) = 1 := by rw [← p2_add, show k + -k = 0 by omega, p2_zero]
/-- What a word is worth (0 of what is not finite). -/
def sgn (s : Bool) : Rat := if s then -1 else 1
def dat (s : Bool) (m : Nat) (p : Int) : Rat := sgn s * ((m : Rat) * p2 p)
def val (b : Nat) : Rat := match D64.read b with
  | .number s m p => dat s m p
  | _ => 0
/-- Finite. -/
def fin (b : Nat) : Bool := match D64.read b with
  | .number .. => true
  | _ => false

theorem abs_sgn_mul (s : Bool) (x : Rat) : (sgn s * x).abs = x.abs := by
  cases s
  · simp [sgn]
  · have : sgn true * x = -x := by simp [sgn]; grind
    rw [this, Rat.abs_neg]

/-! keptP and lastP. -/
theorem lastP_ge (m : Nat) (p : Int) : -1074 ≤ lastP m p := Int.le_max_right _ _
theorem lastP_ge' (m : Nat) (p : Int) : p + m.log2 - 52 ≤ lastP m p := Int.le_max_left _ _
theorem lastP_or (m : Nat) (p : Int) : lastP m p = p + m.log2 - 52 ∨ (lastP m p = -1074 ∧ p + m.log2 - 52 ≤ -1074) := by
  unfold lastP; omega

/-- In units of 2^lastP: the numerator. -/
def numP (m : Nat) (p : Int) : Nat := m <<< (p - lastP m p).toNat
def dropP (m : Nat) (p : Int) : Nat := (lastP m p - p).toNat

theorem numP_val (m : Nat) (p : Int) : (numP m p : Rat) * p2 (lastP m p) = (m : Rat) * p2 p * (2 ^ dropP m p : Nat) := by
  unfold numP dropP
  rw [Nat.shiftLeft_eq, Rat.natCast_mul, ← p2_nat, ← p2_nat]
  have : (p2 ((p - lastP m p).toNat : Nat)) * p2 (lastP m p) = p2 p * p2 ((lastP m p - p).toNat : Nat) := by
    rw [← p2_add, ← p2_add]; congr 1; omega
  grind

/-- How far the kept digits are from the number: half a unit at most. -/
theorem kept_err (m : Nat) (p : Int) : ((keptP m p : Rat) * p2 (lastP m p) - (m : Rat) * p2 p).abs ≤ p2 (lastP m p - 1) := by
  have hlo := rne_lo (numP m p) (dropP m p)
  have hhi := rne_hi (numP m p) (dropP m p)
  have hk : rne (numP m p) (dropP m p) = keptP m p := rfl
  rw [hk] at hlo hhi
  have hv := numP_val m p
  have hg : 0 < ((2 ^ dropP m p : Nat) : Rat) := Rat.natCast_pos.2 (Nat.two_pow_pos _)
  have hlo' := Rat.natCast_le_natCast.2 hlo
  have hhi' := Rat.natCast_le_natCast.2 hhi
  simp only [Rat.natCast_add, Rat.natCast_mul] at hlo' hhi'
  have h2 : ((2 : Nat) : Rat) = 2 := rfl
  rw [h2] at hlo' hhi'
  have hu := p2_pos (lastP m p)
  have hu1 : 2 * p2 (lastP m p - 1) = p2 (lastP m p) := by rw [← p2_succ]; congr 1; omega
  generalize ((2 ^ dropP m p : Nat) : Rat) = g at *
  generalize (keptP m p : Rat) = k at *
  generalize (numP m p : Rat) = n at *
  generalize p2 (lastP m p) = u at *
  generalize (m : Rat) * p2 p = x at *
  generalize p2 (lastP m p - 1) = h at *
  -- n u = x g; 2 n ≤ 2 k g + g; 2 k g ≤ 2 n + g
  have a1 : 2 * n * u ≤ (2 * (k * g) + g) * u := Rat.mul_le_mul_of_nonneg_right hlo' (Rat.le_of_lt hu)
  have a2 : 2 * (k * g) * u ≤ (2 * n + g) * u := Rat.mul_le_mul_of_nonneg_right hhi' (Rat.le_of_lt hu)
  have b1 : g * (2 * x) ≤ g * (2 * (k * u) + u) := by grind
  have b2 : g * (2 * (k * u)) ≤ g * (2 * x + u) := by grind
  have c1 := Rat.le_of_mul_le_mul_left b1 hg
  have c2 := Rat.le_of_mul_le_mul_left b2 hg
  rcases Rat.le_total (a := 0) (b := k * u - x) with h0 | h0
  · rw [Rat.abs_of_nonneg h0]; grind
  · rw [Rat.abs_of_nonpos h0]; grind

theorem kept_le (m : Nat) (p : Int) (h : m ≠ 0) : keptP m p ≤ 2 ^ 53 := by
  -- m 2^p < 2^(log2 m + 1 + p) ≤ 2^(lastP + 53)
  have hl := (log2_spec m h).2
  have hle : numP m p ≤ 2 ^ 53 * 2 ^ dropP m p := by
    unfold numP dropP
    rw [Nat.shiftLeft_eq, ← Nat.pow_add]
    have h1 : m * 2 ^ (p - lastP m p).toNat ≤ 2 ^ (m.log2 + 1) * 2 ^ (p - lastP m p).toNat := Nat.mul_le_mul_right _ (Nat.le_of_lt hl)
    rw [← Nat.pow_add] at h1
    refine Nat.le_trans h1 (Nat.pow_le_pow_right (by decide) ?_)
    have := lastP_ge' m p
    omega
  have := rne_mono hle (dropP m p)
  rw [rne_exact] at this
  exact this
theorem kept_ge (m : Nat) (p : Int) (h : m ≠ 0) (hn : lastP m p = p + m.log2 - 52) : 2 ^ 52 ≤ keptP m p := by
  have hl := (log2_spec m h).1
  have hle : 2 ^ 52 * 2 ^ dropP m p ≤ numP m p := by
    unfold numP dropP
    rw [Nat.shiftLeft_eq, ← Nat.pow_add]
    have h1 : 2 ^ m.log2 * 2 ^ (p - lastP m p).toNat ≤ m * 2 ^ (p - lastP m p).toNat := Nat.mul_le_mul_right _ hl
    rw [← Nat.pow_add] at h1
    refine Nat.le_trans (Nat.pow_le_pow_right (by decide) ?_) h1
    omega
  have := rne_mono hle (dropP m p)
  rw [rne_exact] at this
  exact this

theorem BN_eq : BN = 2 ^ 52 := by decide +kernel
/-- A word below infinity, of kept digits k at place l, is worth k 2^l. -/
theorem read_kept (s : Bool) (l : Int) (k : Nat) (hl : -1074 ≤ l) (hk : k ≤ 2 ^ 53) (hn : 2 ^ 52 ≤ k ∨ l = -1074)
    (hf : (l + 1074).toNat * BN + k < IR) :
    ∃ m q, D64.read (D64.word s ((l + 1074).toNat * BN + k)) = .number s m q ∧ (m : Rat) * p2 q = (k : Rat) * p2 l := by
  have hlt : (l + 1074).toNat * BN + k < SW := Nat.lt_trans hf (by decide +kernel)
  rw [read_word s _ hlt]
  have hb : BN = 2 ^ 52 := BN_eq
  have hb0 : 0 < BN := by decide +kernel
  by_cases h1 : (l + 1074).toNat * BN + k < BN
  · rw [if_pos h1]
    have hl0 : (l + 1074).toNat = 0 := by
      rcases Nat.eq_zero_or_pos (l + 1074).toNat with h | h
      · exact h
      · have : BN ≤ (l + 1074).toNat * BN := Nat.le_mul_of_pos_left _ h
        omega
    have : l = -1074 := by omega
    refine ⟨_, _, rfl, ?_⟩
    rw [hl0, Nat.zero_mul, Nat.zero_add, this]
  · rw [if_neg h1, if_pos hf]
    refine ⟨_, _, rfl, ?_⟩
    have h53 : (2 : Nat) ^ 53 = 2 * BN := by rw [hb]
    have hkb : BN ≤ k ∨ (l + 1074).toNat = 0 := by
      rcases hn with h | h
      · left; omega
      · right; omega
    have hk1 : BN ≤ k := by
      rcases hkb with h | h
      · exact h
      · rw [h, Nat.zero_mul, Nat.zero_add] at h1; omega
    by_cases hk2 : k < 2 * BN
    · have e1 : ((l + 1074).toNat * BN + k) % BN = k - BN := by
        rw [Nat.add_comm, Nat.add_mul_mod_self_right]
        have : k = BN + (k - BN) := by omega
        rw [this, Nat.add_mod_left, Nat.mod_eq_of_lt (by omega)]; omega
      have e2 : ((l + 1074).toNat * BN + k) / BN = (l + 1074).toNat + 1 := by
        rw [Nat.add_comm, Nat.add_mul_div_right _ _ hb0]
        have : k / BN = 1 := by
          apply Nat.div_eq_of_lt_le <;> omega
        omega
      rw [e1, e2]
      have e3 : BN + (k - BN) = k := by omega
      have e4 : (-1074 + (((l + 1074).toNat + 1 - 1 : Nat) : Int)) = l := by omega
      rw [e3, e4]
    · have hk3 : k = 2 * BN := by omega
      have e1 : ((l + 1074).toNat * BN + k) % BN = 0 := by
        rw [hk3, ← Nat.add_mul, Nat.mul_mod_left]
      have e2 : ((l + 1074).toNat * BN + k) / BN = (l + 1074).toNat + 2 := by
        rw [hk3, ← Nat.add_mul, Nat.mul_div_cancel _ hb0]
      rw [e1, e2, hk3]
      have e4 : (-1074 + (((l + 1074).toNat + 2 - 1 : Nat) : Int)) = l + 1 := by omega
      rw [e4, p2_succ, Nat.add_zero, Rat.natCast_mul]
      have h2 : ((2 : Nat) : Rat) = 2 := rfl
      rw [h2]
      grind

/-- THE NEAREST: if finite, it is within half a unit. -/
theorem nearest_err (s : Bool) (m : Nat) (p : Int) (h : m ≠ 0) (hf : fin (D64.nearest s m p) = true) :
    (val (D64.nearest s m p) - dat s m p).abs ≤ p2 (lastP m p - 1) ∧ val (D64.nearest s m p) = dat s (keptP m p) (lastP m p) := by
  rw [nearest_eq s m p h] at hf ⊢
  have hlt : (lastP m p + 1074).toNat * BN + keptP m p < IR := by
    rcases Nat.lt_or_ge ((lastP m p + 1074).toNat * BN + keptP m p) IR with h1 | h1
    · exact h1
    · rw [Nat.min_eq_right h1] at hf
      unfold fin at hf
      rw [read_word s IR (by decide +kernel), if_neg (by decide +kernel), if_neg (by decide +kernel), if_pos rfl] at hf
      cases hf
  rw [Nat.min_eq_left (Nat.le_of_lt hlt)] at hf ⊢
  have hor : 2 ^ 52 ≤ keptP m p ∨ lastP m p = -1074 := by
    rcases lastP_or m p with h1 | h1
    · exact .inl (kept_ge m p h h1)
    · exact .inr h1.1
  obtain ⟨m', q, hr, hv⟩ := read_kept s (lastP m p) (keptP m p) (lastP_ge m p) (kept_le m p h) hor hlt
  have hval : val (D64.word s ((lastP m p + 1074).toNat * BN + keptP m p)) = dat s (keptP m p) (lastP m p) := by
    unfold val
    rw [hr]
    show sgn s * (_ * _) = sgn s * (_ * _)
    rw [hv]
  refine ⟨?_, hval⟩
  rw [hval]
  unfold dat
  have : sgn s * (↑(keptP m p) * p2 (lastP m p)) - sgn s * (↑m * p2 p) = sgn s * (↑(keptP m p) * p2 (lastP m p) - ↑m * p2 p) := by grind
  rw [this, abs_sgn_mul]
  exact kept_err m p

end Sedge
end
section
set_option linter.unusedSimpArgs false
set_option linter.unusedVariables false
namespace Sedge
open Ieee

theorem read_number_or (b : Nat) : (∃ s m p, D64.read b = .number s m p) ∨ (∃ s, D64.read b = .infinity s) ∨ (∃ s t, D64.read b = .nan s t) := by
  cases h : D64.read b with
  | number s m p => exact .inl ⟨_, _, _, rfl⟩
  | infinity s => exact .inr (.inl ⟨_, rfl⟩)
  | nan s t => exact .inr (.inr ⟨_, _, rfl⟩)

theorem fin_iff (b : Nat) : fin b = true ↔ ∃ s m p, D64.read b = .number s m p := by
  unfold fin
  rcases read_number_or b with ⟨s, m, p, h⟩ | ⟨s, h⟩ | ⟨s, t, h⟩ <;> simp [h]
theorem val_of {b : Nat} {s : Bool} {m : Nat} {p : Int} (h : D64.read b = .number s m p) : val b = dat s m p := by
  unfold val; rw [h]

theorem fin_of_read {b : Nat} {s : Bool} {m : Nat} {p : Int} (h : D64.read b = .number s m p) : fin b = true := (fin_iff b).2 ⟨_, _, _, h⟩
theorem fin_notnan {b : Nat} (h : fin b = true) : isNan b = false := by
  obtain ⟨s, m, p, h⟩ := (fin_iff b).1 h
  unfold isNan; rw [h]; rfl
theorem fin_QN : fin QN = false := by decide +kernel
theorem fin_inf (s : Bool) : fin (D64.write (.infinity s)) = false := by cases s <;> decide +kernel
theorem dat_zero (s : Bool) (p : Int) : dat s 0 p = 0 := by unfold dat; simp
theorem word_zero (s : Bool) : val (D64.word s 0) = 0 ∧ fin (D64.word s 0) = true := by
  have h : D64.read (D64.word s 0) = .number s 0 (-1074) := by
    rw [read_word s 0 (by decide +kernel), if_pos (by decide +kernel)]
  exact ⟨by rw [val_of h, dat_zero], fin_of_read h⟩

def U : Rat := p2 (-53)
def ETA : Rat := p2 (-1075)
theorem U_pos : 0 < U := p2_pos _
theorem ETA_pos : 0 < ETA := p2_pos _

theorem dat_abs (s : Bool) (m : Nat) (p : Int) : (dat s m p).abs = (m : Rat) * p2 p := by
  unfold dat
  rw [abs_sgn_mul, Rat.abs_of_nonneg (Rat.mul_nonneg Rat.natCast_nonneg (Rat.le_of_lt (p2_pos p)))]

theorem half_unit (m : Nat) (p : Int) (h : m ≠ 0) : p2 (lastP m p - 1) ≤ U * ((m : Rat) * p2 p) + ETA := by
  have hm : 0 ≤ (m : Rat) * p2 p := Rat.mul_nonneg Rat.natCast_nonneg (Rat.le_of_lt (p2_pos p))
  rcases lastP_or m p with h1 | h1
  · rw [h1]
    have h2 : p2 (p + m.log2 - 52 - 1) = U * (p2 p * p2 (m.log2 : Nat)) := by
      unfold U; rw [← p2_add, ← p2_add]; congr 1; omega
    rw [h2]
    have h3 : p2 (m.log2 : Nat) ≤ (m : Rat) := by rw [p2_nat]; exact Rat.natCast_le_natCast.2 (log2_spec m h).1
    have h4 := Rat.mul_le_mul_of_nonneg_left h3 (Rat.le_of_lt (p2_pos p))
    have h5 := Rat.mul_le_mul_of_nonneg_left h4 (Rat.le_of_lt U_pos)
    have := ETA_pos
    grind
  · rw [h1.1]
    have := Rat.mul_nonneg (Rat.le_of_lt U_pos) hm
    show ETA ≤ _
    grind

/-- WHAT IS WRITTEN, IF FINITE, IS CLOSE TO WHAT WAS MEANT. -/
theorem write_err (s : Bool) (m : Nat) (p : Int) (hf : fin (D64.write (.number s m p)) = true) :
    (val (D64.write (.number s m p)) - dat s m p).abs ≤ U * (dat s m p).abs + ETA := by
  by_cases h : m = 0
  · subst h
    have e : D64.write (.number s 0 p) = D64.word s 0 := by
      show D64.nearest s 0 p = _; unfold Format.nearest; rw [if_pos rfl]
    rw [e, (word_zero s).1, dat_zero]
    have := ETA_pos
    have e1 : ((0 : Rat) - 0).abs = 0 := by decide +kernel
    have e2 : (0 : Rat).abs = 0 := by decide +kernel
    rw [e1, e2]
    grind
  · have h1 := (nearest_err s m p h hf).1
    have h2 := half_unit m p h
    rw [dat_abs]
    exact Rat.le_trans h1 h2

/-! SUMS -/
theorem signed_val (s : Bool) (m k : Nat) (p : Int) : ((signed s m k : Int) : Rat) * p2 p = dat s m (p + k) := by
  unfold signed dat
  cases s
  · simp only [Bool.false_eq_true, if_false, sgn]
    rw [Nat.shiftLeft_eq, Rat.intCast_natCast, Rat.natCast_mul, ← p2_nat, p2_add]
    grind
  · simp only [if_true, sgn]
    rw [Nat.shiftLeft_eq, Rat.intCast_neg, Rat.intCast_natCast, Rat.natCast_mul, ← p2_nat, p2_add]
    grind

theorem natAbs_val (z : Int) (b : Bool) (hb : z ≠ 0 → b = decide (z < 0)) (p : Int) : dat b z.natAbs p = (z : Rat) * p2 p := by
  unfold dat
  rcases Int.lt_trichotomy z 0 with h | h | h
  · rw [hb (by omega), decide_eq_true h]
    have e : (z : Rat) = -((z.natAbs : Nat) : Rat) := by
      have : z = -((z.natAbs : Nat) : Int) := by omega
      rw [← Rat.intCast_natCast, ← Rat.intCast_neg, ← this]
    rw [e]; simp only [sgn, if_true]; grind
  · subst h; simp
  · rw [hb (by omega), decide_eq_false (by omega)]
    have e : (z : Rat) = ((z.natAbs : Nat) : Rat) := by
      have : z = ((z.natAbs : Nat) : Int) := by omega
      rw [← Rat.intCast_natCast, ← this]
    rw [e]; simp only [sgn, Bool.false_eq_true, if_false]; grind

theorem fin_getD {o : Option Datum} (h : fin ((o.map D64.write).getD QN) = true) (hn : ∀ d, o = some d → d.isNaN = false) : ∃ s m p, o = some (.number s m p) := by
  cases o with
  | none => simp only [Option.map, Option.getD, fin_QN] at h; cases h
  | some d =>
    cases d with
    | number s m p => exact ⟨s, m, p, rfl⟩
    | infinity s => simp only [Option.map, Option.getD, fin_inf] at h; cases h
    | nan s t => have := hn _ rfl; cases this
theorem product_number {d e : Datum} {s : Bool} {m : Nat} {p : Int} (h : d.product e = some (.number s m p)) : (∃ a b c, d = .number a b c) ∧ (∃ a b c, e = .number a b c) := by
  cases d <;> cases e <;> simp only [Datum.product] at h <;> first | exact ⟨⟨_, _, _, rfl⟩, ⟨_, _, _, rfl⟩⟩ | cases h | (split at h <;> cases h)
/-! PRODUCTS -/
theorem natCast_mul' (m n : Nat) : ((m * n : Nat) : Rat) = (m : Rat) * n := Rat.natCast_mul m n
theorem sgn_xor (s t : Bool) : sgn (s ^^ t) = sgn s * sgn t := by cases s <;> cases t <;> decide +kernel
theorem product_val (s t : Bool) (m n : Nat) (i j : Int) : dat (s ^^ t) (m * n) (i + j) = dat s m i * dat t n j := by
  unfold dat
  rw [natCast_mul', p2_add, sgn_xor]
  grind

theorem fmul_fin {x y : Nat} (h : fin (fmul x y) = true) : fin x = true ∧ fin y = true := by
  obtain ⟨s, m, p, ho⟩ := fin_getD h (fun d hd => product_notnan hd)
  obtain ⟨h1, h2⟩ := product_number ho
  exact ⟨(fin_iff _).2 h1, (fin_iff _).2 h2⟩

theorem fmul_read {x y : Nat} (hx : fin x = true) (hy : fin y = true) : ∃ c z b, fmul x y = D64.write (.number c z b) ∧ dat c z b = val x * val y := by
  obtain ⟨s, m, p, hx⟩ := (fin_iff x).1 hx
  obtain ⟨s', m', p', hy⟩ := (fin_iff y).1 hy
  refine ⟨s ^^ s', m * m', p + p', ?_, ?_⟩
  · unfold fmul Format.mul; rw [hx, hy]; rfl
  · rw [product_val, val_of hx, val_of hy]

/-! DIFFERENCES: y's sign turned. -/
theorem dat_not (s : Bool) (m : Nat) (p : Int) : dat (!s) m p = - dat s m p := by
  unfold dat
  cases s <;> simp only [sgn, Bool.not_true, Bool.not_false, Bool.false_eq_true, if_true, if_false] <;> grind
end Sedge
end
section
/-
  Plain: what a number times a power of 2 is, by words.
-/
set_option linter.unusedSimpArgs false
set_option linter.unusedVariables false
namespace Sedge
open Ieee
/-- Halved so often: what is left, the last digit that went, and whether one before it was 1. -/
def hvM (m t : Nat) : Nat := m / 2 ^ t
def hvH (m t : Nat) : Bool := decide (2 ^ t ≤ 2 * (m % 2 ^ t))
def hvL (m t : Nat) : Bool := decide (m % 2 ^ t ≠ 0) && decide (2 ^ t ≠ 2 * (m % 2 ^ t))
/-- The word off digits and a place. -/
def makeW (s : Bool) (M : Nat) (e : Int) : Nat := D64.word s (min ((e + 1074).toNat * BN + M) IR)
/-- The exponent, held. -/
def kcl (k : Int) : Int := max (min k 5000) (-5000)
/-- x times 2^k. -/
def fscale (x : Nat) (k : Int) : Nat := if pKind x = 0 ∧ pMag x ≠ 0 then D64.nearest (pNeg x) (pMag x) (pExp x + kcl k) else x
end Sedge
end
section
/-
  Plain: what math.Ldexp does to a number's word.
-/
set_option linter.unusedSimpArgs false
set_option linter.unusedVariables false
namespace Sedge
open Ieee
theorem pExp_ge (b : Nat) (hk : pKind b = 0) : -1074 ≤ pExp b ∧ pExp b ≤ 971 := by
  have h1 := expo_lt b
  have h2 : expo b ≠ 2047 := by
    intro h; unfold pKind at hk; rw [if_pos h] at hk; split at hk <;> cases hk
  unfold pExp; rw [if_neg h2]; split <;> omega
theorem pMag_lt (b : Nat) : pMag b < 2 ^ 53 := by
  have := frac_lt' b
  unfold pMag BN; split
  · decide
  · split <;> omega
theorem cmp_lt (a b : Int) : (compare a b == Ordering.lt) = decide (a < b) := by
  simp only [compare, compareOfLessAndEq]
  by_cases h : a < b
  · simp [h]
  · by_cases h2 : a = b <;> simp [h, h2]
theorem cmp_eq (a b : Int) : (compare a b == Ordering.eq) = decide (a = b) := by
  simp only [compare, compareOfLessAndEq]
  by_cases h : a < b
  · have : a ≠ b := by omega
    simp [h, this]
  · by_cases h2 : a = b <;> simp [h, h2]
theorem cmp_gt (a b : Int) : (compare a b == Ordering.gt) = decide (b < a) := by
  simp only [compare, compareOfLessAndEq]
  by_cases h : a < b
  · have : ¬ b < a := by omega
    simp [h, this]
  · by_cases h2 : a = b
    · simp [h2]
    · have : b < a := by omega
      simp [h, h2, this]
theorem some_beq (a b : Ordering) : (some a == some b) = (a == b) := rfl
theorem pNeg_abs (b : Nat) : pNeg (fabs b) = false := by
  unfold pNeg fabs
  rw [decide_eq_false_iff_not, Nat.div_eq_of_lt (Nat.mod_lt _ (by decide))]; decide
theorem parts_abs (b : Nat) : pKind (fabs b) = pKind b ∧ pMag (fabs b) = pMag b ∧ pExp (fabs b) = pExp b := by
  unfold pKind pMag pExp fabs; rw [(kind_abs b).1, (kind_abs b).2]; exact ⟨rfl, rfl, rfl⟩
end Sedge
end
section
/-
  Plain laws on 64-bit floats: what is written is no farther off than any float; sums have no error of their own near 0.
-/
set_option linter.unusedSimpArgs false
set_option linter.unusedVariables false
namespace Sedge
open Ieee

theorem grid_best (m : Nat) (p : Int) (k : Int) : ((keptP m p : Rat) * p2 (lastP m p) - (m : Rat) * p2 p).abs ≤ ((k : Rat) * p2 (lastP m p) - (m : Rat) * p2 p).abs := by
  have h1 := kept_err m p
  have hu := p2_pos (lastP m p)
  have hu1 : 2 * p2 (lastP m p - 1) = p2 (lastP m p) := by rw [← p2_succ]; congr 1; omega
  have hK : ((keptP m p : Nat) : Rat) = ((keptP m p : Int) : Rat) := (Rat.intCast_natCast _).symm
  rw [hK] at h1 ⊢
  generalize p2 (lastP m p - 1) = h at *
  generalize p2 (lastP m p) = u at *
  generalize (m : Rat) * p2 p = Z at *
  generalize (keptP m p : Int) = K at *
  have h2 : -h ≤ (K : Rat) * u - Z ∧ (K : Rat) * u - Z ≤ h := by
    rcases Rat.le_total (a := 0) (b := (K : Rat) * u - Z) with h0 | h0
    · rw [Rat.abs_of_nonneg h0] at h1; constructor <;> grind
    · rw [Rat.abs_of_nonpos h0] at h1; constructor <;> grind
  have hKk : k = K ∨ k + 1 ≤ K ∨ K + 1 ≤ k := by omega
  rcases hKk with rfl | hk | hk
  · exact Rat.le_refl
  · have hk' := Rat.intCast_le_intCast.2 hk
    rw [Rat.intCast_add] at hk'
    have hk2 := Rat.mul_le_mul_of_nonneg_right hk' (Rat.le_of_lt hu)
    have e1 : ((1 : Int) : Rat) = 1 := rfl
    rw [e1] at hk2
    have h3 : (k : Rat) * u - Z ≤ -h := by grind
    have h4 : (k : Rat) * u - Z ≤ 0 := by grind
    rw [Rat.abs_of_nonpos h4]
    exact Rat.le_trans h1 (by grind)
  · have hk' := Rat.intCast_le_intCast.2 hk
    rw [Rat.intCast_add] at hk'
    have hk2 := Rat.mul_le_mul_of_nonneg_right hk' (Rat.le_of_lt hu)
    have e1 : ((1 : Int) : Rat) = 1 := rfl
    rw [e1] at hk2
    have h3 : h ≤ (k : Rat) * u - Z := by grind
    have h4 : 0 ≤ (k : Rat) * u - Z := by grind
    rw [Rat.abs_of_nonneg h4]
    exact Rat.le_trans h1 (by grind)

theorem sgn_sq (s : Bool) : sgn s * sgn s = 1 := by cases s <;> decide +kernel
theorem abs_sgn (s : Bool) (x y : Rat) : (x - sgn s * y).abs = (sgn s * x - y).abs := by
  have : x - sgn s * y = sgn s * (sgn s * x - y) := by
    have := sgn_sq s
    grind
  rw [this, abs_sgn_mul]
theorem abs_le_of {x y : Rat} (h1 : -y ≤ x) (h2 : x ≤ y) : x.abs ≤ y := by
  rcases Rat.le_total (a := 0) (b := x) with h0 | h0
  · rw [Rat.abs_of_nonneg h0]; exact h2
  · rw [Rat.abs_of_nonpos h0]; grind
theorem le_abs (x : Rat) : x ≤ x.abs := by
  rcases Rat.le_total (a := 0) (b := x) with h0 | h0
  · rw [Rat.abs_of_nonneg h0]; exact Rat.le_refl
  · rw [Rat.abs_of_nonpos h0]; grind
theorem neg_le_abs (x : Rat) : -x ≤ x.abs := by
  rcases Rat.le_total (a := 0) (b := x) with h0 | h0
  · rw [Rat.abs_of_nonneg h0]; grind
  · rw [Rat.abs_of_nonpos h0]; exact Rat.le_refl

/-- NO FLOAT IS NEARER. -/
theorem nearest_best (s : Bool) (m : Nat) (p : Int) (h : m ≠ 0) (hf : fin (D64.nearest s m p) = true) {x : Nat} (hx : x < 2 ^ 64) (hfx : fin x = true) :
    (val (D64.nearest s m p) - dat s m p).abs ≤ (val x - dat s m p).abs := by
  rw [(nearest_err s m p h hf).2]
  have e1 : dat s (keptP m p) (lastP m p) - dat s m p = sgn s * ((keptP m p : Rat) * p2 (lastP m p) - (m : Rat) * p2 p) := by unfold dat; grind
  rw [e1, abs_sgn_mul]
  have e2 : dat s m p = sgn s * ((m : Rat) * p2 p) := rfl
  rw [e2, abs_sgn]
  have hk : pKind x = 0 := by
    have := read_eq x hx
    rcases Nat.lt_or_ge 0 (pKind x) with h0 | h0
    · rw [if_neg (by omega)] at this
      obtain ⟨s', m', p', hr⟩ := (fin_iff x).1 hfx
      rw [hr] at this
      split at this <;> cases this
    · omega
  have hr : D64.read x = .number (pNeg x) (pMag x) (pExp x) := by rw [read_eq x hx, if_pos hk]
  have hq := (pExp_ge x hk).1
  have hn := pMag_lt x
  rw [val_of hr]
  generalize pNeg x = t at *
  generalize pMag x = n at *
  generalize pExp x = q at *
  by_cases hqL : lastP m p ≤ q
  · -- on the grid
    have e3 : sgn s * dat t n q = (((if s = t then (1 : Int) else -1) * ((n * 2 ^ (q - lastP m p).toNat : Nat) : Int) : Int) : Rat) * p2 (lastP m p) := by
      have e4 : p2 q = p2 ((q - lastP m p).toNat : Nat) * p2 (lastP m p) := by rw [← p2_add]; congr 1; omega
      unfold dat
      rw [Rat.intCast_mul, Rat.intCast_natCast, Rat.natCast_mul, ← p2_nat, e4]
      have e5 : sgn s * sgn t = (((if s = t then (1 : Int) else -1) : Int) : Rat) := by cases s <;> cases t <;> decide +kernel
      rw [← e5]; grind
    rw [e3]
    exact grid_best m p _
  · have hL : lastP m p = p + m.log2 - 52 := by
      rcases lastP_or m p with h1 | h1
      · exact h1
      · omega
    have hb := grid_best m p ((2 ^ 52 : Nat) : Int)
    refine Rat.le_trans hb ?_
    have hZ : ((2 ^ 52 : Nat) : Rat) * p2 (lastP m p) ≤ (m : Rat) * p2 p := by
      have h3 : p2 (m.log2 : Nat) ≤ (m : Rat) := by rw [p2_nat]; exact Rat.natCast_le_natCast.2 (log2_spec m h).1
      have h4 := Rat.mul_le_mul_of_nonneg_right h3 (Rat.le_of_lt (p2_pos p))
      rw [← p2_nat, ← p2_add]
      rw [← p2_add] at h4
      rw [show ((52 : Nat) : Int) + lastP m p = (m.log2 : Nat) + p by omega]
      exact h4
    have hX : (dat t n q).abs ≤ ((2 ^ 52 : Nat) : Rat) * p2 (lastP m p) := by
      rw [dat_abs, ← p2_nat, ← p2_add]
      have h5 : (n : Rat) ≤ p2 ((53 : Nat) : Int) := by rw [p2_nat]; exact Rat.natCast_le_natCast.2 (Nat.le_of_lt hn)
      have h6 := Rat.mul_le_mul_of_nonneg_right h5 (Rat.le_of_lt (p2_pos q))
      rw [← p2_add] at h6
      exact Rat.le_trans h6 (p2_mono (by omega))
    have hX2 : (sgn s * dat t n q).abs ≤ ((2 ^ 52 : Nat) : Rat) * p2 (lastP m p) := by rw [abs_sgn_mul]; exact hX
    rw [Rat.intCast_natCast]
    have h7 := le_abs (sgn s * dat t n q)
    have h8 := neg_le_abs (sgn s * dat t n q - (m : Rat) * p2 p)
    refine Rat.le_trans (abs_le_of (y := (m : Rat) * p2 p - ((2 ^ 52 : Nat) : Rat) * p2 (lastP m p)) (by grind) (by grind)) ?_
    grind

theorem kept_exact (m : Nat) (p : Int) (h : lastP m p ≤ p) : (keptP m p : Rat) * p2 (lastP m p) = (m : Rat) * p2 p := by
  have h1 := numP_val m p
  have h2 : dropP m p = 0 := by unfold dropP; omega
  have h3 : keptP m p = numP m p := by
    show rne (numP m p) (dropP m p) = _
    rw [h2, rne_zero]
  rw [h3, h1, h2]
  have : ((2 ^ 0 : Nat) : Rat) = 1 := rfl
  rw [this]; grind
/-- What is written, of places that a float may have. -/
theorem write_err' (s : Bool) (m : Nat) (p : Int) (hp : -1074 ≤ p) (hf : fin (D64.write (.number s m p)) = true) :
    (val (D64.write (.number s m p)) - dat s m p).abs ≤ U * (dat s m p).abs := by
  by_cases h : m = 0
  · subst h
    have e : D64.write (.number s 0 p) = D64.word s 0 := by
      show D64.nearest s 0 p = _; unfold Format.nearest; rw [if_pos rfl]
    rw [e, (word_zero s).1, dat_zero]
    decide +kernel
  · have h0 : D64.write (.number s m p) = D64.nearest s m p := rfl
    rw [h0] at hf ⊢
    obtain ⟨h1, h2⟩ := nearest_err s m p h hf
    by_cases hL : lastP m p ≤ p
    · have h3 := kept_exact m p hL
      rw [h2]
      have e1 : dat s (keptP m p) (lastP m p) - dat s m p = 0 := by unfold dat; rw [h3]; grind
      rw [e1]
      have : (0 : Rat).abs = 0 := by decide +kernel
      rw [this]
      exact Rat.mul_nonneg (Rat.le_of_lt U_pos) (by rw [dat_abs]; exact Rat.mul_nonneg Rat.natCast_nonneg (Rat.le_of_lt (p2_pos p)))
    · have hL2 : lastP m p = p + m.log2 - 52 := by
        rcases lastP_or m p with h1 | h1
        · exact h1
        · omega
      refine Rat.le_trans h1 ?_
      rw [dat_abs, hL2]
      have h2 : p2 (p + m.log2 - 52 - 1) = U * (p2 p * p2 (m.log2 : Nat)) := by
        unfold U; rw [← p2_add, ← p2_add]; congr 1; omega
      rw [h2]
      have h3 : p2 (m.log2 : Nat) ≤ (m : Rat) := by rw [p2_nat]; exact Rat.natCast_le_natCast.2 (log2_spec m h).1
      have h4 := Rat.mul_le_mul_of_nonneg_left h3 (Rat.le_of_lt (p2_pos p))
      have h5 := Rat.mul_le_mul_of_nonneg_left h4 (Rat.le_of_lt U_pos)
      grind
theorem sum_val' {s t : Bool} {m n : Nat} {i j : Int} (hi : -1074 ≤ i) (hj : -1074 ≤ j) : ∃ c z b, (Datum.number s m i).sum (.number t n j) = some (.number c z b) ∧ -1074 ≤ b ∧ dat c z b = dat s m i + dat t n j := by
  refine ⟨_, _, _, rfl, ?_, ?_⟩
  · omega
  rw [natAbs_val _ _ (by intro h; simp [h])]
  rw [Rat.intCast_add, Rat.add_mul, signed_val, signed_val]
  congr 2 <;> omega
theorem fin_parts {x : Nat} (hx : x < 2 ^ 64) (hf : fin x = true) : pKind x = 0 ∧ D64.read x = .number (pNeg x) (pMag x) (pExp x) ∧ -1074 ≤ pExp x ∧ pMag x < 2 ^ 53 := by
  have hk : pKind x = 0 := by
    have := read_eq x hx
    rcases Nat.lt_or_ge 0 (pKind x) with h0 | h0
    · rw [if_neg (by omega)] at this
      obtain ⟨s', m', p', hr⟩ := (fin_iff x).1 hf
      rw [hr] at this
      split at this <;> cases this
    · omega
  exact ⟨hk, by rw [read_eq x hx, if_pos hk], (pExp_ge x hk).1, pMag_lt x⟩
theorem fin_kind {x : Nat} (hx : x < 2 ^ 64) : fin x = decide (pKind x = 0) := by
  cases h : fin x
  · symm; rw [decide_eq_false_iff_not]; intro hk
    have : fin x = true := fin_of_read (by rw [read_eq x hx, if_pos hk])
    rw [this] at h; cases h
  · rw [(fin_parts hx h).1]; rfl
theorem val_parts {x : Nat} (hx : x < 2 ^ 64) (hf : pKind x = 0) : val x = dat (pNeg x) (pMag x) (pExp x) := val_of (by rw [read_eq x hx, if_pos hf])
theorem fadd_read' {x y : Nat} (hx : x < 2 ^ 64) (hy : y < 2 ^ 64) (fx : fin x = true) (fy : fin y = true) : ∃ c z b, fadd x y = D64.write (.number c z b) ∧ -1074 ≤ b ∧ dat c z b = val x + val y := by
  obtain ⟨_, rx, px, _⟩ := fin_parts hx fx
  obtain ⟨_, ry, py, _⟩ := fin_parts hy fy
  obtain ⟨c, z, b, h1, h2, h3⟩ := sum_val' (s := pNeg x) (t := pNeg y) (m := pMag x) (n := pMag y) px py
  refine ⟨c, z, b, ?_, h2, ?_⟩
  · unfold fadd Format.add; rw [rx, ry, h1]; rfl
  · rw [h3, val_of rx, val_of ry]
end Sedge
end
section
/-
  Plain: a product added is close.
-/
set_option linter.unusedSimpArgs false
set_option linter.unusedVariables false
namespace Sedge
open Ieee
theorem U_le : U ≤ 1 := by unfold U; decide +kernel
theorem abs_add_le (x y : Rat) : (x + y).abs ≤ x.abs + y.abs := by
  have h1 := le_abs x
  have h2 := le_abs y
  have h3 := neg_le_abs x
  have h4 := neg_le_abs y
  exact abs_le_of (by grind) (by grind)
end Sedge
end
section
/-
  Plain: how far sums of products, made step by step, are from the exact ones.
-/
set_option linter.unusedSimpArgs false
set_option linter.unusedVariables false
namespace Sedge
open Ieee
/-- The exact sum, and the sum without signs. -/
def exS (s0 : Rat) (T : Nat → Rat) : Nat → Rat
  | 0 => s0
  | j + 1 => exS s0 T j + T j
def exB (s0 : Rat) (T : Nat → Rat) : Nat → Rat
  | 0 => s0.abs
  | j + 1 => exB s0 T j + (T j).abs
theorem U_small : 4096 * U ≤ 1 := by unfold U; decide +kernel
end Sedge
end
section
/-
  Plain: the bound of a rest is one.
-/
set_option linter.unusedSimpArgs false
set_option linter.unusedVariables false
namespace Sedge
open Ieee
/-- A number without its sign. -/
theorem fabs_val {x : Nat} (hx : x < 2 ^ 64) : fin (fabs x) = fin x ∧ (fin x = true → val (fabs x) = (val x).abs) := by
  have hl : fabs x < 2 ^ 64 := Nat.lt_of_le_of_lt (Nat.mod_le _ _) hx
  obtain ⟨h1, h2, h3⟩ := parts_abs x
  refine ⟨by rw [fin_kind hl, fin_kind hx, h1], fun hf => ?_⟩
  have hk := (fin_parts hx hf).1
  rw [val_parts hl (by rw [h1]; exact hk), val_parts hx hk, h2, h3, pNeg_abs, dat_abs]
  unfold dat sgn
  simp
theorem fabs_lt {x : Nat} (hx : x < 2 ^ 64) : fabs x < 2 ^ 64 := Nat.lt_of_le_of_lt (Nat.mod_le _ _) hx
/-- The values of the constants in the bounds. -/
def cG (n : Nat) : Rat := ((n : Rat) + 3) * p2 (-52)
end Sedge
end
section
/-
  Plain: quotients.
-/
set_option linter.unusedSimpArgs false
set_option linter.unusedVariables false
namespace Sedge
open Ieee
theorem dat_ne {s : Bool} {m : Nat} {p : Int} (h : dat s m p ≠ 0) : m ≠ 0 := fun h0 => by subst h0; exact h (dat_zero s p)
theorem dat_eq_zero {s : Bool} {m : Nat} {p : Int} (h : dat s m p = 0) : m = 0 := by
  rcases Nat.eq_zero_or_pos m with h0 | h0
  · exact h0
  · exfalso
    have h1 : (dat s m p).abs = (m : Rat) * p2 p := dat_abs s m p
    rw [h] at h1
    have h2 : (0 : Rat).abs = 0 := by decide +kernel
    rw [h2] at h1
    have h3 : (0 : Rat) < m := Rat.natCast_pos.2 h0
    have := Rat.mul_pos h3 (p2_pos p)
    rw [← h1] at this
    exact absurd this (by decide +kernel)
/-- The digits of a quotient. -/
theorem quot_digits {m n more : Nat} (hm : m ≠ 0) (hn : n ≠ 0) (hmore : more = 54 + n.log2 - m.log2) :
    2 ^ 53 * n ≤ m <<< more ∧ ((2 * ((m <<< more) / n) + ((m <<< more) % n != 0).toNat) * n ≤ 2 * (m <<< more) + n) ∧ (2 * (m <<< more) ≤ (2 * ((m <<< more) / n) + ((m <<< more) % n != 0).toNat) * n + n) := by
  have h1 : 2 ^ 53 * n ≤ m <<< more := by
    rw [Nat.shiftLeft_eq]
    have a1 := (log2_spec m hm).1
    have a2 := (log2_spec n hn).2
    have a3 : 2 ^ m.log2 * 2 ^ more ≤ m * 2 ^ more := Nat.mul_le_mul_right _ a1
    rw [← Nat.pow_add] at a3
    have a4 : 2 ^ (54 + n.log2) ≤ 2 ^ (m.log2 + more) := Nat.pow_le_pow_right (by decide) (by omega)
    have a5 : 2 ^ (54 + n.log2) = 2 ^ 53 * 2 ^ (n.log2 + 1) := by rw [← Nat.pow_add]; congr 1; omega
    have a6 : 2 ^ 53 * n ≤ 2 ^ 53 * 2 ^ (n.log2 + 1) := Nat.mul_le_mul_left _ (Nat.le_of_lt a2)
    omega
  refine ⟨h1, ?_⟩
  generalize m <<< more = d at *
  have hd := Nat.div_add_mod d n
  have hr := Nat.mod_lt d (Nat.pos_of_ne_zero hn)
  generalize d / n = q at *
  generalize d % n = r at *
  have e1 : (2 * q + (r != 0).toNat) * n = 2 * (n * q) + (r != 0).toNat * n := by rw [Nat.add_mul, Nat.mul_assoc, Nat.mul_comm q n]
  rw [e1]
  by_cases h0 : r = 0
  · subst h0; simp; omega
  · have : (r != 0) = true := by simpa using h0
    rw [this]; simp; omega
theorem fdiv_read {x y : Nat} (hx : fin x = true) (hy : fin y = true) (hy0 : val y ≠ 0) : ∃ c z b, fdiv x y = D64.write (.number c z b) ∧ (dat c z b * val y - val x).abs ≤ U * (val x).abs := by
  obtain ⟨s, m, i, hx⟩ := (fin_iff x).1 hx
  obtain ⟨t, n, j, hy⟩ := (fin_iff y).1 hy
  rw [val_of hy] at hy0 ⊢
  rw [val_of hx]
  have hn := dat_ne hy0
  refine ⟨s ^^ t, 2 * ((m <<< (54 + n.log2 - m.log2)) / n) + ((m <<< (54 + n.log2 - m.log2)) % n != 0).toNat, i - j - ((54 + n.log2 - m.log2 : Nat) : Int) - 1, ?_, ?_⟩
  · unfold fdiv Format.div; rw [hx, hy]; simp only [Datum.quotient, if_neg hn]; rfl
  by_cases hm : m = 0
  · subst hm
    have e0 : (0 : Nat) <<< (54 + n.log2 - Nat.log2 0) = 0 := by rw [Nat.shiftLeft_eq]; simp
    rw [e0]
    have e1 : 2 * (0 / n) + (0 % n != 0).toNat = 0 := by simp
    rw [e1, dat_zero, dat_zero]
    have : ((0 : Rat) * dat t n j - 0).abs = 0 := by rw [show (0 : Rat) * dat t n j - 0 = 0 by grind]; decide +kernel
    rw [this]
    have h2 : (0 : Rat).abs = 0 := by decide +kernel
    rw [h2]; grind
  obtain ⟨h1, h2, h3⟩ := quot_digits hm hn rfl
  generalize hmo : 54 + n.log2 - m.log2 = more at *
  generalize hq : 2 * (m <<< more / n) + (m <<< more % n != 0).toNat = Q at *
  have hd : m <<< more = m * 2 ^ more := Nat.shiftLeft_eq m more
  rw [hd] at h1 h2 h3
  -- in units of 2^(i - more - 1)
  have e1 : dat (s ^^ t) Q (i - j - more - 1) * dat t n j - dat s m i = sgn s * (((Q * n : Nat) : Rat) - ((2 * (m * 2 ^ more) : Nat) : Rat)) * p2 (i - more - 1) := by
    unfold dat
    rw [sgn_xor]
    have a1 : p2 (i - j - more - 1) * p2 j = p2 (i - more - 1) := by rw [← p2_add]; congr 1; omega
    have a2 : p2 i = 2 * ((2 ^ more : Nat) : Rat) * p2 (i - more - 1) := by
      rw [← p2_nat, ← p2_succ, ← p2_add]; congr 1; omega
    have a3 := sgn_sq t
    rw [a2]
    simp only [Rat.natCast_mul]
    have b1 : ((2 : Nat) : Rat) = 2 := rfl
    rw [b1]
    grind
  rw [e1]
  have h1' := Rat.natCast_le_natCast.2 h1
  have h2' := Rat.natCast_le_natCast.2 h2
  have h3' := Rat.natCast_le_natCast.2 h3
  have e2 : (dat s m i).abs = ((2 * (m * 2 ^ more) : Nat) : Rat) * p2 (i - more - 1) := by
    rw [dat_abs]
    have a2 : p2 i = 2 * ((2 ^ more : Nat) : Rat) * p2 (i - more - 1) := by
      rw [← p2_nat, ← p2_succ, ← p2_add]; congr 1; omega
    rw [a2]
    simp only [Rat.natCast_mul]
    have b1 : ((2 : Nat) : Rat) = 2 := rfl
    rw [b1]
    grind
  rw [e2]
  have hp := p2_pos (i - more - 1)
  rw [Rat.mul_assoc, abs_sgn_mul]
  have e3 : ((2 ^ 53 * n : Nat) : Rat) = p2 53 * (n : Rat) := by rw [Rat.natCast_mul, ← p2_nat]; rfl
  have e4 : p2 53 * U = 1 := by unfold U; exact p2_inv 53
  have hU := U_pos
  have c1 : ((n : Nat) : Rat) ≤ U * ((2 * (m * 2 ^ more) : Nat) : Rat) := by
    rw [e3] at h1'
    have := Rat.mul_le_mul_of_nonneg_left h1' (Rat.le_of_lt hU)
    have e5 : ((2 * (m * 2 ^ more) : Nat) : Rat) = 2 * ((m * 2 ^ more : Nat) : Rat) := by rw [Rat.natCast_mul]; rfl
    rw [e5]
    have p0 : 0 ≤ U * ((m * 2 ^ more : Nat) : Rat) := Rat.mul_nonneg (Rat.le_of_lt hU) Rat.natCast_nonneg
    have : U * (p2 53 * (n : Rat)) = n := by
      have : U * (p2 53 * (n : Rat)) = p2 53 * U * n := by grind
      rw [this, e4]; grind
    grind
  rw [Rat.natCast_add] at h2' h3'
  generalize ((2 * (m * 2 ^ more) : Nat) : Rat) = D at *
  generalize ((Q * n : Nat) : Rat) = R at *
  have k1 := Rat.mul_le_mul_of_nonneg_right (show R - D ≤ U * D by grind) (Rat.le_of_lt hp)
  have k2 := Rat.mul_le_mul_of_nonneg_right (show -(U * D) ≤ R - D by grind) (Rat.le_of_lt hp)
  exact abs_le_of (by grind) (by grind)
theorem abs_mul (x y : Rat) : (x * y).abs = x.abs * y.abs := by
  rcases Rat.le_total (a := 0) (b := x) with p | p <;> rcases Rat.le_total (a := 0) (b := y) with q | q
  · rw [Rat.abs_of_nonneg p, Rat.abs_of_nonneg q, Rat.abs_of_nonneg (Rat.mul_nonneg p q)]
  · rw [Rat.abs_of_nonneg p, Rat.abs_of_nonpos q, Rat.abs_of_nonpos (by have := Rat.mul_nonneg p (show 0 ≤ -y by grind); grind)]; grind
  · rw [Rat.abs_of_nonpos p, Rat.abs_of_nonneg q, Rat.abs_of_nonpos (by have := Rat.mul_nonneg (show 0 ≤ -x by grind) q; grind)]; grind
  · rw [Rat.abs_of_nonpos p, Rat.abs_of_nonpos q, Rat.abs_of_nonneg (by have := Rat.mul_nonneg (show 0 ≤ -x by grind) (show 0 ≤ -y by grind); grind)]; grind
end Sedge
end
section
/-
  Plain: the backward error of a row is one.
-/
set_option linter.unusedSimpArgs false
set_option linter.unusedVariables false
namespace Sedge
open Ieee
/-! Words that are not below 0. -/
def nnD : Datum → Prop
  | .number s m _ => s = false ∨ m = 0
  | .infinity s => s = false
  | .nan .. => True
def nn (x : Nat) : Prop := nnD (D64.read x)
/-- How finite numbers are ordered. -/
theorem order_val {x y : Nat} (hx : fin x = true) (hy : fin y = true) : (fgt x y = true ↔ val y < val x) ∧ (feq x y = true ↔ val x = val y) ∧ (flt x y = true ↔ val x < val y) := by
  obtain ⟨s, m, i, hx⟩ := (fin_iff x).1 hx
  obtain ⟨t, n, j, hy⟩ := (fin_iff y).1 hy
  have h1 := signed_val s m (i - min i j).toNat (min i j)
  have h2 := signed_val t n (j - min i j).toNat (min i j)
  rw [show min i j + ((i - min i j).toNat : Int) = i by omega] at h1
  rw [show min i j + ((j - min i j).toNat : Int) = j by omega] at h2
  have e : D64.order x y = some (compare (signed s m (i - min i j).toNat) (signed t n (j - min i j).toNat)) := by
    unfold Format.order; rw [hx, hy]; rfl
  rw [val_of hx, val_of hy, ← h1, ← h2]
  unfold fgt feq flt
  rw [e]
  generalize signed s m (i - min i j).toNat = a
  generalize signed t n (j - min i j).toNat = b
  have hp := p2_pos (min i j)
  generalize p2 (min i j) = g at *
  have key : ∀ c d : Int, c < d → (c : Rat) * g < (d : Rat) * g := fun c d h => Rat.mul_lt_mul_of_pos_right (Rat.intCast_lt_intCast.2 h) hp
  have irr : ∀ r : Rat, ¬ r < r := fun r => Rat.lt_irrefl
  rw [some_beq, some_beq, some_beq, cmp_gt, cmp_eq, cmp_lt]
  simp only [decide_eq_true_eq]
  rcases Int.lt_trichotomy a b with h | h | h
  · have := key a b h
    refine ⟨⟨fun h' => by omega, fun h' => by grind⟩, ⟨fun h' => by omega, fun h' => by grind⟩, ⟨fun _ => this, fun _ => h⟩⟩
  · subst h
    refine ⟨⟨fun h' => by omega, fun h' => absurd h' (irr _)⟩, ⟨fun _ => rfl, fun _ => rfl⟩, ⟨fun h' => by omega, fun h' => absurd h' (irr _)⟩⟩
  · have := key b a h
    refine ⟨⟨fun _ => this, fun _ => h⟩, ⟨fun h' => by omega, fun h' => by grind⟩, ⟨fun h' => by omega, fun h' => by grind⟩⟩
end Sedge
end
section
/-
  Plain: a number of a product is close.
-/
set_option linter.unusedSimpArgs false
set_option linter.unusedVariables false
namespace Sedge
open Ieee
theorem fmul_best {x y f : Nat} (h : fin (fmul x y) = true) (hf : f < 2 ^ 64) (ff : fin f = true) : (val (fmul x y) - val x * val y).abs ≤ (val f - val x * val y).abs := by
  obtain ⟨fx, fy⟩ := fmul_fin h
  obtain ⟨c, z, b, h1, h2⟩ := fmul_read fx fy
  rw [h1] at h ⊢
  rw [← h2]
  by_cases hz : z = 0
  · subst hz
    have e : D64.write (.number c 0 b) = D64.word c 0 := by
      show D64.nearest c 0 b = _; unfold Format.nearest; rw [if_pos rfl]
    rw [e, (word_zero c).1, dat_zero]
    have : ((0 : Rat) - 0).abs = 0 := by decide +kernel
    rw [this]
    exact Rat.abs_nonneg
  · exact nearest_best c z b hz h hf ff
theorem val_one : val 4607182418800017408 = 1 := by decide +kernel
theorem eq_of_abs {x y : Rat} (h : (x - y).abs ≤ 0) : x = y := by
  have h1 := le_abs (x - y)
  have h2 := neg_le_abs (x - y)
  grind
theorem fmul_exact {x y f : Nat} (h : fin (fmul x y) = true) (hf : f < 2 ^ 64) (ff : fin f = true) (e : val f = val x * val y) : val (fmul x y) = val x * val y := by
  have h1 := fmul_best h hf ff
  rw [e, show val x * val y - val x * val y = 0 by grind, show (0 : Rat).abs = 0 by decide +kernel] at h1
  exact eq_of_abs h1
theorem fmul_one {x : Nat} (hx : x < 2 ^ 64) (h : fin (fmul 4607182418800017408 x) = true) : val (fmul 4607182418800017408 x) = val x := by
  have h1 := fmul_exact h hx (fmul_fin h).2 (by rw [val_one]; grind)
  rw [h1, val_one]; grind
end Sedge
end
section
/-
  Plain: whole numbers that are small: sums and products are exact.
-/
set_option linter.unusedSimpArgs false
set_option linter.unusedVariables false
namespace Sedge
open Ieee
theorem word_lt (s : Bool) (n : Nat) (h : n < SW) : D64.word s n < 2 ^ 64 := by
  have e : (2:Nat) ^ 64 = SW + SW := by decide +kernel
  rw [e]
  unfold Format.word
  simp only [signWeight_eq]
  split <;> omega
/-- Two whole numbers in units of 2^l that are less than a unit apart. -/
theorem units_eq {K Z : Int} {l : Int} (h : ((K : Rat) * p2 l - (Z : Rat) * p2 l).abs ≤ p2 (l - 1)) : K = Z := by
  have hp := p2_pos (l - 1)
  have e : p2 l = 2 * p2 (l - 1) := by rw [show l = l - 1 + 1 by omega, p2_succ]; rw [show l - 1 + 1 - 1 = l - 1 by omega]
  have h1 := Rat.le_trans (le_abs _) h
  have h2 := Rat.le_trans (neg_le_abs _) h
  rw [e] at h1 h2
  rcases Int.lt_trichotomy K Z with h3 | h3 | h3
  · have h4 : (K : Rat) + 1 ≤ Z := by
      have : ((K + 1 : Int) : Rat) ≤ (Z : Rat) := Rat.intCast_le_intCast.2 (by omega)
      rw [Rat.intCast_add] at this; exact this
    have h5 := Rat.mul_le_mul_of_nonneg_right h4 (Rat.le_of_lt hp)
    grind
  · exact h3
  · have h4 : (Z : Rat) + 1 ≤ K := by
      have : ((Z + 1 : Int) : Rat) ≤ (K : Rat) := Rat.intCast_le_intCast.2 (by omega)
      rw [Rat.intCast_add] at this; exact this
    have h5 := Rat.mul_le_mul_of_nonneg_right h4 (Rat.le_of_lt hp)
    grind
theorem dat_int (s : Bool) (k : Nat) (l : Int) : dat s k l = ((if s then -(k : Int) else (k : Int) : Int) : Rat) * p2 l := by
  unfold dat sgn
  cases s
  · simp [Rat.intCast_natCast]
  · simp only [if_true]; rw [Rat.intCast_neg, Rat.intCast_natCast]; grind
/-- What is written of a whole number below 2^53. -/
theorem write_int {s : Bool} {m : Nat} {p : Int} {z : Int} (hz : z.natAbs < 2 ^ 53) (h : dat s m p = (z : Rat)) : fin (D64.write (.number s m p)) = true ∧ val (D64.write (.number s m p)) = (z : Rat) ∧ D64.write (.number s m p) < 2 ^ 64 := by
  by_cases h0 : m = 0
  · subst h0
    have e : D64.write (.number s 0 p) = D64.word s 0 := by
      show D64.nearest s 0 p = _; unfold Format.nearest; rw [if_pos rfl]
    rw [e]
    rw [dat_zero] at h
    exact ⟨(word_zero s).2, by rw [(word_zero s).1]; exact h, word_lt s 0 (by decide +kernel)⟩
  · have ew : D64.write (.number s m p) = D64.nearest s m p := rfl
    rw [ew]
    have hm : (m : Rat) * p2 p = ((z.natAbs : Nat) : Rat) := by
      rw [← dat_abs s m p, h]
      rcases (show z < 0 ∨ 0 ≤ z by omega) with hn | hn
      · have : (z : Rat) = -((z.natAbs : Nat) : Rat) := by rw [← Rat.intCast_natCast, ← Rat.intCast_neg]; congr 1; omega
        rw [this, Rat.abs_neg]; exact Rat.abs_of_nonneg Rat.natCast_nonneg
      · have : (z : Rat) = ((z.natAbs : Nat) : Rat) := by rw [← Rat.intCast_natCast]; congr 1; omega
        rw [this]; exact Rat.abs_of_nonneg Rat.natCast_nonneg
    obtain ⟨hl1, hl2⟩ := log2_spec m h0
    have hlog : p + m.log2 ≤ 52 := by
      rcases (show p + m.log2 < 53 ∨ 53 ≤ p + m.log2 by omega) with h1 | h1
      · omega
      · exfalso
        have a1 : p2 53 ≤ p2 (p + m.log2) := p2_mono h1
        have a2 : p2 (p + m.log2) ≤ (m : Rat) * p2 p := by
          rw [p2_add, Rat.mul_comm]
          refine Rat.mul_le_mul_of_nonneg_right ?_ (Rat.le_of_lt (p2_pos p))
          rw [p2_nat]; exact Rat.natCast_le_natCast.2 hl1
        rw [hm] at a2
        have a3 : ((z.natAbs : Nat) : Rat) < p2 53 := by
          rw [show (53 : Int) = ((53 : Nat) : Int) from rfl, p2_nat]; exact Rat.natCast_lt_natCast.2 hz
        grind
    have hl0 : lastP m p ≤ 0 := by unfold lastP; omega
    have hge := lastP_ge m p
    have hk := kept_le m p h0
    have hlt : (lastP m p + 1074).toNat * BN + keptP m p < IR := by
      have h1 : (lastP m p + 1074).toNat ≤ 1074 := by omega
      have h2 := Nat.mul_le_mul_right BN h1
      have h3 : 1074 * BN + 2 ^ 53 < IR := by decide +kernel
      omega
    have hf : fin (D64.nearest s m p) = true := by
      rw [nearest_eq s m p h0, Nat.min_eq_left (Nat.le_of_lt hlt)]
      have hor : 2 ^ 52 ≤ keptP m p ∨ lastP m p = -1074 := by
        rcases lastP_or m p with h1 | h1
        · exact .inl (kept_ge m p h0 h1)
        · exact .inr h1.1
      obtain ⟨m', q, hr, _⟩ := read_kept s (lastP m p) (keptP m p) hge hk hor hlt
      exact fin_of_read hr
    obtain ⟨e1, e2⟩ := nearest_err s m p h0 hf
    refine ⟨hf, ?_, ?_⟩
    · rw [e2, h, dat_int] at e1
      obtain ⟨L, hL⟩ : ∃ L : Nat, lastP m p = -(L : Int) := ⟨(-lastP m p).toNat, by omega⟩
      have ez : (z : Rat) = ((z * (2 ^ L : Nat) : Int) : Rat) * p2 (lastP m p) := by
        rw [Rat.intCast_mul, Rat.intCast_natCast, ← p2_nat, Rat.mul_assoc, ← p2_add, hL, show (L : Int) + -(L : Int) = 0 by omega, p2_zero, Rat.mul_one]
      rw [e2, dat_int]
      rw [ez] at e1 ⊢
      rw [units_eq e1]
    · rw [nearest_eq s m p h0, Nat.min_eq_left (Nat.le_of_lt hlt)]
      exact word_lt s _ (Nat.lt_trans hlt (by decide +kernel))
/-- The word x is worth the whole number z. -/
def WI (x : Nat) (z : Int) : Prop := x < 2 ^ 64 ∧ fin x = true ∧ val x = (z : Rat)
theorem WI.zero : WI 0 0 := ⟨by decide, by decide +kernel, by decide +kernel⟩
theorem WI.one : WI 4607182418800017408 1 := ⟨by decide, by decide +kernel, by decide +kernel⟩
theorem WI.two : WI 4611686018427387904 2 := ⟨by decide, by decide +kernel, by decide +kernel⟩
theorem fint_int {z : Int} (hz : z.natAbs < 2 ^ 53) : WI (fint z) z := by
  have h : dat (decide (z < 0)) z.natAbs 0 = (z : Rat) := by rw [natAbs_val _ _ (fun _ => rfl), p2_zero, Rat.mul_one]
  obtain ⟨h1, h2, h3⟩ := write_int hz h
  exact ⟨h3, h1, h2⟩
theorem WI.feq {x y : Nat} {a b : Int} (hx : WI x a) (hy : WI y b) : feq x y = decide (a = b) := by
  have h := (order_val hx.2.1 hy.2.1).2.1
  rw [hx.2.2, hy.2.2, Rat.intCast_inj] at h
  by_cases e : a = b
  · rw [h.2 e, decide_eq_true e]
  · rw [decide_eq_false e]
    cases hh : Sedge.feq x y
    · rfl
    · exact absurd (h.1 hh) e
end Sedge
end
section
/-
  Laws of walks that the texts of this seat share: floats within a walk, what a slice reads as.
-/
set_option linter.unusedSimpArgs false
set_option linter.unusedVariables false
namespace Sedge
open Go Go.RowKit

/-- A stop for the walk between two pieces of code: here the world is given a name. -/
def Stop (K : Act → World → Prop) (a : Act) (w : World) : Prop := K a w
theorem seq_stop {P : Program} {x y : Code} {Q : Exit → Act → World → Prop} {a : Act} {w : World}
    (h : x.wp P (Exit.then (Stop (y.wp P Q)) Q) a w) : (Code.seq x y).wp P Q a w := wp_seq h
theorem stop_go {K : Act → World → Prop} {a : Act} {w : World} (h : ∀ W, W = w → K a W) : Stop K a w := h _ rfl
theorem hid {p : Prop} (h : p) : Hid p := h

/-- What '+', '-', '*', '/' give, of canonical words. -/
def fop : BinOp → Nat → Nat → Nat
  | .add => fadd
  | .sub => fsub
  | .mul => fmul
  | .quo => fdiv
  | _ => fun _ _ => QN
def fbits : BinOp → Nat → Nat → Option Nat
  | .add => D64.add
  | .sub => D64.sub
  | .mul => D64.mul
  | .quo => D64.div
  | _ => fun _ _ => none
def isArith : BinOp → Bool
  | .add | .sub | .mul | .quo => true
  | _ => false

theorem isNan_of_cut (t x y : Nat) : (Question.nanBits .f64 x y).cut t < 2 ^ 64 ∧ isNan ((Question.nanBits .f64 x y).cut t) = true := by
  show (t % 2) * 2 ^ 63 + 0x7ff0000000000000 + 1 + (t / 2) % (2 ^ 52 - 1) < 2 ^ 64 ∧ isNan ((t % 2) * 2 ^ 63 + 0x7ff0000000000000 + 1 + (t / 2) % (2 ^ 52 - 1)) = true
  have h1 : (t / 2) % (2 ^ 52 - 1) < 2 ^ 52 - 1 := Nat.mod_lt _ (by decide)
  have h2 : t % 2 < 2 := Nat.mod_lt _ (by decide)
  generalize (t / 2) % (2 ^ 52 - 1) = q at *
  refine ⟨by omega, ?_⟩
  have e : (t % 2) * 2 ^ 63 + 0x7ff0000000000000 + 1 + q = D64.word (t % 2 == 1) (0x7ff0000000000000 + 1 + q) := by
    unfold Ieee.Format.word
    rw [signWeight_eq]
    rcases Nat.lt_or_ge (t % 2) 1 with h | h
    · have : t % 2 = 0 := by omega
      rw [this]; simp
    · have : t % 2 = 1 := by omega
      rw [this]; simp [SW]; omega
  rw [e]
  unfold isNan
  rw [read_word _ _ (by unfold SW; omega), if_neg (by unfold BN; omega), if_neg (by unfold IR; omega), if_neg (by unfold IR; omega)]
  rfl

theorem fop_notnan {op : BinOp} {x y r : Nat} (h : fbits op x y = some r) : isNan r = false := by
  cases op <;> simp only [fbits] at h <;> first | exact add_notnan h | exact sub_notnan h | exact mul_notnan h | exact div_notnan h | cases h
theorem fop_lt {op : BinOp} {x y r : Nat} (h : fbits op x y = some r) : r < 2 ^ 64 := by
  have e : (2 : Nat) ^ D64.width = 2 ^ 64 := by decide +kernel
  rw [← e]
  cases op <;> simp only [fbits] at h <;> first | exact D64.add_lt h | exact D64.sub_lt h | exact D64.mul_lt h | exact D64.div_lt h | cases h
theorem fop_eq {op : BinOp} (hop : isArith op = true) (x y : Nat) : fop op (canon x) (canon y) = (fbits op x y).getD QN := by
  cases op <;> simp only [isArith] at hop <;> first | cases hop | skip
  · simp only [fop, fbits, fadd, add_canon]
  · simp only [fop, fbits, fsub, sub_canon]
  · simp only [fop, fbits, fmul, mul_canon]
  · simp only [fop, fbits, fdiv, div_canon]

theorem upon_id {P : Program} {o : Oper} {a : Act} {K : Act → World → Prop} {Q : Exit → Act → World → Prop} {w : World} {op : BinOp} {t : TypeId} {b c : Nat} {f : Value → World → Result Next}
    (h : o.upon P a K Q ((Sem.run P (binOp op t (.float .f64 b) (.float .f64 c)) w).andThen f)) : o.upon P a K Q ((Sem.run P (binOp op t (.float .f64 b) (.float .f64 c)) w).andThen f) := h
/-- THE WALK's ARM FOR '+', '-', '*', '/' ON FLOATS: some word that stands for the result; perhaps one draw. -/
theorem upon_fop {P : Program} {o : Oper} {a : Act} {K : Act → World → Prop} {Q : Exit → Act → World → Prop} {w : World} {op : BinOp} {t : TypeId} {b c x y : Nat}
    (hop : isArith op = true) (hx : IsF b x) (hy : IsF c y)
    (h : ∀ r n, IsF r (fop op x y) → K (a.put o.dst (.float .f64 r)) (w.drewN n)) :
    o.upon P a K Q ((Sem.run P (binOp op t (.float .f64 b) (.float .f64 c)) w).andThen fun v w' => .ok (.value v) w') := by
  have hrun : Sem.run P (binOp op t (.float .f64 b) (.float .f64 c)) w = match fbits op b c with
      | some r => .ok (.float .f64 r) w
      | none => .ok (.float .f64 ((Question.nanBits .f64 b c).cut (w.tape w.drawn (.nanBits .f64 b c)))) (w.drewN 1) := by
    cases op <;> simp only [isArith] at hop <;> first | cases hop | skip
    · have e : FloatKind.f64.format.add b c = D64.add b c := rfl
      show Sem.run P (Op.floatArith .add .f64 b c) w = match D64.add b c with
        | some r => Result.ok (Value.float .f64 r) w
        | none => .ok (.float .f64 ((Question.nanBits .f64 b c).cut (w.tape w.drawn (.nanBits .f64 b c)))) (w.drewN 1)
      unfold Op.floatArith
      simp only [e]
      cases D64.add b c <;> rfl
    · have e : FloatKind.f64.format.sub b c = D64.sub b c := rfl
      show Sem.run P (Op.floatArith .sub .f64 b c) w = match D64.sub b c with
        | some r => Result.ok (Value.float .f64 r) w
        | none => .ok (.float .f64 ((Question.nanBits .f64 b c).cut (w.tape w.drawn (.nanBits .f64 b c)))) (w.drewN 1)
      unfold Op.floatArith
      simp only [e]
      cases D64.sub b c <;> rfl
    · have e : FloatKind.f64.format.mul b c = D64.mul b c := rfl
      show Sem.run P (Op.floatArith .mul .f64 b c) w = match D64.mul b c with
        | some r => Result.ok (Value.float .f64 r) w
        | none => .ok (.float .f64 ((Question.nanBits .f64 b c).cut (w.tape w.drawn (.nanBits .f64 b c)))) (w.drewN 1)
      unfold Op.floatArith
      simp only [e]
      cases D64.mul b c <;> rfl
    · have e : FloatKind.f64.format.div b c = D64.div b c := rfl
      show Sem.run P (Op.floatArith .quo .f64 b c) w = match D64.div b c with
        | some r => Result.ok (Value.float .f64 r) w
        | none => .ok (.float .f64 ((Question.nanBits .f64 b c).cut (w.tape w.drawn (.nanBits .f64 b c)))) (w.drewN 1)
      unfold Op.floatArith
      simp only [e]
      cases D64.div b c <;> rfl
  rw [hrun]
  have he := fop_eq hop b c
  rw [hx.2, hy.2] at he
  cases hb : fbits op b c with
  | some r =>
    rw [hb] at he
    exact h r 0 ⟨fop_lt hb, by rw [canon_not (fop_notnan hb), he]; rfl⟩
  | none =>
    rw [hb] at he
    obtain ⟨h1, h2⟩ := isNan_of_cut (w.tape w.drawn (.nanBits .f64 b c)) b c
    exact h _ 1 ⟨h1, by rw [canon_nan h2, he]; rfl⟩

end Sedge
end
section
/-
  What a slice of floats, a vector, a matrix reads as; that it stays so.
-/
set_option linter.unusedSimpArgs false
set_option linter.unusedVariables false
namespace Sedge
open Go Go.RowKit

/-- The world w, new blocks laid behind; n draws have been made in all. -/
def ext (w : World) (o : Array Obj) (n : Nat) : World := { w with heap := w.heap ++ o, drawn := n }

@[go_sem] theorem lt_add_r {a b c : Nat} (h : a < b) : (a < b + c) = True := by simp; omega

section
variable {w : World} {o : Array Obj} {n : Nat}
@[simp, go_sem] theorem size_ext : (ext w o n).heap.size = w.heap.size + o.size := by simp [ext]
theorem block_ext {k : Nat} (h : k < w.heap.size) : (ext w o n).heap[k]? = w.heap[k]? := by
  show (w.heap ++ o)[k]? = _
  rw [Array.getElem?_append_left h]
theorem cell_ext' {a : Addr} (h : a.block < w.heap.size) : (ext w o n).cell? a = w.cell? a := by
  unfold World.cell?; rw [block_ext h]
theorem frozen_ext' {a : Addr} (h : a.block < w.heap.size) : (ext w o n).frozen? a = w.frozen? a := by
  unfold World.frozen?; rw [block_ext h]
@[go_sem] theorem cell_ext {b i : Nat} (h : b < w.heap.size) : (ext w o n).cell? ⟨b, i, none⟩ = w.cell? ⟨b, i, none⟩ := cell_ext' h
@[go_sem] theorem frozen_ext {b i : Nat} (h : b < w.heap.size) : (ext w o n).frozen? ⟨b, i, none⟩ = w.frozen? ⟨b, i, none⟩ := frozen_ext' h
@[simp, go_sem] theorem ext_ext {o' : Array Obj} {n' : Nat} : ext (ext w o n) o' n' = ext w (o ++ o') n' := by
  unfold ext; simp [Array.append_assoc]
@[simp, go_sem] theorem ext_drew : (ext w o n).drew = ext w o (n + 1) := rfl
@[simp, go_sem] theorem ext_drewN {m : Nat} : (ext w o n).drewN m = ext w o (n + m) := rfl
@[simp, go_sem] theorem drew_ext : ext w.drew o n = ext w o n := rfl
@[simp, go_sem] theorem drewN_ext {m : Nat} : ext (w.drewN m) o n = ext w o n := rfl
theorem setCell_ext' {a : Addr} (h : a.block < w.heap.size) (v : Value) : (ext w o n).setCell a v = ext (w.setCell a v) o n := by
  unfold ext World.setCell
  simp only [World.mk.injEq, true_and]
  refine ⟨?_, trivial⟩
  apply Array.ext_getElem?
  intro i
  by_cases hi : i < w.heap.size
  · rw [Array.getElem?_append_left (by simpa using hi), Array.getElem?_modify, Array.getElem?_modify, Array.getElem?_append_left hi]
  · rw [Array.getElem?_append_right (by simpa using hi), Array.getElem?_modify, if_neg (by omega), Array.getElem?_append_right (by omega)]
    simp
@[go_sem] theorem setCell_ext {b i : Nat} (h : b < w.heap.size) (v : Value) : (ext w o n).setCell ⟨b, i, none⟩ v = ext (w.setCell ⟨b, i, none⟩ v) o n := setCell_ext' h v
theorem ext_zero : ext w #[] w.drawn = w := by unfold ext; simp
theorem alloc_ext (x : Obj) : w.alloc x = ext w #[x] w.drawn := by
  unfold ext World.alloc; simp
theorem drewN_ext0 (m : Nat) : w.drewN m = ext w #[] (w.drawn + m) := by unfold ext World.drewN; simp
theorem drew_ext0 : w.drew = ext w #[] (w.drawn + 1) := by unfold ext World.drew; simp
theorem below_ext : Below w.heap.size w (ext w o n) := ⟨rfl, rfl, rfl, by simp, fun _ hk => block_ext hk⟩
end

/-- w' is w with new blocks and draws. -/
def Grew (w w' : World) : Prop := ∃ o n, w' = ext w o n
theorem Grew.refl (w : World) : Grew w w := ⟨#[], _, ext_zero.symm⟩
theorem Grew.trans {a b c : World} (h : Grew a b) (k : Grew b c) : Grew a c := by
  obtain ⟨o, n, rfl⟩ := h
  obtain ⟨o', n', rfl⟩ := k
  exact ⟨_, _, ext_ext⟩
theorem Grew.ext {a w : World} (h : Grew a w) (o : Array Obj) (n : Nat) : Grew a (ext w o n) := h.trans ⟨o, n, rfl⟩
theorem Grew.alloc {a w : World} (h : Grew a w) (o : Obj) : Grew a (w.alloc o) := h.trans ⟨_, _, alloc_ext o⟩
theorem Grew.drewN {a w : World} (h : Grew a w) (n : Nat) : Grew a (w.drewN n) := h.trans ⟨_, _, drewN_ext0 n⟩
theorem Grew.drew {a w : World} (h : Grew a w) : Grew a w.drew := h.trans ⟨_, _, drew_ext0⟩
theorem Grew.below {w w' : World} (h : Grew w w') : Below w.heap.size w w' := by obtain ⟨o, n, rfl⟩ := h; exact below_ext
theorem Grew.of_below {w w' : World} (h : Below w.heap.size w w') : Grew w w' := by
  refine ⟨w'.heap.extract w.heap.size w'.heap.size, w'.drawn, ?_⟩
  obtain ⟨h1, h2, h3, h4, h5⟩ := h
  cases w with | mk hp tp dr os' out => ?_
  cases w' with | mk hp' tp' dr' os'' out' => ?_
  simp only at *
  subst h1 h2 h3
  unfold Sedge.ext
  simp only [World.mk.injEq, true_and, and_true]
  apply Array.ext_getElem?
  intro i
  by_cases hi : i < hp.size
  · rw [h5 i hi, Array.getElem?_append_left hi]
  · rw [Array.getElem?_append_right (by omega), Array.getElem?_extract]
    split
    · congr 1; omega
    · rw [Array.getElem?_eq_none]; omega

def I64 (x : Int) : Prop := -9223372036854775808 ≤ x ∧ x ≤ 9223372036854775807

/-- The slice v reads, in w, as the floats ws. -/
def FS (w : World) (v : Value) (ws : List Nat) : Prop :=
  ws.length ≤ 9223372036854775807 ∧ ∃ a cap, v = .slice a ws.length cap ∧ (a = none → cap = 0) ∧
    ∀ i, i < ws.length → ∃ blk o b, a = some ⟨blk, o, none⟩ ∧ w.cell? ⟨blk, o + i, none⟩ = some (.float .f64 b) ∧ IsF b (ws.getD i 0)

theorem FS.len {w : World} {v : Value} {ws : List Nat} (h : FS w v ws) : ws.length ≤ 9223372036854775807 := h.1

/-- Opened: some address where there is a number. -/
theorem FS.shape {w : World} {v : Value} {ws : List Nat} (h : FS w v ws) : ∃ a cap, v = .slice a ws.length cap := by
  obtain ⟨_, a, cap, rfl, _⟩ := h; exact ⟨a, cap, rfl⟩
/-- The address, where there is a number. -/
theorem FS.at {w : World} {a : Option Addr} {n cap : Nat} {ws : List Nat} (h : FS w (.slice a n cap) ws) : n = ws.length ∧ (0 < ws.length → ∃ blk o, a = some ⟨blk, o, none⟩ ∧ blk < w.heap.size ∧
      ∀ i, i < ws.length → ∃ b, w.cell? ⟨blk, o + i, none⟩ = some (.float .f64 b) ∧ IsF b (ws.getD i 0)) := by
  obtain ⟨_, a', cap', e, _, hc⟩ := h
  cases e
  refine ⟨rfl, fun hn => ?_⟩
  obtain ⟨blk, o, b, rfl, h1, h2⟩ := hc 0 hn
  refine ⟨blk, o, rfl, World.block_lt_of_cell? w _ h1, fun i hi => ?_⟩
  obtain ⟨blk', o', b', he, h1', h2'⟩ := hc i hi
  cases he
  exact ⟨b', h1', h2'⟩
theorem FS.nilcap {w : World} {a : Option Addr} {n cap : Nat} {ws : List Nat} (h : FS w (.slice a n cap) ws) : a = none → cap = 0 := by
  obtain ⟨_, a', cap', e, h0, _⟩ := h
  cases e; exact h0
theorem FS.open {w : World} {v : Value} {ws : List Nat} (h : FS w v ws) (hn : 0 < ws.length) :
    ∃ blk o cap, v = .slice (some ⟨blk, o, none⟩) ws.length cap ∧ blk < w.heap.size ∧
      ∀ i, i < ws.length → ∃ b, w.cell? ⟨blk, o + i, none⟩ = some (.float .f64 b) ∧ IsF b (ws.getD i 0) := by
  obtain ⟨a, cap, rfl⟩ := h.shape
  obtain ⟨blk, o, rfl, h1, h2⟩ := h.at.2 hn
  exact ⟨blk, o, cap, rfl, h1, h2⟩
theorem FS.same {w w' : World} {v : Value} {ws : List Nat} (h : FS w v ws) (hs : ∀ a : Addr, a.block < w.heap.size → w'.cell? a = w.cell? a) : FS w' v ws := by
  obtain ⟨hl, a, cap, hv, h0, hc⟩ := h
  refine ⟨hl, a, cap, hv, h0, fun i hi => ?_⟩
  obtain ⟨blk, o, b, he, h1, h2⟩ := hc i hi
  exact ⟨blk, o, b, he, by rw [hs _ (World.block_lt_of_cell? w _ h1)]; exact h1, h2⟩
theorem FS.below {w w' : World} {v : Value} {ws : List Nat} (h : FS w v ws) (hb : Below w.heap.size w w') : FS w' v ws :=
  h.same fun _ ha => hb.cell ha
theorem FS.alloc {w : World} {v : Value} {ws : List Nat} (h : FS w v ws) (o : Obj) : FS (w.alloc o) v ws :=
  h.below ((Below.refl _ _).alloc (Nat.le_refl _) o)
theorem FS.drewN {w : World} {v : Value} {ws : List Nat} (h : FS w v ws) (n : Nat) : FS (w.drewN n) v ws :=
  h.same fun _ _ => rfl
theorem FS.drew {w : World} {v : Value} {ws : List Nat} (h : FS w v ws) : FS w.drew v ws :=
  h.same fun _ _ => rfl
theorem FS.ext {w : World} {v : Value} {ws : List Nat} (h : FS w v ws) (o : Array Obj) (n : Nat) : FS (ext w o n) v ws := h.below below_ext
theorem FS.grew {w w' : World} {v : Value} {ws : List Nat} (h : FS w v ws) (g : Grew w w') : FS w' v ws := h.below g.below
theorem FS.nil (w : World) : FS w (.slice none 0 0) [] := ⟨by simp, none, 0, rfl, fun _ => rfl, fun i hi => by simp at hi⟩

/-- A block of numbers written out. -/
theorem FS.lit {w : World} {t : TypeId} (l : List Nat) (hl : l.length ≤ 9223372036854775807) (h : ∀ x ∈ l, IsF x x) (cap n : Nat) (hn : n = w.heap.size) :
    FS (w.alloc (.cells (l.map (Value.float .f64)).toArray t)) (.slice (some ⟨n, 0, none⟩) l.length cap) l := by
  subst hn
  refine ⟨hl, _, cap, rfl, (fun h => by cases h), fun i hi => ⟨_, _, l.getD i 0, rfl, ?_, ?_⟩⟩
  · rw [World.cell?_alloc_new]
    simp [List.getD_eq_getElem?_getD, hi]
  · rw [List.getD_eq_getElem?_getD, List.getElem?_eq_getElem hi]
    exact h _ (List.getElem_mem hi)
/-- A vector (api.Vec). -/
structure VecM where
  ws : List Nat
  off : Int
  n : Int
  inc : Int
def VecM.agg (m : VecM) (D : Value) : Value := .agg #[D, .int .i64 m.off, .int .i64 m.n, .int .i64 m.inc]
def VecM.wf (m : VecM) : Prop := I64 m.off ∧ I64 m.n ∧ I64 m.inc
def fitsB (size off steps step more : Int) : Bool := decide (0 ≤ off ∧ off + steps * step + more < size)
def VecM.right (m : VecM) : Bool := decide (0 ≤ m.n ∧ 1 ≤ m.inc ∧ 0 ≤ m.off) && (decide (m.n = 0) || fitsB m.ws.length m.off (m.n - 1) m.inc 0)
def VecM.place (m : VecM) (i : Nat) : Nat := (m.off + i * m.inc).toNat
def VecM.num (m : VecM) (i : Nat) : Nat := m.ws.getD (m.place i) 0
def VecM.list (m : VecM) : List Nat := (List.range m.n.toNat).map m.num

theorem VecM.right_n {m : VecM} (h : m.right = true) : 0 ≤ m.n ∧ 1 ≤ m.inc ∧ 0 ≤ m.off := by
  simp [VecM.right] at h; omega
/-- A right vector's places lie in its list. -/
theorem VecM.right_place {m : VecM} (h : m.right = true) {i : Nat} (hi : (i : Int) < m.n) :
    0 ≤ m.off + i * m.inc ∧ m.off + i * m.inc < m.ws.length ∧ 0 ≤ (i : Int) * m.inc := by
  have h0 := VecM.right_n h
  simp [VecM.right, fitsB] at h
  have h1 : m.off + (m.n - 1) * m.inc < m.ws.length := by
    rcases h.2 with h2 | h2 <;> omega
  have h2 : (i : Int) * m.inc ≤ (m.n - 1) * m.inc := Int.mul_le_mul_of_nonneg_right (by omega) (by omega)
  have h3 : 0 ≤ (i : Int) * m.inc := Int.mul_nonneg (by omega) (by omega)
  omega

/-- A matrix (api.Mat). -/
structure MatM where
  ws : List Nat
  off : Int
  rows : Int
  cols : Int
  ld : Int
def MatM.agg (m : MatM) (D : Value) : Value := .agg #[D, .int .i64 m.off, .int .i64 m.rows, .int .i64 m.cols, .int .i64 m.ld]
def MatM.wf (m : MatM) : Prop := I64 m.off ∧ I64 m.rows ∧ I64 m.cols ∧ I64 m.ld
def MatM.good (m : MatM) : Bool := decide (0 ≤ m.rows ∧ 0 ≤ m.cols ∧ 0 ≤ m.off ∧ 1 ≤ m.ld ∧ m.rows ≤ m.ld) &&
  (decide (m.rows = 0) || decide (m.cols = 0) || fitsB m.ws.length m.off (m.cols - 1) m.ld (m.rows - 1))

end Sedge
end
section
/-
  A region that draws its order, walked in one order of our own: what is the same in every world of a class is taken first; what acts comes up alone.
-/
set_option linter.unusedSimpArgs false
set_option linter.unusedVariables false
namespace Sedge
open Go Go.RowKit

section
variable {P : Program} {ops : Array Oper} {Q : Exit → Act → World → Prop} {md : Region.Mode} {S : World → Prop} {tail : Nat → Bool}

/-- Whatever order is picked from here on; behind all that is not of the tail, S holds. -/
def AnyT (P : Program) (md : Region.Mode) (ops : Array Oper) (Q : Exit → Act → World → Prop) (S : World → Prop) (tail : Nat → Bool) : Nat → Array Bool → Act → World → Prop
  | 0, listed, a, w => Region.ready md ops listed = [] ∧ Q .normal a w
  | fuel + 1, listed, a, w =>
    (Region.ready md ops listed = [] → Q .normal a w) ∧
    ∀ i ∈ Region.ready md ops listed, wpOp P ops Q i (fun a' w' => (tail i = false → S w → S w') ∧ AnyT P md ops Q S tail fuel (listed.setIfInBounds i true) a' w') a w

theorem any_of_anyT : ∀ (fuel : Nat) (listed : Array Bool) (a : Act) (w : World), AnyT P md ops Q S tail fuel listed a w → wpAny P md ops Q fuel listed a w
  | 0, _, _, _, h => h
  | fuel + 1, _, _, _, h => ⟨h.1, fun i hi => wpOp_mono (fun a' w' h' => any_of_anyT fuel _ a' w' h'.2) (h.2 i hi)⟩

/-- What is the same in every world of the class may come first, where the tail waits for it. -/
theorem anyT_first {i : Nat} {oi : Oper} {v : Value} (hi : ops[i]? = some oi) (hsel : Region.noSelect ops = true)
    (hQ : ∀ c a d v w, Q (.panic c) (Act.put a d v) w → Q (.panic c) a w) (hti : tail i = false)
    (htl : ∀ j oj, ops[j]? = some oj → tail j = true → ∃ e ∈ oj.after, Region.binds md e = true ∧ e.on = i) :
    ∀ (fuel : Nat) (listed : Array Bool) (a : Act) (w : World),
      (∀ j oj, ops[j]? = some oj → j ≠ i → listed.getD j true = false → (∀ e ∈ oj.after, Region.binds md e = true → e.on ≠ i) → oi.apart ops oj = true) →
      i ∈ Region.ready md ops listed → YieldsIf P ops S oi v a → S w →
      AnyT P md ops Q S tail fuel (listed.setIfInBounds i true) (a.put oi.dst v) w → AnyT P md ops Q S tail (fuel + 1) listed a w := by
  intro fuel
  induction fuel with
  | zero =>
    intro listed a w _ hr hy hS H
    refine ⟨fun h => (by rw [h] at hr; cases hr), fun j hj => ?_⟩
    by_cases hji : j = i
    · subst hji; exact hy.wpOp hi hS ⟨fun _ h => h, H⟩
    · have := ready_mono hj hji
      rw [H.1] at this
      cases this
  | succ fuel ih =>
    intro listed a w hfree hr hy hS H
    refine ⟨fun h => (by rw [h] at hr; cases hr), fun j hj => ?_⟩
    by_cases hji : j = i
    · subst hji; exact hy.wpOp hi hS ⟨fun _ h => h, H⟩
    · have h1 := H.2 j (ready_mono hj hji)
      obtain ⟨hjun, oj, hoj, hall⟩ := mem_ready.1 hj
      have hnot : ∀ e ∈ oj.after, Region.binds md e = true → e.on ≠ i := fun e he hb heq => by
        have h1 := hall e he hb
        have h0 := (mem_ready.1 hr).1
        rw [heq] at h1
        rcases Nat.lt_or_ge i listed.size with h' | h'
        · simp [h'] at h0 h1; rw [h0] at h1; cases h1
        · simp [Array.getElem?_eq_none h'] at h1
      have htj : tail j = false := by
        cases hT : tail j
        · rfl
        · obtain ⟨e, he, hb, heq⟩ := htl j oj hoj hT
          exact absurd heq (hnot e he hb)
      have h2 := wpOp_putIf hoj (hfree j oj hoj hji hjun hnot) (fun cs b => Region.noSelect_spec hsel i oi cs b hi) (fun cs b => Region.noSelect_spec hsel j oj cs b hoj) (fun c a w => hQ c a _ _ w) hy h1
      have hfree' : ∀ k ok, ops[k]? = some ok → k ≠ i → (listed.setIfInBounds j true).getD k true = false →
          (∀ e ∈ ok.after, Region.binds md e = true → e.on ≠ i) → oi.apart ops ok = true := fun k ok hk hki hun hno => by
        refine hfree k ok hk hki ?_ hno
        by_cases hjk : j = k
        · subst hjk; exact hjun
        · rw [getD_set_ne true hjk] at hun; exact hun
      refine wpOp_mono (fun a' w' h3 => ?_) h2
      have hS' : S w' := h3.2.1 htj hS
      refine ⟨fun _ _ => hS', ih (listed.setIfInBounds j true) a' w' hfree' (ready_mono hr (Ne.symm hji)) h3.1 hS' ?_⟩
      rw [Array.setIfInBounds_comm _ _ hji]
      exact h3.2.2

/-- What is the same in every world may come first. -/
theorem anyT_pure {i : Nat} {oi : Oper} {v : Value} (hi : ops[i]? = some oi) (hsel : Region.noSelect ops = true)
    (hQ : ∀ c a d v w, Q (.panic c) (Act.put a d v) w → Q (.panic c) a w) :
    ∀ (fuel : Nat) (listed : Array Bool) (a : Act) (w : World),
      (∀ j oj, ops[j]? = some oj → j ≠ i → listed.getD j true = false → (∀ e ∈ oj.after, Region.binds md e = true → e.on ≠ i) → oi.apart ops oj = true) →
      i ∈ Region.ready md ops listed → YieldsIf P ops (fun _ => True) oi v a →
      AnyT P md ops Q S tail fuel (listed.setIfInBounds i true) (a.put oi.dst v) w → AnyT P md ops Q S tail (fuel + 1) listed a w := by
  intro fuel
  induction fuel with
  | zero =>
    intro listed a w _ hr hy H
    refine ⟨fun h => (by rw [h] at hr; cases hr), fun j hj => ?_⟩
    by_cases hji : j = i
    · subst hji; exact hy.wpOp hi trivial ⟨fun _ h => h, H⟩
    · have := ready_mono hj hji
      rw [H.1] at this
      cases this
  | succ fuel ih =>
    intro listed a w hfree hr hy H
    refine ⟨fun h => (by rw [h] at hr; cases hr), fun j hj => ?_⟩
    by_cases hji : j = i
    · subst hji; exact hy.wpOp hi trivial ⟨fun _ h => h, H⟩
    · have h1 := H.2 j (ready_mono hj hji)
      obtain ⟨hjun, oj, hoj, hall⟩ := mem_ready.1 hj
      have hnot : ∀ e ∈ oj.after, Region.binds md e = true → e.on ≠ i := fun e he hb heq => by
        have h1 := hall e he hb
        have h0 := (mem_ready.1 hr).1
        rw [heq] at h1
        rcases Nat.lt_or_ge i listed.size with h' | h'
        · simp [h'] at h0 h1; rw [h0] at h1; cases h1
        · simp [Array.getElem?_eq_none h'] at h1
      have h2 := wpOp_putIf hoj (hfree j oj hoj hji hjun hnot) (fun cs b => Region.noSelect_spec hsel i oi cs b hi) (fun cs b => Region.noSelect_spec hsel j oj cs b hoj) (fun c a w => hQ c a _ _ w) hy h1
      have hfree' : ∀ k ok, ops[k]? = some ok → k ≠ i → (listed.setIfInBounds j true).getD k true = false →
          (∀ e ∈ ok.after, Region.binds md e = true → e.on ≠ i) → oi.apart ops ok = true := fun k ok hk hki hun hno => by
        refine hfree k ok hk hki ?_ hno
        by_cases hjk : j = k
        · subst hjk; exact hjun
        · rw [getD_set_ne true hjk] at hun; exact hun
      refine wpOp_mono (fun a' w' h3 => ?_) h2
      refine ⟨h3.2.1, ih (listed.setIfInBounds j true) a' w' hfree' (ready_mono hr (Ne.symm hji)) h3.1 ?_⟩
      rw [Array.setIfInBounds_comm _ _ hji]
      exact h3.2.2

/-- One order: kinds 0 (the same in every world of the class), 1 (it acts; the class holds behind it), 2 (the tail). -/
def wpR (P : Program) (ops : Array Oper) (Q : Exit → Act → World → Prop) (S : World → Prop) : List (Nat × Nat) → Act → World → Prop
  | [], a, w => Q .normal a w
  | (k, i) :: r, a, w =>
    match ops[i]? with
    | none => False
    | some o =>
      if Region.wanted o (yielded ops a.tmps) = true then
        match k with
        | 0 => ∃ v, (∀ w', S w' → (execOp a.eval o).run P w' = .ok (.value v) w') ∧ wpR P ops Q S r (a.put o.dst v) w
        | 1 => o.wp P a w (fun a' w' => S w' ∧ wpR P ops Q S r a' w') Q ∨ (o.asks P a w ∧ LetsOut Q)
        | 3 => ∃ v, (∀ w', (execOp a.eval o).run P w' = .ok (.value v) w') ∧ wpR P ops Q S r (a.put o.dst v) w
        | _ => o.wp P a w (wpR P ops Q S r) Q ∨ (o.asks P a w ∧ LetsOut Q)
      else wpR P ops Q S r (a.put o.dst undef) w

def tailOf (l : List (Nat × Nat)) (i : Nat) : Bool := l.any fun x => x.1 == 2 && x.2 == i

/-- Does number j wait for number i? -/
def waits (ops : Array Oper) (j i : Nat) : Bool := match ops[j]? with
  | some oj => oj.after.any fun e => Region.binds .any e && e.on == i
  | none => false

def okR (ops : Array Oper) (tails : List Nat) : List (Nat × Nat) → Array Bool → Bool
  | [], listed => (Region.ready .any ops listed).isEmpty
  | (k, i) :: r, listed =>
    (match k with
      | 0 => (Region.ready .any ops listed).contains i && Region.free .any ops listed i && tails.all (waits ops · i) && !tails.contains i
      | 1 => Region.ready .any ops listed == [i] && !tails.contains i
      | 2 => Region.ready .any ops listed == [i] && tails.contains i && r.all (fun x => x.1 == 2 || x.1 == 3)
      | 3 => (Region.ready .any ops listed).contains i && Region.free .any ops listed i
      | _ => false) && okR ops tails r (listed.setIfInBounds i true)

theorem anyT_of_wpR {tails : List Nat} (hsel : Region.noSelect ops = true) (hQ : ∀ c a d v w, Q (.panic c) (Act.put a d v) w → Q (.panic c) a w) :
    ∀ (l : List (Nat × Nat)) (listed : Array Bool) (a : Act) (w : World), okR ops tails l listed = true → ((∃ x ∈ l, x.1 ≤ 1) → S w) → wpR P ops Q S l a w →
      AnyT P .any ops Q S (fun i => tails.contains i) l.length listed a w
  | [], listed, a, w, hok, _, h => ⟨by simpa [okR] using hok, h⟩
  | (k, i) :: r, listed, a, w, hok, hS, h => by
    simp only [okR, Bool.and_eq_true] at hok
    obtain ⟨hk, hr⟩ := hok
    unfold wpR at h
    cases ho : ops[i]? with
    | none => rw [ho] at h; exact h.elim
    | some o =>
      rw [ho] at h
      simp only at h
      match k, hk, h with
      | 0, hk, h =>
        simp only [Bool.and_eq_true, List.all_eq_true, Bool.not_eq_true'] at hk
        obtain ⟨⟨⟨h1, h2⟩, h3⟩, h4⟩ := hk
        have hSw : S w := hS ⟨_, List.mem_cons_self, by simp⟩
        have htl : ∀ j oj, ops[j]? = some oj → tails.contains j = true → ∃ e ∈ oj.after, Region.binds .any e = true ∧ e.on = i := fun j oj hj ht => by
          have := h3 j (by simpa using ht)
          unfold waits at this
          rw [hj] at this
          simp only [Array.any_eq_true] at this
          obtain ⟨n, hn, he⟩ := this
          simp only [Bool.and_eq_true, beq_iff_eq] at he
          exact ⟨oj.after[n], Array.getElem_mem hn, he.1, he.2⟩
        by_cases hw : Region.wanted o (yielded ops a.tmps) = true
        · rw [if_pos hw] at h
          obtain ⟨v, hv, hn⟩ := h
          exact anyT_first (tail := fun i => tails.contains i) ho hsel hQ h4 htl r.length listed a w (Region.free_spec ho h2) (by simpa using h1) (.inl ⟨hw, hv⟩) hSw
            (anyT_of_wpR hsel hQ r _ _ _ hr (fun ⟨x, hx, hx1⟩ => hS ⟨x, List.mem_cons_of_mem _ hx, hx1⟩) hn)
        · rw [if_neg hw] at h
          exact anyT_first (tail := fun i => tails.contains i) ho hsel hQ h4 htl r.length listed a w (Region.free_spec ho h2) (by simpa using h1) (.inr ⟨by simpa using hw, rfl⟩) hSw
            (anyT_of_wpR hsel hQ r _ _ _ hr (fun ⟨x, hx, hx1⟩ => hS ⟨x, List.mem_cons_of_mem _ hx, hx1⟩) h)
      | 1, hk, h =>
        simp only [Bool.and_eq_true, beq_iff_eq, Bool.not_eq_true'] at hk
        obtain ⟨h1, h4⟩ := hk
        show AnyT P .any ops Q S _ (r.length + 1) listed a w
        refine ⟨fun h0 => (by rw [h1] at h0; cases h0), fun j hj => ?_⟩
        rw [h1] at hj
        have hji : j = i := by simpa using hj
        subst hji
        unfold wpOp
        rw [ho]
        simp only
        by_cases hw : Region.wanted o (yielded ops a.tmps) = true
        · rw [if_pos hw] at h ⊢
          exact h.imp (Oper.wp_mono fun a' w' h' => ⟨fun _ _ => h'.1, anyT_of_wpR hsel hQ r _ _ _ hr (fun _ => h'.1) h'.2⟩) id
        · rw [if_neg hw] at h ⊢
          have hSw : S w := hS ⟨_, List.mem_cons_self, by simp⟩
          exact ⟨fun _ _ => hSw, anyT_of_wpR hsel hQ r _ _ _ hr (fun _ => hSw) h⟩
      | 2, hk, h =>
        simp only [Bool.and_eq_true, beq_iff_eq, List.all_eq_true] at hk
        obtain ⟨⟨h1, h4⟩, h5⟩ := hk
        have hno : ∀ w', (∃ x ∈ r, x.1 ≤ 1) → S w' := fun w' ⟨x, hx, hx1⟩ => by have := h5 x hx; simp at this; omega
        show AnyT P .any ops Q S _ (r.length + 1) listed a w
        refine ⟨fun h0 => (by rw [h1] at h0; cases h0), fun j hj => ?_⟩
        rw [h1] at hj
        have hji : j = i := by simpa using hj
        subst hji
        unfold wpOp
        rw [ho]
        simp only
        by_cases hw : Region.wanted o (yielded ops a.tmps) = true
        · rw [if_pos hw] at h ⊢
          exact h.imp (Oper.wp_mono fun a' w' h' => ⟨fun hf => (by rw [h4] at hf; cases hf), anyT_of_wpR hsel hQ r _ _ _ hr (hno w') h'⟩) id
        · rw [if_neg hw] at h ⊢
          exact ⟨fun hf => (by rw [h4] at hf; cases hf), anyT_of_wpR hsel hQ r _ _ _ hr (hno w) h⟩
      | 3, hk, h =>
        simp only [Bool.and_eq_true] at hk
        obtain ⟨h1, h2⟩ := hk
        by_cases hw : Region.wanted o (yielded ops a.tmps) = true
        · rw [if_pos hw] at h
          obtain ⟨v, hv, hn⟩ := h
          exact anyT_pure (tail := fun i => tails.contains i) ho hsel hQ r.length listed a w (Region.free_spec ho h2) (by simpa using h1) (.inl ⟨hw, fun w' _ => hv w'⟩)
            (anyT_of_wpR hsel hQ r _ _ _ hr (fun ⟨x, hx, hx1⟩ => hS ⟨x, List.mem_cons_of_mem _ hx, hx1⟩) hn)
        · rw [if_neg hw] at h
          exact anyT_pure (tail := fun i => tails.contains i) ho hsel hQ r.length listed a w (Region.free_spec ho h2) (by simpa using h1) (.inr ⟨by simpa using hw, rfl⟩)
            (anyT_of_wpR hsel hQ r _ _ _ hr (fun ⟨x, hx, hx1⟩ => hS ⟨x, List.mem_cons_of_mem _ hx, hx1⟩) h)
      | _ + 4, hk, _ => simp at hk

/-- THE BEGINNING: our order passes the look; the class holds behind the draw. -/
theorem wp_region_R {id : Nat} {a : Act} {w : World} {l : List Oper} (S : World → Prop) (tails : List Nat) (order : List (Nat × Nat)) (hm : P.follows .mixedOrders = true)
    (hB : (Region.noSelect l.toArray && okR l.toArray tails order (Array.replicate l.length false) && order.length == l.length) = true)
    (hQ : ∀ c t df w, Q (.panic c) ⟨t, df⟩ w → ∀ t', Q (.panic c) ⟨t', df⟩ w) (hS : S w.drew)
    (h : wpR P l.toArray Q S order a w.drew) : (Code.region id l.toArray true).wp P Q a w := by
  simp only [Bool.and_eq_true, beq_iff_eq] at hB
  refine wp_region_any hm (any_of_anyT (S := S) (tail := fun i => tails.contains i) _ _ _ _ ?_)
  have hQ' : ∀ c a d v w, Q (.panic c) (Act.put a d v) w → Q (.panic c) a w := fun c a d v w h => by
    cases d with
    | none => exact h
    | some d => exact hQ c _ _ w h _
  have := anyT_of_wpR (P := P) (Q := Q) (S := S) hB.1.1 hQ' order (Array.replicate l.length false) a w.drew hB.1.2 (fun _ => hS) h
  rw [hB.2] at this
  simpa using this

/-! The steps. (The operation is looked up by a plain recursion, so that it comes out written out.) -/
def nth {α : Type} : List α → Nat → Option α
  | [], _ => none
  | x :: _, 0 => some x
  | _ :: l, n + 1 => nth l n
theorem nth_eq {α : Type} : ∀ (l : List α) (i : Nat), nth l i = l.toArray[i]?
  | [], _ => by simp [nth]
  | x :: l, 0 => by simp [nth]
  | x :: l, n + 1 => by have := nth_eq l n; simp [nth] at this ⊢; exact this
variable {l : List Oper}
theorem wpR_id {r : List (Nat × Nat)} {a : Act} {w : World} (h : wpR P ops Q S r a w) : wpR P ops Q S r a w := h
theorem wpR_nil {a : Act} {w : World} (h : Q .normal a w) : wpR P ops Q S [] a w := h
def boolOf : Value → Option Bool
  | .bool b => some b
  | _ => none
theorem wanted_none {o : Oper} {y : Nat → Option Bool} (hg : o.guard = none) : Region.wanted o y = true := by
  unfold Region.wanted; rw [hg]
theorem wanted_some {o oj : Oper} {a : Act} {j d : Nat} {want : Bool} {v : Value} (hg : o.guard = some (j, want)) (hj : nth l j = some oj) (hd : oj.dst = some d)
    (hv : nth a.tmps.toList d = some v) : Region.wanted o (yielded l.toArray a.tmps) = (boolOf v == some want) := by
  unfold Region.wanted yielded
  rw [hg]
  simp only
  rw [nth_eq] at hj hv
  rw [hj]
  simp only [Option.bind_some, hd]
  simp only [Array.toArray_toList] at hv
  rw [hv]
  unfold boolOf
  cases v <;> rfl
/-- The same in every world of the class. -/
theorem wpR_take {i : Nat} {o : Oper} {r : List (Nat × Nat)} {a : Act} {w : World} {v : Value} (ho : nth l i = some o) (hg : o.guard = none)
    (hv : ∀ w', S w' → (execOp a.eval o).run P w' = .ok (.value v) w')
    (h : wpR P l.toArray Q S r (a.put o.dst v) w) : wpR P l.toArray Q S ((0, i) :: r) a w := by
  have hw := wanted_none (y := yielded l.toArray a.tmps) hg
  unfold wpR; rw [← nth_eq, ho]; simp only [hw, if_true]; exact ⟨v, hv, h⟩
theorem wpR_pure {i : Nat} {o : Oper} {r : List (Nat × Nat)} {a : Act} {w : World} {v : Value} (ho : nth l i = some o) (hg : o.guard = none)
    (hv : ∀ w', (execOp a.eval o).run P w' = .ok (.value v) w')
    (h : wpR P l.toArray Q S r (a.put o.dst v) w) : wpR P l.toArray Q S ((3, i) :: r) a w := by
  have hw := wanted_none (y := yielded l.toArray a.tmps) hg
  unfold wpR; rw [← nth_eq, ho]; simp only [hw, if_true]; exact ⟨v, hv, h⟩
theorem wpR_takeG {i j d : Nat} {want : Bool} {o oj : Oper} {r : List (Nat × Nat)} {a : Act} {w : World} {v : Value} (ho : nth l i = some o) (hg : o.guard = some (j, want))
    (hj : nth l j = some oj) (hd : oj.dst = some d) (hb : nth a.tmps.toList d = some (.bool want))
    (hv : ∀ w', S w' → (execOp a.eval o).run P w' = .ok (.value v) w')
    (h : wpR P l.toArray Q S r (a.put o.dst v) w) : wpR P l.toArray Q S ((0, i) :: r) a w := by
  have hw : Region.wanted o (yielded l.toArray a.tmps) = true := by rw [wanted_some hg hj hd hb]; simp [boolOf]
  unfold wpR; rw [← nth_eq, ho]; simp only [hw, if_true]; exact ⟨v, hv, h⟩
theorem wpR_skip {k i j d : Nat} {want b : Bool} {o oj : Oper} {r : List (Nat × Nat)} {a : Act} {w : World} (ho : nth l i = some o) (hg : o.guard = some (j, want))
    (hj : nth l j = some oj) (hd : oj.dst = some d) (hb : nth a.tmps.toList d = some (.bool b)) (hne : b = !want)
    (h : wpR P l.toArray Q S r (a.put o.dst undef) w) : wpR P l.toArray Q S ((k, i) :: r) a w := by
  have hw : Region.wanted o (yielded l.toArray a.tmps) = false := by subst hne; rw [wanted_some hg hj hd hb]; cases want <;> rfl
  unfold wpR; rw [← nth_eq, ho]; simp only [hw, Bool.false_eq_true, if_false]; exact h
theorem wpR_skipU {k i j d : Nat} {want : Bool} {o oj : Oper} {r : List (Nat × Nat)} {a : Act} {w : World} (ho : nth l i = some o) (hg : o.guard = some (j, want))
    (hj : nth l j = some oj) (hd : oj.dst = some d) (hb : nth a.tmps.toList d = some undef)
    (h : wpR P l.toArray Q S r (a.put o.dst undef) w) : wpR P l.toArray Q S ((k, i) :: r) a w := by
  have hw : Region.wanted o (yielded l.toArray a.tmps) = false := by rw [wanted_some hg hj hd hb]; rfl
  unfold wpR; rw [← nth_eq, ho]; simp only [hw, Bool.false_eq_true, if_false]; exact h
theorem wpR_do {i : Nat} {o : Oper} {r : List (Nat × Nat)} {a : Act} {w : World} (ho : nth l i = some o) (hg : o.guard = none)
    (h : ∀ K : Act → World → Prop, (∀ a w, S w ∧ wpR P l.toArray Q S r a w → K a w) → o.wp P a w K Q) : wpR P l.toArray Q S ((1, i) :: r) a w := by
  have hw := wanted_none (y := yielded l.toArray a.tmps) hg
  unfold wpR; rw [← nth_eq, ho]; simp only [hw, if_true]; exact .inl (h _ fun _ _ h => h)
theorem wpR_doG {i j d : Nat} {want : Bool} {o oj : Oper} {r : List (Nat × Nat)} {a : Act} {w : World} (ho : nth l i = some o) (hg : o.guard = some (j, want))
    (hj : nth l j = some oj) (hd : oj.dst = some d) (hb : nth a.tmps.toList d = some (.bool want))
    (h : ∀ K : Act → World → Prop, (∀ a w, S w ∧ wpR P l.toArray Q S r a w → K a w) → o.wp P a w K Q) : wpR P l.toArray Q S ((1, i) :: r) a w := by
  have hw : Region.wanted o (yielded l.toArray a.tmps) = true := by rw [wanted_some hg hj hd hb]; simp [boolOf]
  unfold wpR; rw [← nth_eq, ho]; simp only [hw, if_true]; exact .inl (h _ fun _ _ h => h)
theorem wpR_last {i : Nat} {o : Oper} {r : List (Nat × Nat)} {a : Act} {w : World} (ho : nth l i = some o) (hg : o.guard = none)
    (h : ∀ K : Act → World → Prop, (∀ a w, wpR P l.toArray Q S r a w → K a w) → o.wp P a w K Q) : wpR P l.toArray Q S ((2, i) :: r) a w := by
  have hw := wanted_none (y := yielded l.toArray a.tmps) hg
  unfold wpR; rw [← nth_eq, ho]; simp only [hw, if_true]; exact .inl (h _ fun _ _ h => h)
theorem wpR_go {r : List (Nat × Nat)} {a : Act} {w : World} (hS : S w) (h : wpR P ops Q S r a w) : S w ∧ wpR P ops Q S r a w := ⟨hS, h⟩

attribute [irreducible] wpR

end
end Sedge
end
section
/-
  Contracts: a float by its bits (layer 1's reference), math.Abs; lists that are the same; copies.
-/
set_option linter.unusedSimpArgs false
set_option linter.unusedVariables false
open Go Go.RowKit Sedge
namespace Go.Proofs.Ytcmggfpcbijcjaa
@[go_sem] theorem run_bits (b : Nat) (w : World) : Sem.run Try.prog (callFunc 129 #[.float .f64 b]) w = .ok (.value (.int .u64 b)) w := by kernel_rfl
@[go_sem] theorem run_frombits (n : Int) (w : World) : Sem.run Try.prog (callFunc 185 #[.int .u64 n]) w = .ok (.value (.float .f64 n.toNat)) w := by kernel_rfl
theorem ret_int {k : IntKind} {a b : Int} (h : a = b) : Ending.returned (.int k a) = .returned (.int k b) := by rw [h]
theorem ret_bool {a b : Bool} (h : a = b) : Ending.returned (.bool a) = .returned (.bool b) := by rw [h]

theorem andNot_top (b : Nat) (hb : b < 18446744073709551616) : (bits BinOp.andNot IntKind.u64 (b : Int) 9223372036854775808).toNat = b % SW := by
  have := u64_andNot_nat b 9223372036854775808 hb (by decide)
  rw [show ((9223372036854775808 : Int)) = ((9223372036854775808 : Nat) : Int) from rfl, this, Int.toNat_natCast]
  have e := Nat.and_two_pow_sub_one_eq_mod b 63
  show b &&& 9223372036854775807 = b % SW
  exact e
set_option maxRecDepth 100000 in
theorem mabs_bits (b : Nat) (w : World) (hb : b < 18446744073709551616) :
   Calls Try.prog 164 #[.float .f64 b] w (fun e w' => e = .returned (.float .f64 (b % SW)) ∧ w = w') := by
  have h := andNot_top b hb
  go_enter Try.func164, Try.ntmps164
  go_wp2
  go_ret
  exact ⟨rfl, rfl⟩
theorem mabs_any (b x : Nat) (w : World) (h : IsF b x) :
   Calls Try.prog 164 #[.float .f64 b] w (fun e w' => ∃ r, e = .returned (.float .f64 r) ∧ IsF r (fabs x) ∧ w = w') :=
  (mabs_bits b w h.1).mono fun _ _ ⟨he, hw⟩ => ⟨_, he, h.abs, hw⟩

theorem parts_inf (b : Nat) (h1 : (b : Int) / 4503599627370496 % 2048 = 2047) (h2 : ((b : Int) % 4503599627370496 == 0) = true) : pMag b = 0 ∧ pExp b = 0 ∧ pKind b = 1 := by
  have e1 : expo b = 2047 := by unfold expo BN; omega
  have e2 : frac b = 0 := by have : (b : Int) % 4503599627370496 = 0 := by simpa using h2
                             unfold frac BN; omega
  simp [pMag, pExp, pKind, e1, e2]
theorem parts_nan (b : Nat) (h1 : (b : Int) / 4503599627370496 % 2048 = 2047) (h2 : ((b : Int) % 4503599627370496 == 0) = false) : pMag b = 0 ∧ pExp b = 0 ∧ pKind b = 2 := by
  have e1 : expo b = 2047 := by unfold expo BN; omega
  have e2 : frac b ≠ 0 := by have : ¬ (b : Int) % 4503599627370496 = 0 := by simpa using h2
                             unfold frac BN; omega
  simp [pMag, pExp, pKind, e1, e2]
theorem parts_sub (b : Nat) (h2 : ((b : Int) / 4503599627370496 % 2048 == 0) = true) : (pMag b : Int) = (b : Int) % 4503599627370496 ∧ pExp b = -1074 ∧ pKind b = 0 := by
  have e1 : expo b = 0 := by have : (b : Int) / 4503599627370496 % 2048 = 0 := by simpa using h2
                             unfold expo BN; omega
  simp [pMag, pExp, pKind, e1, frac, BN]
theorem parts_nor (b : Nat) (h1 : ¬ (b : Int) / 4503599627370496 % 2048 = 2047) (h2 : ((b : Int) / 4503599627370496 % 2048 == 0) = false) :
    (pMag b : Int) = (b : Int) % 4503599627370496 + 4503599627370496 ∧ pExp b = (b : Int) / 4503599627370496 % 2048 - 1075 ∧ pKind b = 0 := by
  have e1 : expo b ≠ 0 := by have : ¬ (b : Int) / 4503599627370496 % 2048 = 0 := by simpa using h2
                             unfold expo BN; omega
  have e2 : expo b ≠ 2047 := by unfold expo BN; omega
  have m1 : pMag b = frac b + BN := by simp [pMag, e1, e2]
  have m2 : pExp b = (expo b : Int) - 1075 := by simp [pExp, e1, e2]
  have m3 : pKind b = 0 := by simp [pKind, e2]
  rw [m1, m2, m3]
  refine ⟨?_, ?_, rfl⟩
  · unfold frac BN; omega
  · unfold expo BN; omega
theorem parts_neg (b : Nat) : ((b : Int) / 9223372036854775808 == 1) = pNeg b := by
  unfold pNeg SW
  rw [Bool.eq_iff_iff]
  simp only [beq_iff_eq, decide_eq_true_eq]; omega

abbrev partsV (b : Nat) : Value := .tuple #[.bool (pNeg b), .int .u64 (pMag b), .int .i64 (pExp b), .int .i64 (pKind b)]
set_option maxRecDepth 100000 in
set_option maxHeartbeats 400000 in
theorem parts_any (b : Nat) (w : World) (hb : b < 18446744073709551616) :
   Calls Try.prog 116 #[.float .f64 b] w (fun e w' => e = .returned (.tuple #[.bool (pNeg b), .int .u64 (pMag b), .int .i64 (pExp b), .int .i64 (pKind b)]) ∧ w = w') := by
  go_enter Try.func116, Try.ntmps116
  go_wp2
  · have h1 : (b : Int) / 4503599627370496 % 2048 = 2047 := by assumption
    have h2 : ((b : Int) % 4503599627370496 == 0) = true := by assumption
    obtain ⟨p1, p2, p3⟩ := parts_inf b h1 h2
    exact bodyPost_ret (v := partsV b) (by simp [results, Try.results116, go_sem, partsV, parts_neg, p1, p2, p3]) rfl ⟨rfl, rfl⟩
  · have h1 : (b : Int) / 4503599627370496 % 2048 = 2047 := by assumption
    have h2 : ((b : Int) % 4503599627370496 == 0) = false := by assumption
    obtain ⟨p1, p2, p3⟩ := parts_nan b h1 h2
    exact bodyPost_ret (v := partsV b) (by simp [results, Try.results116, go_sem, partsV, parts_neg, p1, p2, p3]) rfl ⟨rfl, rfl⟩
  · have h2 : ((b : Int) / 4503599627370496 % 2048 == 0) = true := by assumption
    obtain ⟨p1, p2, p3⟩ := parts_sub b h2
    exact bodyPost_ret (v := partsV b) (by simp [results, Try.results116, go_sem, partsV, parts_neg, p1, p2, p3]) rfl ⟨rfl, rfl⟩
  · have h1 : ¬ (b : Int) / 4503599627370496 % 2048 = 2047 := by assumption
    have h2 : ((b : Int) / 4503599627370496 % 2048 == 0) = false := by assumption
    obtain ⟨p1, p2, p3⟩ := parts_nor b h1 h2
    exact bodyPost_ret (v := partsV b) (by simp [results, Try.results116, go_sem, partsV, parts_neg, p1, p2, p3]) rfl ⟨rfl, rfl⟩

/-- Are all finite? -/
def finL (l : List Nat) : Bool := l.all finB
theorem finL_take (l : List Nat) (k : Nat) (h : k < l.length) : finL (l.take (k + 1)) = (finL (l.take k) && finB (l.getD k 0)) := by
  unfold finL
  rw [List.take_succ_eq_append_getElem h, List.all_append]
  simp [List.getD_eq_getElem?_getD, h]
set_option maxRecDepth 100000 in
set_option maxHeartbeats 1000000 in
theorem finite_any (D : Value) (ws : List Nat) (w : World) (hD : FS w D ws) :
   Calls Try.prog 25 #[D] w (fun e w' => e = .returned (.bool (finL ws)) ∧ w = w') := by
  obtain ⟨a, cap, rfl⟩ := hD.shape
  have hl := hD.len
  have HD := hD.at.2
  clear hD
  have hl' : (ws.length : Int) ≤ 9223372036854775807 := by omega
  go_enter Try.func25, Try.ntmps25
  go_wp2
  go_loop [3] (fun c => ∃ k : Nat, k ≤ ws.length ∧ c = .int .i64 k ∧ finL (ws.take k) = true) (fun c => ws.length - (intOf c).toNat)
  case atStart => exact ⟨0, Nat.zero_le _, rfl, rfl⟩
  case round =>
    obtain ⟨k, hk, rfl, hf⟩ := hrel
    have Hf := hid hf
    clear hf
    by_cases hlt : k < ws.length
    · obtain ⟨blk, o, rfl, hblk, hc⟩ := HD (by omega)
      obtain ⟨b, hb, hx⟩ := hc k hlt
      clear hc
      have hb1 := hx.1
      have hkd := hx.kind
      have e0 := finL_take ws k hlt
      by_cases hf2 : pKind b = 0
      · have q : ((pKind b : Int) != 0) = false := by simp [hf2]
        have Hq := hid hf2
        have Hkd := hid hkd
        have He0 := hid e0
        clear hf2 hkd e0
        go_wp2_with (first | (go_at_call 116; ((with_reducible refine (parts_any _ _ hb1).mono ?_); rintro e w1 ⟨rfl, rfl⟩)))
        go_round
        case rel => exact ⟨k + 1, by omega, by go_num, by rw [He0.out, Hf.out, finB, ← Hkd.out, Hq.out]; rfl⟩
        case measure => simp [intOf]; omega
      · have q : ((pKind b : Int) != 0) = true := by simp [hf2]
        have Hq := hid hf2
        have Hkd := hid hkd
        have He0 := hid e0
        clear hf2 hkd e0
        go_wp2_with (first | (go_at_call 116; ((with_reducible refine (parts_any _ _ hb1).mono ?_); rintro e w1 ⟨rfl, rfl⟩)))
        go_ret
        refine ⟨ret_bool ?_, rfl⟩
        have : finB (ws.getD k 0) = false := by unfold finB; rw [← Hkd.out]; simpa using Hq.out
        unfold finL
        have hm : ws.getD k 0 ∈ ws := by rw [List.getD_eq_getElem?_getD, List.getElem?_eq_getElem hlt]; exact List.getElem_mem hlt
        symm
        rw [List.all_eq_false]
        exact ⟨_, hm, by simpa using this⟩
    · go_wp2
      go_ret
      refine ⟨ret_bool ?_, rfl⟩
      rw [← Hf.out, List.take_of_length_le (by omega)]

end Go.Proofs.Ytcmggfpcbijcjaa
end
section
/-
  Slices of floats that a call makes itself: appends; lists that may be written, and what a write does.
-/
set_option linter.unusedSimpArgs false
set_option linter.unusedVariables false
namespace Sedge
open Go Go.RowKit

/-- The slice v of ours owns the floats xs, in blocks from B on. -/
def OwnF (e : TypeId) (w : World) (B : Nat) (v : Value) (xs : List Nat) : Prop :=
  ∃ bs : List Nat, w.ownsRow B e 1 v bs.length (bs.map (Value.float .f64)) ∧ bs.map canon = xs ∧ ∀ b ∈ bs, b < 2 ^ 64

theorem OwnF.nil (e : TypeId) (w : World) (B : Nat) : OwnF e w B (.slice none 0 0) [] := ⟨[], ⟨by simp, .inl ⟨rfl, rfl⟩⟩, rfl, by simp⟩
theorem OwnF.length {e : TypeId} {w : World} {B : Nat} {v : Value} {xs : List Nat} (h : OwnF e w B v xs) : ∃ a cap, v = .slice a xs.length cap := by
  obtain ⟨bs, ⟨_, h1⟩, rfl, _⟩ := h
  rcases h1 with ⟨rfl, h1⟩ | ⟨g, cap, cur, rfl, _⟩
  · exact ⟨none, 0, by simp [h1]⟩
  · exact ⟨some ⟨g, 0, none⟩, cap, by simp⟩
theorem take_getElem? {α : Type} {l m : List α} {k i : Nat} (h : l.take k = m) (hi : i < m.length) : l[i]? = m[i]? := by
  subst h
  rw [List.getElem?_take_of_lt (by simp at hi; omega)]
theorem OwnF.fs {e : TypeId} {w : World} {B : Nat} {v : Value} {xs : List Nat} (h : OwnF e w B v xs) (hl : xs.length ≤ 9223372036854775807) : FS w v xs := by
  obtain ⟨bs, ⟨_, h1⟩, rfl, hb⟩ := h
  rcases h1 with ⟨rfl, h1⟩ | ⟨g, cap, cur, rfl, _, hh, hn, hm, hsz, ht⟩
  · have : bs = [] := List.length_eq_zero_iff.1 h1
    subst this; exact FS.nil w
  · refine ⟨hl, some ⟨g, 0, none⟩, cap, by simp, (fun h => by cases h), fun i hi => ⟨g, 0, bs.getD i 0, rfl, ?_, ?_⟩⟩
    · have hi' : i < bs.length := by simpa using hi
      rw [Nat.mul_one] at ht
      have := take_getElem? (i := i) ht (by simpa using hi')
      simp only [World.cell?, hh, Nat.zero_add, Option.isSome_none, Bool.false_eq_true, if_false]
      rw [← Array.getElem?_toList, this]
      simp [List.getD_eq_getElem?_getD, hi']
    · have hi' : i < bs.length := by simpa using hi
      have hm : bs.getD i 0 ∈ bs := by rw [List.getD_eq_getElem?_getD, List.getElem?_eq_getElem hi']; exact List.getElem_mem hi'
      refine ⟨hb _ hm, ?_⟩
      simp [List.getD_eq_getElem?_getD, hi']
theorem OwnF.grew {e : TypeId} {w w' : World} {B : Nat} {v : Value} {xs : List Nat} (h : OwnF e w B v xs) (g : Grew w w') : OwnF e w' B v xs := by
  obtain ⟨bs, ⟨h0, h1⟩, h2, h3⟩ := h
  refine ⟨bs, ⟨h0, ?_⟩, h2, h3⟩
  rcases h1 with h1 | ⟨gg, cap, cur, hv, hB, hh, r⟩
  · exact .inl h1
  · have hlt : gg < w.heap.size := by
      rcases Nat.lt_or_ge gg w.heap.size with h | h
      · exact h
      · rw [Array.getElem?_eq_none h] at hh; cases hh
    exact .inr ⟨gg, cap, cur, hv, hB, by rw [g.below.block gg hlt]; exact hh, r⟩
theorem OwnF.ext {e : TypeId} {w : World} {B : Nat} {v : Value} {xs : List Nat} (h : OwnF e w B v xs) (o : Array Obj) (n : Nat) : OwnF e (ext w o n) B v xs := h.grew ⟨_, _, rfl⟩
theorem OwnF.alloc {e : TypeId} {w : World} {B : Nat} {v : Value} {xs : List Nat} (h : OwnF e w B v xs) (o : Obj) : OwnF e (w.alloc o) B v xs := h.grew ((Grew.refl _).alloc o)
/-- A new block without cells. -/
theorem OwnF.empty {e : TypeId} {w : World} {B n : Nat} (hn : n = w.heap.size) (hB : B ≤ n) : OwnF e (w.alloc (.cells #[] e)) B (.slice (some ⟨n, 0, none⟩) 0 0) [] := by
  subst hn
  refine ⟨[], ⟨by simp, .inr ⟨_, 0, #[], rfl, hB, ?_, by simp, by simp, by simp, by simp⟩⟩, rfl, by simp⟩
  show (w.heap.push _)[w.heap.size]? = _
  simp

theorem grew_grown {W w w' : World} {row : Option Nat} (hW : Grew W w) (hg : w.grownBy w' row) (hr : ∀ k, row = some k → W.heap.size ≤ k) : Grew W w' := by
  refine Grew.of_below ?_
  have hb := hW.below
  exact hb.grown hg hb.size hr
theorem OwnF.block {e : TypeId} {w : World} {B : Nat} {v : Value} {xs : List Nat} (h : OwnF e w B v xs) : ∀ k, v.ownBlock = some k → B ≤ k := by
  obtain ⟨bs, ⟨_, h1⟩, _, _⟩ := h
  intro k hk
  rcases h1 with ⟨rfl, _⟩ | ⟨g, cap, cur, rfl, hB, _⟩
  · simp [Value.ownBlock] at hk
  · simp [Value.ownBlock] at hk; omega

/-- What the program's table says of a type of slices of floats. -/
structure ElemF (P : Program) (t e : TypeId) : Prop where
  und : P.underlying t = some (.slice e)
  info : (P.info? e).map (fun i => (i.zero, i.size, i.bytes)) = some (some (.float .f64 0), 1, 8)

section
variable {P : Program} {ops : Array Oper} {rest : List Oper} {o : Oper} {a : Act} {Q : Exit → Act → World → Prop}
/-- 'append(s, x)' of one float. -/
theorem append1_f {t e e' : TypeId} (T : ElemF P t e) {W w : World} (hW : Grew W w) {v : Value} {xs : List Nat} (hown : OwnF e w W.heap.size v xs) {b y : Nat} (hy : IsF b y)
    (hlen : xs.length < 17592186044415) (s x : Operand) (hg : o.guard = none)
    (ho : o.op = .call { callee := .builtin .append, args := #[s, x], argTypes := #[t, t] }) (hs : a.eval s = v) {k : Nat} (hk : k = w.heap.size) (hx : a.eval x = .slice (some ⟨k, 0, none⟩) 1 1)
    (h : ∀ v' oo nn, OwnF e (ext W oo nn) W.heap.size v' (xs ++ [y]) → v' ≠ .slice none 0 0 → wpList P ops Q rest (a.put o.dst v') (ext W oo nn)) :
    wpList P ops Q (o :: rest) a (w.alloc (.cells #[.float .f64 b] e')) := by
  subst hk
  obtain ⟨i0, hi, hz0, hz1, hz2⟩ := info_parts T.info
  have hblk := hown.block
  have h' := hown.alloc (.cells #[.float .f64 b] e')
  obtain ⟨bs, ho1, rfl, hb⟩ := h'
  have hl : bs.length < 17592186044415 := by simpa using hlen
  refine wpList_append_own _ hg s x t ho W.heap.size e i0 (.float .f64 0) 1 8 T.und hi hz0 hz1 hz2 rfl (by decide) v bs.length _ hs ho1 ⟨w.heap.size, 0, none⟩ 1 1 [.float .f64 b] hx rfl ?_ ?_ ?_ ?_ ?_ ?_
  · intro j u hj
    match j, hj with
    | 0, hj =>
      simp at hj; subst hj
      have e1 : (⟨w.heap.size, 0, none⟩ : Addr).add 0 = ⟨w.heap.size, 0, none⟩ := by simp [Addr.add]
      rw [e1, World.cell?_alloc_new]; rfl
  · intro u hu; simp at hu; subst hu; rfl
  · simp [maxLen]; omega
  · omega
  · have := hW.below.size; simp; omega
  · intro v' w' ho2 hgr hnn
    obtain ⟨oo, nn, rfl⟩ := grew_grown (hW.alloc (.cells #[.float .f64 b] e')) hgr hblk
    refine h v' oo nn ⟨bs ++ [b], by simpa using ho2, by simp [hy.2], fun z hz => ?_⟩ (fun h0 => by have := (hnn.1 h0).2; cases this)
    rcases List.mem_append.1 hz with hz | hz
    · exact hb z hz
    · simp at hz; subst hz; exact hy.1
/-- 'append(s, src...)'. -/
theorem appendN_f {t e : TypeId} (T : ElemF P t e) {W w : World} (hW : Grew W w) {v : Value} {xs : List Nat} (hown : OwnF e w W.heap.size v xs) {D : Value} {ws : List Nat} (hD : FS w D ws)
    (hlen : xs.length + ws.length < 17592186044415) (s x : Operand) (hg : o.guard = none)
    (ho : o.op = .call { callee := .builtin .append, args := #[s, x], argTypes := #[t, t] }) (hs : a.eval s = v) (hx : a.eval x = D)
    (h : ∀ v' oo nn, OwnF e (ext W oo nn) W.heap.size v' (xs ++ ws) → (v ≠ .slice none 0 0 → v' ≠ .slice none 0 0) → wpList P ops Q rest (a.put o.dst v') (ext W oo nn)) :
    wpList P ops Q (o :: rest) a w := by
  obtain ⟨i0, hi, hz0, hz1, hz2⟩ := info_parts T.info
  have hblk := hown.block
  obtain ⟨bs, ho1, rfl, hb⟩ := hown
  obtain ⟨ad, cap, rfl⟩ := hD.shape
  have hat := hD.at.2
  have hl : bs.length + ws.length < 17592186044415 := by simpa using hlen
  cases ad with
  | none =>
    have hw0 : ws = [] := by
      rcases Nat.eq_zero_or_pos ws.length with h0 | h0
      · exact List.length_eq_zero_iff.1 h0
      · obtain ⟨_, _, hh, _⟩ := hat h0; cases hh
    subst hw0
    have hcap := hD.nilcap rfl
    subst hcap
    · refine wpList_append_own_none hg s x t ho W.heap.size e i0 1 T.und hi v bs.length _ hs ho1 hx ?_
      obtain ⟨oo, nn, rfl⟩ := hW
      exact h v oo nn ⟨bs, ho1, by simp, hb⟩ id
  | some ad =>
    let f : Nat → Nat := fun i => match w.cell? (ad.add i) with | some (.float _ b) => b | _ => 0
    have each : ∀ i, i < ws.length → w.cell? (ad.add i) = some (.float .f64 (f i)) ∧ IsF (f i) (ws.getD i 0) := by
      intro i hi
      obtain ⟨blk, o, he, _, hc⟩ := hat (by omega)
      cases he
      obtain ⟨b, h1, h2⟩ := hc i hi
      have e1 : (⟨blk, o, none⟩ : Addr).add i = ⟨blk, o + i, none⟩ := by
        unfold Addr.add; split
        · rename_i h0; subst h0; rfl
        · rfl
      have : f i = b := by simp only [f]; rw [e1, h1]
      rw [this, e1]
      exact ⟨h1, h2⟩
    have hmap : ((List.range ws.length).map f).map canon = ws := by
      apply List.ext_getElem (by simp)
      intro i h1 h2
      simp only [List.getElem_map, List.getElem_range]
      have := (each i (by simpa using h2)).2.2
      rw [this, List.getD_eq_getElem?_getD, List.getElem?_eq_getElem h2]; rfl
    refine wpList_append_own _ hg s x t ho W.heap.size e i0 (.float .f64 0) 1 8 T.und hi hz0 hz1 hz2 rfl (by decide) v bs.length _ hs ho1 ad ws.length cap (((List.range ws.length).map f).map (Value.float .f64)) hx (by simp) ?_ ?_ ?_ ?_ ?_ ?_
    · intro j u hj
      have hj' : j < ws.length := by have := (List.getElem?_eq_some_iff.1 hj).1; simpa using this
      simp [hj'] at hj
      subst hj
      exact (each j hj').1
    · intro u hu; simp at hu; obtain ⟨_, _, rfl⟩ := hu; rfl
    · simp [maxLen]; omega
    · omega
    · exact hW.below.size
    · intro v' w' ho2 hgr hnn
      obtain ⟨oo, nn, rfl⟩ := grew_grown hW hgr hblk
      refine h v' oo nn ⟨bs ++ (List.range ws.length).map f, by simpa using ho2, by rw [List.map_append, hmap], fun z hz => ?_⟩ (fun h1 h2 => h1 (hnn.1 h2).1)
      rcases List.mem_append.1 hz with hz | hz
      · exact hb z hz
      · obtain ⟨i, hi, rfl⟩ := List.mem_map.1 hz
        exact (each i (by simpa using hi)).2.1
/-- 'make([]float64, n)'. -/
theorem make_f {t e : TypeId} (T : ElemF P t e) {W w : World} (hW : Grew W w) (l c : Operand) (hg : o.guard = none) (hop : o.op = Op.makeSlice t l c) (n : Nat) {L : Int} (hL : L = n) (hl : a.eval l = .int .i64 L) (hc : a.eval c = .int .i64 L)
    (hn : n ≤ 17592186044415)
    (h : ∀ oo nn k, W.heap.size ≤ k → OwnF e (ext W oo nn) W.heap.size (.slice (some ⟨k, 0, none⟩) n n) (List.replicate n 0) → wpList P ops Q rest (a.put o.dst (.slice (some ⟨k, 0, none⟩) n n)) (ext W oo nn)) :
    wpList P ops Q (o :: rest) a w := by
  obtain ⟨i0, hi, hz0, hz1, hz2⟩ := info_parts T.info
  refine wpList_make_full w hg l c t hop W.heap.size e i0 (.float .f64 0) 1 T.und hi hz0 hz1 .i64 .i64 L L n hl hc hL hL (by rw [hz2]; omega) (by simp [maxLen]; omega) hW.below.size ?_
  intro w' ho hgr
  obtain ⟨oo, nn, rfl⟩ := grew_grown hW hgr (fun k hk => by cases hk)
  refine h oo nn _ hW.below.size ⟨List.replicate n 0, ?_, by simp; right; decide +kernel, fun b hb => by rw [List.eq_of_mem_replicate hb]; decide⟩
  have e1 : (madeCells (Value.float .f64 0).cells (n * 1)).toList = List.map (Value.float .f64) (List.replicate n 0) := by
    apply List.ext_getElem?
    intro k
    simp [madeCells, Value.cells, Nat.mod_one]
    by_cases hk : k < n <;> simp [hk]
  rw [← e1]; simpa using ho
end
end Sedge
end
section
/-
  Lists of floats that are written: the block's cells as they stand; the rest of the world as it was.
-/
set_option linter.unusedSimpArgs false
set_option linter.unusedVariables false
namespace Sedge
open Go Go.RowKit

/-- The world w with the cells of block b replaced. -/
def upd (w : World) (b : Nat) (cs : Array Value) : World := { w with heap := w.heap.modify b fun | .cells _ e f => .cells cs e f | o => o }

section
variable {w : World} {b : Nat} {cs : Array Value}
@[simp, go_sem] theorem size_upd : (upd w b cs).heap.size = w.heap.size := by simp [upd]
theorem block_upd_ne {k : Nat} (h : k ≠ b) : (upd w b cs).heap[k]? = w.heap[k]? := by
  show (w.heap.modify b _)[k]? = _
  rw [Array.getElem?_modify, if_neg (by omega)]
theorem block_upd {c : Array Value} {e : TypeId} {f : Nat × Nat} (h : w.heap[b]? = some (.cells c e f)) : (upd w b cs).heap[b]? = some (.cells cs e f) := by
  show (w.heap.modify b _)[b]? = _
  rw [Array.getElem?_modify, if_pos rfl, h]; rfl
@[go_sem] theorem cell_upd_ne {k i : Nat} (h : k ≠ b) : (upd w b cs).cell? ⟨k, i, none⟩ = w.cell? ⟨k, i, none⟩ := by
  unfold World.cell?; rw [block_upd_ne (by exact h)]
@[simp, go_sem] theorem frozen_upd {a : Addr} : (upd w b cs).frozen? a = w.frozen? a := by
  unfold World.frozen?
  by_cases h : a.block = b
  · subst h
    show (match (w.heap.modify a.block _)[a.block]? with | some (.cells _ _ (lo, hi)) => _ | _ => _) = _
    rw [Array.getElem?_modify, if_pos rfl]
    cases w.heap[a.block]? with
    | none => rfl
    | some x => cases x <;> rfl
  · rw [block_upd_ne h]
@[simp, go_sem] theorem upd_upd {cs' : Array Value} : upd (upd w b cs) b cs' = upd w b cs' := by
  unfold upd
  simp only [World.mk.injEq, true_and, and_true]
  apply Array.ext_getElem?
  intro i
  simp only [Array.getElem?_modify]
  split
  · cases w.heap[i]? with
    | none => rfl
    | some x => cases x <;> rfl
  · rfl
@[go_sem] theorem upd_ext {o : Array Obj} {n : Nat} (h : b < w.heap.size) : upd (ext w o n) b cs = ext (upd w b cs) o n := by
  unfold ext upd
  simp only [World.mk.injEq, true_and, and_true]
  apply Array.ext_getElem?
  intro i
  by_cases hi : i < w.heap.size
  · rw [Array.getElem?_append_left (by simpa using hi), Array.getElem?_modify, Array.getElem?_modify, Array.getElem?_append_left hi]
  · rw [Array.getElem?_append_right (by simpa using hi), Array.getElem?_modify, if_neg (by omega), Array.getElem?_append_right (by omega)]
    simp
@[go_sem] theorem setCell_upd {i : Nat} {v : Value} : (upd w b cs).setCell ⟨b, i, none⟩ v = upd w b (cs.setIfInBounds i v) := by
  unfold upd World.setCell
  simp only [World.mk.injEq, true_and, and_true]
  apply Array.ext_getElem?
  intro k
  simp only [Array.getElem?_modify]
  split
  · cases w.heap[k]? with
    | none => rfl
    | some x => cases x <;> rfl
  · rfl
end

/-- The first cells are the floats ws. -/
def CF (cs : Array Value) (ws : List Nat) : Prop := ws.length ≤ cs.size ∧ ∀ i, i < ws.length → ∃ r, cs[i]? = some (.float .f64 r) ∧ IsF r (ws.getD i 0)
theorem CF.set {cs : Array Value} {ws : List Nat} (h : CF cs ws) {i r x : Nat} (hr : IsF r x) : CF (cs.setIfInBounds i (.float .f64 r)) (ws.set i x) := by
  obtain ⟨h1, h2⟩ := h
  refine ⟨by simpa using h1, fun k hk => ?_⟩
  have hk' : k < ws.length := by simpa using hk
  by_cases hik : i = k
  · subst hik
    refine ⟨r, ?_, ?_⟩
    · rw [Array.getElem?_setIfInBounds, if_pos rfl, if_pos (by omega)]
    · simpa [List.getD_eq_getElem?_getD, hk'] using hr
  · obtain ⟨s, h3, h4⟩ := h2 k hk'
    refine ⟨s, ?_, ?_⟩
    · rw [Array.getElem?_setIfInBounds, if_neg hik]; exact h3
    · rw [List.getD_eq_getElem?_getD, List.getElem?_set_ne hik, ← List.getD_eq_getElem?_getD]; exact h4

/-- Block b is a row of cells that may be written; its first ones are ws. -/
def FW (w : World) (b : Nat) (ws : List Nat) : Prop := ∃ c e, w.heap[b]? = some (.cells c e (0, 0)) ∧ CF c ws

section
variable {w : World} {b : Nat} {ws : List Nat}
theorem FW.lt (h : FW w b ws) : b < w.heap.size := by
  obtain ⟨c, e, h1, _⟩ := h
  exact (Array.getElem?_eq_some_iff.1 h1).1
theorem FW.notFrozen (h : FW w b ws) (i : Nat) : w.frozen? ⟨b, i, none⟩ = false := by
  obtain ⟨c, e, h1, _⟩ := h
  unfold World.frozen?
  simp only [h1]
  simp
/-- As it stands. -/
theorem FW.self (h : FW w b ws) : ∃ cs, upd w b cs = w ∧ CF cs ws := by
  obtain ⟨c, e, h1, h2⟩ := h
  refine ⟨c, ?_, h2⟩
  unfold upd
  cases w with | mk hp tp dr os' out => ?_
  simp only [World.mk.injEq, true_and, and_true] at *
  apply Array.ext_getElem?
  intro i
  rw [Array.getElem?_modify]
  split
  · rename_i he; subst he; rw [h1]; rfl
  · rfl
theorem FW.cells (h : FW w b ws) (cs : Array Value) (i : Nat) : (upd w b cs).cell? ⟨b, i, none⟩ = cs[i]? := by
  obtain ⟨c, e, h1, _⟩ := h
  unfold World.cell?
  simp only [block_upd h1]
  simp
theorem FW.mk' (h : FW w b ws) {cs : Array Value} {ws' : List Nat} (hc : CF cs ws') (o : Array Obj) (n : Nat) : FW (ext (upd w b cs) o n) b ws' := by
  have hlt := h.lt
  obtain ⟨c, e, h1, _⟩ := h
  exact ⟨cs, e, by rw [block_ext (by simpa using hlt), block_upd h1], hc⟩
theorem FW.fs (h : FW w b ws) (hl : ws.length ≤ 9223372036854775807) (cap : Nat) : FS w (.slice (some ⟨b, 0, none⟩) ws.length cap) ws := by
  obtain ⟨c, e, h1, h2⟩ := h
  refine ⟨hl, _, cap, rfl, (fun h => by cases h), fun i hi => ?_⟩
  obtain ⟨r, h3, h4⟩ := h2.2 i hi
  refine ⟨b, 0, r, rfl, ?_, h4⟩
  unfold World.cell?
  simp only [h1, Nat.zero_add]
  simpa using h3
theorem FW.same {w' : World} (h : FW w b ws) (hs : w'.heap[b]? = w.heap[b]?) : FW w' b ws := by
  obtain ⟨c, e, h1, h2⟩ := h
  exact ⟨c, e, hs.trans h1, h2⟩
theorem FW.grew {w' : World} (h : FW w b ws) (g : Grew w w') : FW w' b ws := h.same (g.below.block b h.lt)
theorem FW.ext (h : FW w b ws) (o : Array Obj) (n : Nat) : FW (ext w o n) b ws := h.grew ⟨_, _, rfl⟩
theorem FW.alloc (h : FW w b ws) (o : Obj) : FW (w.alloc o) b ws := h.grew ((Grew.refl _).alloc o)
theorem FW.upd_ne (h : FW w b ws) {k : Nat} (hk : b ≠ k) (cs : Array Value) : FW (upd w k cs) b ws := h.same (block_upd_ne hk)
end

/-- v does not lie in block b. -/
def NotIn (b : Nat) (v : Value) : Prop := ∀ a l c, v = .slice (some a) l c → a.block ≠ b
theorem FS.upd_ne {w : World} {v : Value} {ws : List Nat} (h : FS w v ws) {b : Nat} (hn : NotIn b v) (cs : Array Value) : FS (upd w b cs) v ws := by
  obtain ⟨hl, a, cap, hv, h0, hc⟩ := h
  refine ⟨hl, a, cap, hv, h0, fun i hi => ?_⟩
  obtain ⟨blk, o, r, he, h1, h2⟩ := hc i hi
  refine ⟨blk, o, r, he, ?_, h2⟩
  rw [cell_upd_ne (by exact hn ⟨blk, o, none⟩ _ _ (by rw [hv, he]))]
  exact h1
theorem OwnF.fw {e : TypeId} {w : World} {B : Nat} {v : Value} {xs : List Nat} (h : OwnF e w B v xs) (hn : v ≠ .slice none 0 0) :
    ∃ g cap, v = .slice (some ⟨g, 0, none⟩) xs.length cap ∧ B ≤ g ∧ FW w g xs := by
  obtain ⟨bs, ⟨_, h1⟩, rfl, hb⟩ := h
  rcases h1 with ⟨h1, _⟩ | ⟨g, cap, cur, rfl, hB, hh, hn, hm, hsz, ht⟩
  · exact absurd h1 hn
  · refine ⟨g, cap, by simp, hB, cur, e, hh, by simp; omega, fun i hi => ?_⟩
    have hi' : i < bs.length := by simpa using hi
    rw [Nat.mul_one] at ht
    have h2 := take_getElem? (i := i) ht (by simpa using hi')
    have hm : bs.getD i 0 ∈ bs := by rw [List.getD_eq_getElem?_getD, List.getElem?_eq_getElem hi']; exact List.getElem_mem hi'
    refine ⟨bs.getD i 0, ?_, hb _ hm, ?_⟩
    · rw [← Array.getElem?_toList, h2]; simp [List.getD_eq_getElem?_getD, hi']
    · simp [List.getD_eq_getElem?_getD, hi']
/-- A slice of our own that may be written: its block lies at B or behind; it reads as ws. -/
def WS (w : World) (B : Nat) (v : Value) (ws : List Nat) : Prop := ∃ g cap, v = .slice (some ⟨g, 0, none⟩) ws.length cap ∧ B ≤ g ∧ FW w g ws ∧ ws.length ≤ 9223372036854775807
theorem OwnF.ws {e : TypeId} {w : World} {B : Nat} {v : Value} {xs : List Nat} (h : OwnF e w B v xs) (hn : v ≠ .slice none 0 0) (hl : xs.length ≤ 9223372036854775807) : WS w B v xs := by
  obtain ⟨g, cap, h1, h2, h3⟩ := h.fw hn
  exact ⟨g, cap, h1, h2, h3, hl⟩
theorem WS.fs {w : World} {B : Nat} {v : Value} {xs : List Nat} (h : WS w B v xs) : FS w v xs := by
  obtain ⟨g, cap, rfl, _, h3, h4⟩ := h
  exact h3.fs h4 cap
theorem WS.grew {w w' : World} {B : Nat} {v : Value} {xs : List Nat} (h : WS w B v xs) (g : Grew w w') : WS w' B v xs := by
  obtain ⟨k, cap, h1, h2, h3, h4⟩ := h
  exact ⟨k, cap, h1, h2, h3.grew g, h4⟩
theorem WS.ext {w : World} {B : Nat} {v : Value} {xs : List Nat} (h : WS w B v xs) (o : Array Obj) (n : Nat) : WS (ext w o n) B v xs := h.grew ⟨_, _, rfl⟩
theorem WS.alloc {w : World} {B : Nat} {v : Value} {xs : List Nat} (h : WS w B v xs) (o : Obj) : WS (w.alloc o) B v xs := h.grew ((Grew.refl _).alloc o)
theorem WS.mono {w : World} {B C : Nat} {v : Value} {xs : List Nat} (h : WS w B v xs) (hc : C ≤ B) : WS w C v xs := by
  obtain ⟨k, cap, h1, h2, h3, h4⟩ := h
  exact ⟨k, cap, h1, Nat.le_trans hc h2, h3, h4⟩
theorem Grew.upd {W w : World} {b : Nat} (h : Grew W w) (hb : W.heap.size ≤ b) (cs : Array Value) : Grew W (upd w b cs) := by
  refine Grew.of_below ?_
  have := h.below
  exact ⟨this.os, this.tape, this.output, by simpa using this.size, fun k hk => by rw [block_upd_ne (by omega)]; exact this.block k hk⟩
theorem Grew.setCell {W w : World} {a : Addr} (h : Grew W w) (hb : W.heap.size ≤ a.block) (v : Value) : Grew W (w.setCell a v) := by
  refine Grew.of_below ?_
  have := h.below
  refine ⟨this.os, this.tape, this.output, by simpa [World.setCell] using this.size, fun k hk => ?_⟩
  rw [← this.block k hk]
  show (w.heap.modify _ _)[k]? = _
  rw [Array.getElem?_modify, if_neg (by omega)]
/-- A write elsewhere. -/
theorem FW.setCell_ne {w : World} {b : Nat} {ws : List Nat} (h : FW w b ws) {a : Addr} (hb : a.block ≠ b) (v : Value) : FW (w.setCell a v) b ws := h.same (by
  show (w.heap.modify _ _)[b]? = _
  rw [Array.getElem?_modify, if_neg hb])
theorem WS.setCell {w : World} {B : Nat} {v : Value} {xs : List Nat} (h : WS w B v xs) {a : Addr} (hb : a.block < B) (u : Value) : WS (w.setCell a u) B v xs := by
  obtain ⟨k, cap, h1, h2, h3, h4⟩ := h
  exact ⟨k, cap, h1, h2, h3.setCell_ne (by omega) u, h4⟩
theorem OwnF.made {e : TypeId} {w : World} {B k n c : Nat} {xs : List Nat} (h : OwnF e w B (.slice (some ⟨k, 0, none⟩) n c) xs) : FW w k xs := by
  obtain ⟨g, cap, he, hB, hF⟩ := h.fw (by intro h; cases h)
  have := (Value.slice.inj he).1
  have e2 : k = g := congrArg (fun o : Option Addr => match o with | some a => a.block | none => 0) this
  rw [e2]; exact hF
theorem size_setCell' {w : World} {a : Addr} {v : Value} : (w.setCell a v).heap.size = w.heap.size := by simp [World.setCell]
theorem FW.ext_set {w : World} {b : Nat} {ws : List Nat} {o : Array Obj} {n : Nat} (h : FW (Sedge.ext w o n) b ws) {a : Addr} (h1 : a.block < w.heap.size) (h2 : a.block ≠ b) (v : Value) : FW (Sedge.ext (w.setCell a v) o n) b ws := by
  rw [← setCell_ext' h1]
  exact h.setCell_ne h2 v
/-- From w to w' the list in block g was written, and new blocks laid. -/
def Wrote (w w' : World) (g : Nat) (ws : List Nat) : Prop := ∃ cs o n, w' = Sedge.ext (upd w g cs) o n ∧ CF cs ws
theorem Wrote.refl {w : World} {g : Nat} {ws : List Nat} (h : FW w g ws) : Wrote w w g ws := by
  obtain ⟨cs, h1, h2⟩ := h.self
  exact ⟨cs, #[], _, by rw [h1]; exact ext_zero.symm, h2⟩
theorem Wrote.fw {w w' : World} {g : Nat} {ws ws' : List Nat} (h : Wrote w w' g ws') (hF : FW w g ws) : FW w' g ws' := by
  obtain ⟨cs, o, n, rfl, h2⟩ := h
  exact hF.mk' h2 o n
theorem Wrote.trans {w w' w'' : World} {g : Nat} {ws ws' : List Nat} (h : Wrote w w' g ws) (hg : g < w.heap.size) (k : Wrote w' w'' g ws') : Wrote w w'' g ws' := by
  obtain ⟨cs, o, n, rfl, h2⟩ := h
  obtain ⟨cs', o', n', rfl, h2'⟩ := k
  exact ⟨cs', _, _, by rw [upd_ext (by simpa using hg), upd_upd, ext_ext], h2'⟩
theorem Wrote.grew {W w w' : World} {g : Nat} {ws : List Nat} (h : Wrote w w' g ws) (hW : Grew W w) (hg : W.heap.size ≤ g) : Grew W w' := by
  obtain ⟨cs, o, n, rfl, h2⟩ := h
  exact (hW.upd hg cs).ext _ _
theorem Wrote.fs {w w' : World} {g : Nat} {ws : List Nat} (h : Wrote w w' g ws) {v : Value} {us : List Nat} (hv : FS w v us) (hn : NotIn g v) : FS w' v us := by
  obtain ⟨cs, o, n, rfl, h2⟩ := h
  exact (hv.upd_ne hn cs).ext o n
theorem FW.get {w : World} {g : Nat} {ws : List Nat} (h : FW w g ws) {i : Nat} (hi : i < ws.length) : ∃ r, w.cell? ⟨g, i, none⟩ = some (.float .f64 r) ∧ IsF r (ws.getD i 0) := by
  obtain ⟨c, e, h1, h2⟩ := h
  obtain ⟨r, h3, h4⟩ := h2.2 i hi
  exact ⟨r, by unfold World.cell?; simp only [h1]; simpa using h3, h4⟩
/-- The store of a float. -/
@[go_sem] theorem run_store_float {P : Program} {w : World} {a : Addr} {m : Mode} (k : FloatKind) (b : Nat) : (store a (.float k b) m).run P w = stored P w a (.float k b) m := run_store P w a _ m rfl
theorem Grew.cell {W V : World} (h : Grew W V) {b i : Nat} (hb : b < W.heap.size) : V.cell? ⟨b, i, none⟩ = W.cell? ⟨b, i, none⟩ := h.below.cell (p := ⟨b, i, none⟩) hb
theorem Grew.frozen {W V : World} (h : Grew W V) {b i : Nat} (hb : b < W.heap.size) : V.frozen? ⟨b, i, none⟩ = W.frozen? ⟨b, i, none⟩ := h.below.frozen (p := ⟨b, i, none⟩) hb
/-- w is V with block g written, and new blocks. -/
def Over (V : World) (g : Nat) (w : World) : Prop := ∃ cs o n, w = Sedge.ext (upd V g cs) o n
/-- One write. -/
theorem FW.set {w : World} {g : Nat} {ws : List Nat} (h : FW w g ws) {k r x : Nat} (hr : IsF r x) : ∃ cs, w.setCell ⟨g, k, none⟩ (.float .f64 r) = upd w g cs ∧ CF cs (ws.set k x) := by
  obtain ⟨cs, h1, h2⟩ := h.self
  exact ⟨cs.setIfInBounds k (.float .f64 r), by rw [← setCell_upd, h1], h2.set hr⟩
theorem FW.wrote {w : World} {g : Nat} {ws : List Nat} (h : FW w g ws) {k r x : Nat} (hr : IsF r x) : Wrote w (w.setCell ⟨g, k, none⟩ (.float .f64 r)) g (ws.set k x) := by
  obtain ⟨cs, h1, h2⟩ := h.set (k := k) hr
  exact ⟨cs, #[], _, by rw [h1]; exact ext_zero.symm, h2⟩
/-- Writes, one behind the other: at p k the number f k. -/
def writes (l : List Nat) (p f : Nat → Nat) : Nat → List Nat
  | 0 => l
  | k + 1 => (writes l p f k).set (p k) (f k)
@[simp] theorem writes_length (l : List Nat) (p f : Nat → Nat) : ∀ k, (writes l p f k).length = l.length
  | 0 => rfl
  | k + 1 => by unfold writes; rw [List.length_set, writes_length l p f k]
/-- The world of the goal, named. -/
theorem name_any {p : World → Prop} {w : World} (h : ∀ W, w = W → p W) : p w := h w rfl
theorem name_call {P : Program} {f : FuncId} {args : Array Value} {post : Ending → World → Prop} {w : World} (h : ∀ W, w = W → Calls P f args W post) : Calls P f args w post := h w rfl
end Sedge
end
