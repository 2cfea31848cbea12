/-
  Texts laid one behind the other (a claim has at most 60 files): FltVal2, FltErr, Dig, Dint, Bnd2, Rrest, LawSums, Berr1, Ger3.
-/
import Derived.Test.YtcmggfpcbijcjaaQResidTells1
import Derived.Test.YtcmggfpcbijcjaaQResidTells2
import Derived.Test.YtcmggfpcbijcjaaQResidTells3
import Derived.Test.YtcmggfpcbijcjaaQResidTells4
import Derived.Test.YtcmggfpcbijcjaaQResidTells5
section
set_option linter.unusedSimpArgs false
set_option linter.unusedVariables false
namespace Sedge
open Ieee

def p2 (k : Int) : Rat := (2 : Rat) ^ k
theorem p2_pos (k : Int) : 0 < p2 k := Rat.zpow_pos (by decide)
theorem p2_add (j k : Int) : p2 (j + k) = p2 j * p2 k := Rat.zpow_add (by decide) j k
theorem p2_zero : p2 0 = 1 := Rat.zpow_zero 2
theorem p2_one : p2 1 = 2 := Rat.zpow_one 2
theorem p2_nat (n : Nat) : p2 n = ((2 ^ n : Nat) : Rat) := by
  unfold p2; rw [Rat.zpow_natCast, Rat.natCast_pow]; rfl
theorem p2_succ (k : Int) : p2 (k + 1) = 2 * p2 k := by rw [p2_add, p2_one, Rat.mul_comm]
theorem p2_mono {j k : Int} (h : j ≤ k) : p2 j ≤ p2 k := by
  obtain ⟨n, rfl⟩ : ∃ n : Nat, k = j + n := ⟨(k - j).toNat, by omega⟩
  rw [p2_add, p2_nat]
  have h1 : (1 : Rat) ≤ ((2 ^ n : Nat) : Rat) := by
    have : 1 ≤ 2 ^ n := Nat.two_pow_pos n
    have := Rat.natCast_le_natCast.2 this
    simpa using this
  have := Rat.mul_le_mul_of_nonneg_left h1 (Rat.le_of_lt (p2_pos j))
  grind
theorem p2_lt {j k : Int} (h : j < k) : p2 j < p2 k := by
  have h1 : p2 (j + 1) ≤ p2 k := p2_mono (by omega)
  rw [p2_succ] at h1
  have := p2_pos j
  grind
theorem p2_inv (k : Int) : p2 k * p2 (-k) = 1 := by rw [← p2_add, show k + -k = 0 by omega, p2_zero]
theorem p2_sub_mul (j k : Int) : p2 (j - k) * p2 k = p2 j := by rw [← p2_add, show j - k + k = j by omega]

/-- What a word is worth (0 of what is not finite). -/
def sgn (s : Bool) : Rat := if s then -1 else 1
def dat (s : Bool) (m : Nat) (p : Int) : Rat := sgn s * ((m : Rat) * p2 p)
def val (b : Nat) : Rat := match D64.read b with
  | .number s m p => dat s m p
  | _ => 0
/-- Finite. -/
def fin (b : Nat) : Bool := match D64.read b with
  | .number .. => true
  | _ => false

theorem abs_sgn_mul (s : Bool) (x : Rat) : (sgn s * x).abs = x.abs := by
  cases s
  · simp [sgn]
  · have : sgn true * x = -x := by simp [sgn]; grind
    rw [this, Rat.abs_neg]

/-! keptP and lastP. -/
theorem lastP_ge (m : Nat) (p : Int) : -1074 ≤ lastP m p := Int.le_max_right _ _
theorem lastP_ge' (m : Nat) (p : Int) : p + m.log2 - 52 ≤ lastP m p := Int.le_max_left _ _
theorem lastP_or (m : Nat) (p : Int) : lastP m p = p + m.log2 - 52 ∨ (lastP m p = -1074 ∧ p + m.log2 - 52 ≤ -1074) := by
  unfold lastP; omega

/-- In units of 2^lastP: the numerator. -/
def numP (m : Nat) (p : Int) : Nat := m <<< (p - lastP m p).toNat
def dropP (m : Nat) (p : Int) : Nat := (lastP m p - p).toNat

theorem numP_val (m : Nat) (p : Int) : (numP m p : Rat) * p2 (lastP m p) = (m : Rat) * p2 p * (2 ^ dropP m p : Nat) := by
  unfold numP dropP
  rw [Nat.shiftLeft_eq, Rat.natCast_mul, ← p2_nat, ← p2_nat]
  have : (p2 ((p - lastP m p).toNat : Nat)) * p2 (lastP m p) = p2 p * p2 ((lastP m p - p).toNat : Nat) := by
    rw [← p2_add, ← p2_add]; congr 1; omega
  grind

/-- How far the kept digits are from the number: half a unit at most. -/
theorem kept_err (m : Nat) (p : Int) : ((keptP m p : Rat) * p2 (lastP m p) - (m : Rat) * p2 p).abs ≤ p2 (lastP m p - 1) := by
  have hlo := rne_lo (numP m p) (dropP m p)
  have hhi := rne_hi (numP m p) (dropP m p)
  have hk : rne (numP m p) (dropP m p) = keptP m p := rfl
  rw [hk] at hlo hhi
  have hv := numP_val m p
  have hg : 0 < ((2 ^ dropP m p : Nat) : Rat) := Rat.natCast_pos.2 (Nat.two_pow_pos _)
  have hlo' := Rat.natCast_le_natCast.2 hlo
  have hhi' := Rat.natCast_le_natCast.2 hhi
  simp only [Rat.natCast_add, Rat.natCast_mul] at hlo' hhi'
  have h2 : ((2 : Nat) : Rat) = 2 := rfl
  rw [h2] at hlo' hhi'
  have hu := p2_pos (lastP m p)
  have hu1 : 2 * p2 (lastP m p - 1) = p2 (lastP m p) := by rw [← p2_succ]; congr 1; omega
  generalize ((2 ^ dropP m p : Nat) : Rat) = g at *
  generalize (keptP m p : Rat) = k at *
  generalize (numP m p : Rat) = n at *
  generalize p2 (lastP m p) = u at *
  generalize (m : Rat) * p2 p = x at *
  generalize p2 (lastP m p - 1) = h at *
  -- n u = x g; 2 n ≤ 2 k g + g; 2 k g ≤ 2 n + g
  have a1 : 2 * n * u ≤ (2 * (k * g) + g) * u := Rat.mul_le_mul_of_nonneg_right hlo' (Rat.le_of_lt hu)
  have a2 : 2 * (k * g) * u ≤ (2 * n + g) * u := Rat.mul_le_mul_of_nonneg_right hhi' (Rat.le_of_lt hu)
  have b1 : g * (2 * x) ≤ g * (2 * (k * u) + u) := by grind
  have b2 : g * (2 * (k * u)) ≤ g * (2 * x + u) := by grind
  have c1 := Rat.le_of_mul_le_mul_left b1 hg
  have c2 := Rat.le_of_mul_le_mul_left b2 hg
  rcases Rat.le_total (a := 0) (b := k * u - x) with h0 | h0
  · rw [Rat.abs_of_nonneg h0]; grind
  · rw [Rat.abs_of_nonpos h0]; grind

theorem kept_le (m : Nat) (p : Int) (h : m ≠ 0) : keptP m p ≤ 2 ^ 53 := by
  -- m 2^p < 2^(log2 m + 1 + p) ≤ 2^(lastP + 53)
  have hl := (log2_spec m h).2
  have hle : numP m p ≤ 2 ^ 53 * 2 ^ dropP m p := by
    unfold numP dropP
    rw [Nat.shiftLeft_eq, ← Nat.pow_add]
    have h1 : m * 2 ^ (p - lastP m p).toNat ≤ 2 ^ (m.log2 + 1) * 2 ^ (p - lastP m p).toNat := Nat.mul_le_mul_right _ (Nat.le_of_lt hl)
    rw [← Nat.pow_add] at h1
    refine Nat.le_trans h1 (Nat.pow_le_pow_right (by decide) ?_)
    have := lastP_ge' m p
    omega
  have := rne_mono hle (dropP m p)
  rw [rne_exact] at this
  exact this
theorem kept_ge (m : Nat) (p : Int) (h : m ≠ 0) (hn : lastP m p = p + m.log2 - 52) : 2 ^ 52 ≤ keptP m p := by
  have hl := (log2_spec m h).1
  have hle : 2 ^ 52 * 2 ^ dropP m p ≤ numP m p := by
    unfold numP dropP
    rw [Nat.shiftLeft_eq, ← Nat.pow_add]
    have h1 : 2 ^ m.log2 * 2 ^ (p - lastP m p).toNat ≤ m * 2 ^ (p - lastP m p).toNat := Nat.mul_le_mul_right _ hl
    rw [← Nat.pow_add] at h1
    refine Nat.le_trans (Nat.pow_le_pow_right (by decide) ?_) h1
    omega
  have := rne_mono hle (dropP m p)
  rw [rne_exact] at this
  exact this

theorem BN_eq : BN = 2 ^ 52 := by decide +kernel
theorem IR_eq : IR = 2046 * BN + BN := by decide +kernel
theorem SW_eq : SW = 2048 * BN := by decide +kernel

/-- A word below infinity, of kept digits k at place l, is worth k 2^l. -/
theorem read_kept (s : Bool) (l : Int) (k : Nat) (hl : -1074 ≤ l) (hk : k ≤ 2 ^ 53) (hn : 2 ^ 52 ≤ k ∨ l = -1074)
    (hf : (l + 1074).toNat * BN + k < IR) :
    ∃ m q, D64.read (D64.word s ((l + 1074).toNat * BN + k)) = .number s m q ∧ (m : Rat) * p2 q = (k : Rat) * p2 l := by
  have hlt : (l + 1074).toNat * BN + k < SW := Nat.lt_trans hf (by decide +kernel)
  rw [read_word s _ hlt]
  have hb : BN = 2 ^ 52 := BN_eq
  have hb0 : 0 < BN := by decide +kernel
  by_cases h1 : (l + 1074).toNat * BN + k < BN
  · rw [if_pos h1]
    have hl0 : (l + 1074).toNat = 0 := by
      rcases Nat.eq_zero_or_pos (l + 1074).toNat with h | h
      · exact h
      · have : BN ≤ (l + 1074).toNat * BN := Nat.le_mul_of_pos_left _ h
        omega
    have : l = -1074 := by omega
    refine ⟨_, _, rfl, ?_⟩
    rw [hl0, Nat.zero_mul, Nat.zero_add, this]
  · rw [if_neg h1, if_pos hf]
    refine ⟨_, _, rfl, ?_⟩
    have h53 : (2 : Nat) ^ 53 = 2 * BN := by rw [hb]
    have hkb : BN ≤ k ∨ (l + 1074).toNat = 0 := by
      rcases hn with h | h
      · left; omega
      · right; omega
    have hk1 : BN ≤ k := by
      rcases hkb with h | h
      · exact h
      · rw [h, Nat.zero_mul, Nat.zero_add] at h1; omega
    by_cases hk2 : k < 2 * BN
    · have e1 : ((l + 1074).toNat * BN + k) % BN = k - BN := by
        rw [Nat.add_comm, Nat.add_mul_mod_self_right]
        have : k = BN + (k - BN) := by omega
        rw [this, Nat.add_mod_left, Nat.mod_eq_of_lt (by omega)]; omega
      have e2 : ((l + 1074).toNat * BN + k) / BN = (l + 1074).toNat + 1 := by
        rw [Nat.add_comm, Nat.add_mul_div_right _ _ hb0]
        have : k / BN = 1 := by
          apply Nat.div_eq_of_lt_le <;> omega
        omega
      rw [e1, e2]
      have e3 : BN + (k - BN) = k := by omega
      have e4 : (-1074 + (((l + 1074).toNat + 1 - 1 : Nat) : Int)) = l := by omega
      rw [e3, e4]
    · have hk3 : k = 2 * BN := by omega
      have e1 : ((l + 1074).toNat * BN + k) % BN = 0 := by
        rw [hk3, ← Nat.add_mul, Nat.mul_mod_left]
      have e2 : ((l + 1074).toNat * BN + k) / BN = (l + 1074).toNat + 2 := by
        rw [hk3, ← Nat.add_mul, Nat.mul_div_cancel _ hb0]
      rw [e1, e2, hk3]
      have e4 : (-1074 + (((l + 1074).toNat + 2 - 1 : Nat) : Int)) = l + 1 := by omega
      rw [e4, p2_succ, Nat.add_zero, Rat.natCast_mul]
      have h2 : ((2 : Nat) : Rat) = 2 := rfl
      rw [h2]
      grind

/-- THE NEAREST: if finite, it is within half a unit. -/
theorem nearest_err (s : Bool) (m : Nat) (p : Int) (h : m ≠ 0) (hf : fin (D64.nearest s m p) = true) :
    (val (D64.nearest s m p) - dat s m p).abs ≤ p2 (lastP m p - 1) ∧ val (D64.nearest s m p) = dat s (keptP m p) (lastP m p) := by
  rw [nearest_eq s m p h] at hf ⊢
  have hlt : (lastP m p + 1074).toNat * BN + keptP m p < IR := by
    rcases Nat.lt_or_ge ((lastP m p + 1074).toNat * BN + keptP m p) IR with h1 | h1
    · exact h1
    · rw [Nat.min_eq_right h1] at hf
      unfold fin at hf
      rw [read_word s IR (by decide +kernel), if_neg (by decide +kernel), if_neg (by decide +kernel), if_pos rfl] at hf
      cases hf
  rw [Nat.min_eq_left (Nat.le_of_lt hlt)] at hf ⊢
  have hor : 2 ^ 52 ≤ keptP m p ∨ lastP m p = -1074 := by
    rcases lastP_or m p with h1 | h1
    · exact .inl (kept_ge m p h h1)
    · exact .inr h1.1
  obtain ⟨m', q, hr, hv⟩ := read_kept s (lastP m p) (keptP m p) (lastP_ge m p) (kept_le m p h) hor hlt
  have hval : val (D64.word s ((lastP m p + 1074).toNat * BN + keptP m p)) = dat s (keptP m p) (lastP m p) := by
    unfold val
    rw [hr]
    show sgn s * (_ * _) = sgn s * (_ * _)
    rw [hv]
  refine ⟨?_, hval⟩
  rw [hval]
  unfold dat
  have : sgn s * (↑(keptP m p) * p2 (lastP m p)) - sgn s * (↑m * p2 p) = sgn s * (↑(keptP m p) * p2 (lastP m p) - ↑m * p2 p) := by grind
  rw [this, abs_sgn_mul]
  exact kept_err m p

end Sedge
end
section
set_option linter.unusedSimpArgs false
set_option linter.unusedVariables false
namespace Sedge
open Ieee

theorem read_number_or (b : Nat) : (∃ s m p, D64.read b = .number s m p) ∨ (∃ s, D64.read b = .infinity s) ∨ (∃ s t, D64.read b = .nan s t) := by
  cases h : D64.read b with
  | number s m p => exact .inl ⟨_, _, _, rfl⟩
  | infinity s => exact .inr (.inl ⟨_, rfl⟩)
  | nan s t => exact .inr (.inr ⟨_, _, rfl⟩)

theorem fin_iff (b : Nat) : fin b = true ↔ ∃ s m p, D64.read b = .number s m p := by
  unfold fin
  rcases read_number_or b with ⟨s, m, p, h⟩ | ⟨s, h⟩ | ⟨s, t, h⟩ <;> simp [h]
theorem val_of {b : Nat} {s : Bool} {m : Nat} {p : Int} (h : D64.read b = .number s m p) : val b = dat s m p := by
  unfold val; rw [h]

theorem fin_of_read {b : Nat} {s : Bool} {m : Nat} {p : Int} (h : D64.read b = .number s m p) : fin b = true := (fin_iff b).2 ⟨_, _, _, h⟩
theorem fin_notnan {b : Nat} (h : fin b = true) : isNan b = false := by
  obtain ⟨s, m, p, h⟩ := (fin_iff b).1 h
  unfold isNan; rw [h]; rfl
theorem fin_QN : fin QN = false := by decide +kernel
theorem fin_inf (s : Bool) : fin (D64.write (.infinity s)) = false := by cases s <;> decide +kernel
theorem fin_canon (b : Nat) : fin (canon b) = fin b := by
  cases h : isNan b
  · rw [canon_not h]
  · rw [canon_nan h, fin_QN]
    cases hf : fin b
    · rfl
    · rw [fin_notnan hf] at h; cases h
theorem val_canon {b : Nat} (h : fin b = true) : val (canon b) = val b := by rw [canon_not (fin_notnan h)]

theorem dat_zero (s : Bool) (p : Int) : dat s 0 p = 0 := by unfold dat; simp
theorem word_zero (s : Bool) : val (D64.word s 0) = 0 ∧ fin (D64.word s 0) = true := by
  have h : D64.read (D64.word s 0) = .number s 0 (-1074) := by
    rw [read_word s 0 (by decide +kernel), if_pos (by decide +kernel)]
  exact ⟨by rw [val_of h, dat_zero], fin_of_read h⟩

def U : Rat := p2 (-53)
def ETA : Rat := p2 (-1075)
theorem U_pos : 0 < U := p2_pos _
theorem ETA_pos : 0 < ETA := p2_pos _

theorem dat_abs (s : Bool) (m : Nat) (p : Int) : (dat s m p).abs = (m : Rat) * p2 p := by
  unfold dat
  rw [abs_sgn_mul, Rat.abs_of_nonneg (Rat.mul_nonneg Rat.natCast_nonneg (Rat.le_of_lt (p2_pos p)))]

theorem half_unit (m : Nat) (p : Int) (h : m ≠ 0) : p2 (lastP m p - 1) ≤ U * ((m : Rat) * p2 p) + ETA := by
  have hm : 0 ≤ (m : Rat) * p2 p := Rat.mul_nonneg Rat.natCast_nonneg (Rat.le_of_lt (p2_pos p))
  rcases lastP_or m p with h1 | h1
  · rw [h1]
    have h2 : p2 (p + m.log2 - 52 - 1) = U * (p2 p * p2 (m.log2 : Nat)) := by
      unfold U; rw [← p2_add, ← p2_add]; congr 1; omega
    rw [h2]
    have h3 : p2 (m.log2 : Nat) ≤ (m : Rat) := by rw [p2_nat]; exact Rat.natCast_le_natCast.2 (log2_spec m h).1
    have h4 := Rat.mul_le_mul_of_nonneg_left h3 (Rat.le_of_lt (p2_pos p))
    have h5 := Rat.mul_le_mul_of_nonneg_left h4 (Rat.le_of_lt U_pos)
    have := ETA_pos
    grind
  · rw [h1.1]
    have := Rat.mul_nonneg (Rat.le_of_lt U_pos) hm
    show ETA ≤ _
    grind

/-- WHAT IS WRITTEN, IF FINITE, IS CLOSE TO WHAT WAS MEANT. -/
theorem write_err (s : Bool) (m : Nat) (p : Int) (hf : fin (D64.write (.number s m p)) = true) :
    (val (D64.write (.number s m p)) - dat s m p).abs ≤ U * (dat s m p).abs + ETA := by
  by_cases h : m = 0
  · subst h
    have e : D64.write (.number s 0 p) = D64.word s 0 := by
      show D64.nearest s 0 p = _; unfold Format.nearest; rw [if_pos rfl]
    rw [e, (word_zero s).1, dat_zero]
    have := ETA_pos
    have e1 : ((0 : Rat) - 0).abs = 0 := by decide +kernel
    have e2 : (0 : Rat).abs = 0 := by decide +kernel
    rw [e1, e2]
    grind
  · have h1 := (nearest_err s m p h hf).1
    have h2 := half_unit m p h
    rw [dat_abs]
    exact Rat.le_trans h1 h2

/-! SUMS -/
theorem signed_val (s : Bool) (m k : Nat) (p : Int) : ((signed s m k : Int) : Rat) * p2 p = dat s m (p + k) := by
  unfold signed dat
  cases s
  · simp only [Bool.false_eq_true, if_false, sgn]
    rw [Nat.shiftLeft_eq, Rat.intCast_natCast, Rat.natCast_mul, ← p2_nat, p2_add]
    grind
  · simp only [if_true, sgn]
    rw [Nat.shiftLeft_eq, Rat.intCast_neg, Rat.intCast_natCast, Rat.natCast_mul, ← p2_nat, p2_add]
    grind

theorem natAbs_val (z : Int) (b : Bool) (hb : z ≠ 0 → b = decide (z < 0)) (p : Int) : dat b z.natAbs p = (z : Rat) * p2 p := by
  unfold dat
  rcases Int.lt_trichotomy z 0 with h | h | h
  · rw [hb (by omega), decide_eq_true h]
    have e : (z : Rat) = -((z.natAbs : Nat) : Rat) := by
      have : z = -((z.natAbs : Nat) : Int) := by omega
      rw [← Rat.intCast_natCast, ← Rat.intCast_neg, ← this]
    rw [e]; simp only [sgn, if_true]; grind
  · subst h; simp
  · rw [hb (by omega), decide_eq_false (by omega)]
    have e : (z : Rat) = ((z.natAbs : Nat) : Rat) := by
      have : z = ((z.natAbs : Nat) : Int) := by omega
      rw [← Rat.intCast_natCast, ← this]
    rw [e]; simp only [sgn, Bool.false_eq_true, if_false]; grind

theorem sum_val {s t : Bool} {m n : Nat} {i j : Int} : ∃ c z b, (Datum.number s m i).sum (.number t n j) = some (.number c z b) ∧ dat c z b = dat s m i + dat t n j := by
  refine ⟨_, _, _, rfl, ?_⟩
  rw [natAbs_val _ _ (by intro h; simp [h])]
  rw [Rat.intCast_add, Rat.add_mul, signed_val, signed_val]
  congr 2 <;> omega

theorem fin_getD {o : Option Datum} (h : fin ((o.map D64.write).getD QN) = true) (hn : ∀ d, o = some d → d.isNaN = false) : ∃ s m p, o = some (.number s m p) := by
  cases o with
  | none => simp only [Option.map, Option.getD, fin_QN] at h; cases h
  | some d =>
    cases d with
    | number s m p => exact ⟨s, m, p, rfl⟩
    | infinity s => simp only [Option.map, Option.getD, fin_inf] at h; cases h
    | nan s t => have := hn _ rfl; cases this
theorem sum_number {d e : Datum} {s : Bool} {m : Nat} {p : Int} (h : d.sum e = some (.number s m p)) : (∃ a b c, d = .number a b c) ∧ (∃ a b c, e = .number a b c) := by
  cases d <;> cases e <;> simp only [Datum.sum] at h <;> first | exact ⟨⟨_, _, _, rfl⟩, ⟨_, _, _, rfl⟩⟩ | cases h | (split at h <;> cases h)
theorem product_number {d e : Datum} {s : Bool} {m : Nat} {p : Int} (h : d.product e = some (.number s m p)) : (∃ a b c, d = .number a b c) ∧ (∃ a b c, e = .number a b c) := by
  cases d <;> cases e <;> simp only [Datum.product] at h <;> first | exact ⟨⟨_, _, _, rfl⟩, ⟨_, _, _, rfl⟩⟩ | cases h | (split at h <;> cases h)
theorem opposite_number {d : Datum} {s : Bool} {m : Nat} {p : Int} (h : d.opposite = .number s m p) : ∃ a b c, d = .number a b c := by
  cases d <;> simp only [Datum.opposite] at h <;> first | exact ⟨_, _, _, rfl⟩ | cases h

theorem fadd_fin {x y : Nat} (h : fin (fadd x y) = true) : fin x = true ∧ fin y = true := by
  obtain ⟨s, m, p, ho⟩ := fin_getD h (fun d hd => sum_notnan hd)
  obtain ⟨h1, h2⟩ := sum_number ho
  exact ⟨(fin_iff _).2 h1, (fin_iff _).2 h2⟩

theorem fadd_read {x y : Nat} (hx : fin x = true) (hy : fin y = true) : ∃ c z b, fadd x y = D64.write (.number c z b) ∧ dat c z b = val x + val y := by
  obtain ⟨s, m, p, hx⟩ := (fin_iff x).1 hx
  obtain ⟨s', m', p', hy⟩ := (fin_iff y).1 hy
  obtain ⟨c, z, b, h1, h2⟩ := sum_val (s := s) (t := s') (m := m) (n := m') (i := p) (j := p')
  refine ⟨c, z, b, ?_, ?_⟩
  · unfold fadd Format.add; rw [hx, hy, h1]; rfl
  · rw [h2, val_of hx, val_of hy]

theorem fadd_err {x y : Nat} (h : fin (fadd x y) = true) : (val (fadd x y) - (val x + val y)).abs ≤ U * (val x + val y).abs + ETA := by
  obtain ⟨hx, hy⟩ := fadd_fin h
  obtain ⟨c, z, b, h1, h2⟩ := fadd_read hx hy
  rw [h1] at h ⊢
  rw [← h2]
  exact write_err c z b h

/-! PRODUCTS -/
theorem natCast_mul' (m n : Nat) : ((m * n : Nat) : Rat) = (m : Rat) * n := Rat.natCast_mul m n
theorem sgn_xor (s t : Bool) : sgn (s ^^ t) = sgn s * sgn t := by cases s <;> cases t <;> decide +kernel
theorem product_val (s t : Bool) (m n : Nat) (i j : Int) : dat (s ^^ t) (m * n) (i + j) = dat s m i * dat t n j := by
  unfold dat
  rw [natCast_mul', p2_add, sgn_xor]
  grind

theorem fmul_fin {x y : Nat} (h : fin (fmul x y) = true) : fin x = true ∧ fin y = true := by
  obtain ⟨s, m, p, ho⟩ := fin_getD h (fun d hd => product_notnan hd)
  obtain ⟨h1, h2⟩ := product_number ho
  exact ⟨(fin_iff _).2 h1, (fin_iff _).2 h2⟩

theorem fmul_read {x y : Nat} (hx : fin x = true) (hy : fin y = true) : ∃ c z b, fmul x y = D64.write (.number c z b) ∧ dat c z b = val x * val y := by
  obtain ⟨s, m, p, hx⟩ := (fin_iff x).1 hx
  obtain ⟨s', m', p', hy⟩ := (fin_iff y).1 hy
  refine ⟨s ^^ s', m * m', p + p', ?_, ?_⟩
  · unfold fmul Format.mul; rw [hx, hy]; rfl
  · rw [product_val, val_of hx, val_of hy]

theorem fmul_err {x y : Nat} (h : fin (fmul x y) = true) : (val (fmul x y) - val x * val y).abs ≤ U * (val x * val y).abs + ETA := by
  obtain ⟨hx, hy⟩ := fmul_fin h
  obtain ⟨c, z, b, h1, h2⟩ := fmul_read hx hy
  rw [h1] at h ⊢
  rw [← h2]
  exact write_err c z b h

/-! DIFFERENCES: y's sign turned. -/
theorem dat_not (s : Bool) (m : Nat) (p : Int) : dat (!s) m p = - dat s m p := by
  unfold dat
  cases s <;> simp only [sgn, Bool.not_true, Bool.not_false, Bool.false_eq_true, if_true, if_false] <;> grind
theorem fsub_fin {x y : Nat} (h : fin (fsub x y) = true) : fin x = true ∧ fin y = true := by
  obtain ⟨s, m, p, ho⟩ := fin_getD h (fun d hd => sum_notnan hd)
  obtain ⟨h1, a, b, c, h2⟩ := sum_number ho
  exact ⟨(fin_iff _).2 h1, (fin_iff _).2 (opposite_number h2)⟩
theorem fsub_read {x y : Nat} (hx : fin x = true) (hy : fin y = true) : ∃ c z b, fsub x y = D64.write (.number c z b) ∧ dat c z b = val x - val y := by
  obtain ⟨s, m, p, hx⟩ := (fin_iff x).1 hx
  obtain ⟨s', m', p', hy⟩ := (fin_iff y).1 hy
  obtain ⟨c, z, b, h1, h2⟩ := sum_val (s := s) (t := !s') (m := m) (n := m') (i := p) (j := p')
  refine ⟨c, z, b, ?_, ?_⟩
  · unfold fsub Format.sub; rw [hx, hy]; simp only [Datum.opposite]; rw [h1]; rfl
  · rw [h2, val_of hx, val_of hy, dat_not]; grind
theorem fsub_err {x y : Nat} (h : fin (fsub x y) = true) : (val (fsub x y) - (val x - val y)).abs ≤ U * (val x - val y).abs + ETA := by
  obtain ⟨hx, hy⟩ := fsub_fin h
  obtain ⟨c, z, b, h1, h2⟩ := fsub_read hx hy
  rw [h1] at h ⊢
  rw [← h2]
  exact write_err c z b h

end Sedge
end
section
/-
  Plain laws on the reference's digits: lists of 16 bits, what they are worth.
-/
set_option linter.unusedSimpArgs false
set_option linter.unusedVariables false
namespace Sedge
open Ieee

def dv : List Nat → Nat
  | [] => 0
  | d :: l => d + 65536 * dv l
theorem dv_append : ∀ (a b : List Nat), dv (a ++ b) = dv a + 65536 ^ a.length * dv b
  | [], b => by simp [dv]
  | d :: a, b => by
    show d + 65536 * dv (a ++ b) = d + 65536 * dv a + 65536 ^ (a.length + 1) * dv b
    rw [dv_append a b, Nat.pow_succ, Nat.mul_add, Nat.mul_comm (65536 ^ a.length) 65536, Nat.mul_assoc]; omega
def Dg (l : List Nat) : Prop := ∀ d ∈ l, d < 65536
theorem Dg.nil : Dg [] := fun d h => by cases h
theorem Dg.tail {d : Nat} {l : List Nat} (h : Dg (d :: l)) : Dg l := fun x hx => h x (List.mem_cons_of_mem _ hx)
theorem Dg.append {a b : List Nat} (h : Dg a) (k : Dg b) : Dg (a ++ b) := fun x hx => by
  rcases List.mem_append.1 hx with hx | hx
  · exact h x hx
  · exact k x hx
theorem Dg.one {d : Nat} (h : d < 65536) : Dg [d] := fun x hx => by simp at hx; omega
theorem Dg.get {l : List Nat} (h : Dg l) (i : Nat) : l.getD i 0 < 65536 := by
  rw [List.getD_eq_getElem?_getD]
  by_cases hi : i < l.length
  · rw [List.getElem?_eq_getElem hi]; exact h _ (List.getElem_mem hi)
  · rw [List.getElem?_eq_none (by omega)]; decide
theorem Dg.set {l : List Nat} (h : Dg l) (i : Nat) {x : Nat} (hx : x < 65536) : Dg (l.set i x) := fun d hd => by
  rcases List.mem_or_eq_of_mem_set hd with hd | hd
  · exact h d hd
  · omega
theorem Dg.replicate (n : Nat) : Dg (List.replicate n 0) := fun d hd => by rw [List.eq_of_mem_replicate hd]; decide
theorem Dg.dropLast {l : List Nat} (h : Dg l) : Dg l.dropLast := fun d hd => h d (List.dropLast_subset l hd)
theorem dv_lt : ∀ {l : List Nat}, Dg l → dv l < 65536 ^ l.length
  | [], _ => by simp [dv]
  | d :: l, h => by
    have h1 := dv_lt h.tail
    have h2 := h d (List.mem_cons_self ..)
    show d + 65536 * dv l < 65536 ^ (l.length + 1)
    rw [Nat.pow_succ]; omega
theorem dv_replicate : ∀ n, dv (List.replicate n 0) = 0
  | 0 => rfl
  | n + 1 => by show 0 + 65536 * dv (List.replicate n 0) = 0; rw [dv_replicate n]
theorem dv_set : ∀ {l : List Nat} {i : Nat}, i < l.length → ∀ x, dv (l.set i x) + l.getD i 0 * 65536 ^ i = dv l + x * 65536 ^ i
  | [], i, h, x => by simp at h
  | d :: l, 0, h, x => by simp [dv]; omega
  | d :: l, i + 1, h, x => by
    have := dv_set (l := l) (i := i) (by simpa using h) x
    show d + 65536 * dv (l.set i x) + l.getD i 0 * 65536 ^ (i + 1) = d + 65536 * dv l + x * 65536 ^ (i + 1)
    rw [Nat.pow_succ, ← Nat.mul_assoc, ← Nat.mul_assoc]; omega
theorem dv_get_le : ∀ (l : List Nat) (i : Nat), l.getD i 0 * 65536 ^ i ≤ dv l
  | [], i => by simp
  | d :: l, 0 => by simp [dv]
  | d :: l, i + 1 => by
    have := dv_get_le l i
    show l.getD i 0 * 65536 ^ (i + 1) ≤ d + 65536 * dv l
    rw [Nat.pow_succ, ← Nat.mul_assoc]; omega
theorem dv_pos {l : List Nat} (h : l ≠ []) (hl : l.getLast h ≠ 0) : dv l ≠ 0 := by
  intro h0
  have h1 := dv_get_le l (l.length - 1)
  rw [h0] at h1
  have hlen : 0 < l.length := List.length_pos_iff.2 h
  have e : l.getD (l.length - 1) 0 = l.getLast h := by
    rw [List.getLast_eq_getElem, List.getD_eq_getElem?_getD, List.getElem?_eq_getElem (by omega)]; rfl
  rw [e] at h1
  have : 0 < 65536 ^ (l.length - 1) := Nat.pow_pos (by decide)
  have h2 : 0 < l.getLast h * 65536 ^ (l.length - 1) := Nat.mul_pos (by omega) this
  omega
theorem dv_nil_or {l : List Nat} (h : ∀ h : l ≠ [], l.getLast h ≠ 0) (h0 : dv l = 0) : l = [] := Decidable.byContradiction fun hn => dv_pos hn (h hn) h0
theorem dv_dropLast {l : List Nat} (h : l ≠ []) (hl : l.getLast h = 0) : dv l.dropLast = dv l := by
  have := dv_append l.dropLast [l.getLast h]
  rw [List.dropLast_concat_getLast] at this
  rw [this, hl]; simp [dv]

/-- The sum of so many digits. -/
def ds (f : Nat → Nat) : Nat → Nat
  | 0 => 0
  | k + 1 => ds f k + f k * 65536 ^ k
theorem ds_congr {f g : Nat → Nat} : ∀ {n : Nat}, (∀ k, k < n → f k = g k) → ds f n = ds g n
  | 0, _ => rfl
  | n + 1, h => by
    unfold ds
    rw [ds_congr (fun k hk => h k (by omega)), h n (by omega)]
theorem ds_lt {f : Nat → Nat} (h : ∀ k, f k < 65536) : ∀ n, ds f n < 65536 ^ n
  | 0 => by simp [ds]
  | n + 1 => by
    have h1 := ds_lt h n
    have h2 := h n
    unfold ds
    rw [Nat.pow_succ]
    have : f n * 65536 ^ n ≤ 65535 * 65536 ^ n := Nat.mul_le_mul_right _ (by omega)
    omega
theorem ds_succ' (f : Nat → Nat) : ∀ n, ds f (n + 1) = f 0 + 65536 * ds (fun k => f (k + 1)) n
  | 0 => by simp [ds]
  | n + 1 => by
    have := ds_succ' f n
    show ds f (n + 1) + f (n + 1) * 65536 ^ (n + 1) = f 0 + 65536 * (ds (fun k => f (k + 1)) n + f (n + 1) * 65536 ^ n)
    rw [this, Nat.pow_succ, Nat.mul_add, Nat.mul_left_comm 65536, Nat.mul_comm 65536 (65536 ^ n)]
    omega
theorem ds_list : ∀ (l : List Nat), ds (fun k => l.getD k 0) l.length = dv l
  | [] => rfl
  | d :: l => by
    show ds _ (l.length + 1) = _
    rw [ds_succ']
    have := ds_list l
    show d + 65536 * ds (fun k => l.getD k 0) l.length = _
    rw [this]; rfl
theorem ds_zero {f : Nat → Nat} {n : Nat} (h : ∀ k, k < n → f k = 0) : ds f n = 0 := by
  rw [ds_congr h]
  clear h
  induction n with
  | zero => rfl
  | succ n ih => unfold ds; rw [ih]; simp
theorem ds_add (f : Nat → Nat) (a : Nat) : ∀ b, ds f (a + b) = ds f a + 65536 ^ a * ds (fun k => f (a + k)) b
  | 0 => by simp [ds]
  | b + 1 => by
    show ds f (a + b) + f (a + b) * 65536 ^ (a + b) = ds f a + 65536 ^ a * (ds (fun k => f (a + k)) b + f (a + b) * 65536 ^ b)
    rw [ds_add f a b, Nat.mul_add, Nat.pow_add, Nat.mul_left_comm]; omega
/-- The digit of a place. -/
def digAt (l : List Nat) (E p : Int) : Nat := if p < E ∨ E + l.length ≤ p then 0 else l.getD (p - E).toNat 0
theorem digAt_lt {l : List Nat} (h : Dg l) (E p : Int) : digAt l E p < 65536 := by
  unfold digAt; split
  · decide
  · exact h.get _
theorem ds_digAt {l : List Nat} {E F : Int} {n : Nat} (h1 : F ≤ E) (h2 : E + l.length ≤ F + n) : ds (fun k => digAt l E (F + k)) n = 65536 ^ (E - F).toNat * dv l := by
  obtain ⟨a, ha⟩ : ∃ a : Nat, a = (E - F).toNat := ⟨_, rfl⟩
  obtain ⟨c, hc⟩ : ∃ c : Nat, c = n - a - l.length := ⟨_, rfl⟩
  have en : n = a + (l.length + c) := by omega
  rw [en, ds_add, ds_add, ← ha]
  rw [ds_zero (f := fun k => digAt l E (F + k)) (n := a) (fun k hk => by unfold digAt; rw [if_pos (by omega)])]
  rw [ds_zero (n := c) (fun k hk => by show digAt l E (F + _) = 0; unfold digAt; rw [if_pos (by omega)])]
  rw [ds_congr (g := fun k => l.getD k 0) (n := l.length) (fun k hk => by
    show digAt l E (F + ((a + k : Nat) : Int)) = _
    unfold digAt; rw [if_neg (by omega)]; congr 1; omega)]
  rw [ds_list]; simp
theorem ds_digAt_nil {E F : Int} {n : Nat} : ds (fun k => digAt [] E (F + k)) n = 0 := ds_zero fun k _ => by
  unfold digAt; split <;> simp
theorem p2_pow16 (n : Nat) : ((65536 ^ n : Nat) : Rat) = p2 (16 * n) := by
  have : (65536 : Nat) ^ n = 2 ^ (16 * n) := by rw [Nat.pow_mul]
  rw [this, ← p2_nat]; congr 1
/-- What is worth the digits of places from F on. -/
theorem ds_worth {l : List Nat} {E F : Int} {n : Nat} (h : l = [] ∨ F ≤ E ∧ E + l.length ≤ F + n) : (ds (fun k => digAt l E (F + k)) n : Rat) * p2 (16 * F) = (dv l : Rat) * p2 (16 * E) := by
  rcases h with rfl | ⟨h1, h2⟩
  · rw [ds_digAt_nil]; simp [dv]
  · rw [ds_digAt h1 h2, Rat.natCast_mul, p2_pow16]
    have : p2 (16 * E) = p2 (16 * ((E - F).toNat : Nat)) * p2 (16 * F) := by rw [← p2_add]; congr 1; omega
    rw [this]; grind
/-- The highest digit that differs decides. -/
theorem ds_less {f g : Nat → Nat} (hf : ∀ k, f k < 65536) {p n : Nat} (hp : p < n) (h : f p < g p) (he : ∀ k, p < k → k < n → f k = g k) : ds f n < ds g n := by
  obtain ⟨c, rfl⟩ : ∃ c, n = p + 1 + c := ⟨n - (p + 1), by omega⟩
  rw [ds_add f (p + 1) c, ds_add g (p + 1) c, ds_congr (f := fun k => f (p + 1 + k)) (g := fun k => g (p + 1 + k)) (fun k hk => he _ (by omega) (by omega))]
  refine Nat.add_lt_add_right ?_ _
  unfold ds
  have h1 := ds_lt hf p
  have h2 : (f p + 1) * 65536 ^ p ≤ g p * 65536 ^ p := Nat.mul_le_mul_right _ h
  rw [Nat.add_mul] at h2
  omega
/-- One step of a product's row. -/
theorem mul_step {l : List Nat} {i c a b : Nat} (hi : i < l.length) :
    dv (l.set i ((c + a * b + l.getD i 0) % 65536)) + (c + a * b + l.getD i 0) / 65536 * 65536 ^ (i + 1) = dv l + c * 65536 ^ i + a * b * 65536 ^ i := by
  have h1 := dv_set hi ((c + a * b + l.getD i 0) % 65536)
  have h2 := Nat.div_add_mod (c + a * b + l.getD i 0) 65536
  generalize (c + a * b + l.getD i 0) / 65536 = q at *
  generalize (c + a * b + l.getD i 0) % 65536 = m at *
  rw [Nat.pow_succ]
  generalize 65536 ^ i = P at *
  have h3 : (65536 * q + m) * P = (c + a * b + l.getD i 0) * P := by rw [h2]
  rw [Nat.add_mul, Nat.add_mul, Nat.add_mul, Nat.mul_assoc] at h3
  rw [Nat.mul_comm P 65536, Nat.mul_left_comm q]
  omega
theorem mul_carry {c a b d : Nat} (hc : c < 65536) (ha : a < 65536) (hb : b < 65536) (hd : d < 65536) : c + a * b + d < 4294967296 ∧ (c + a * b + d) / 65536 < 65536 := by
  have : a * b ≤ 65535 * 65535 := Nat.mul_le_mul (by omega) (by omega)
  omega
/-- One step of a shift. -/
theorem shift_step {l : List Nat} {i d r : Nat} (hi : i + 1 < l.length) (hl : Dg l) (hd : d < 65536) (hr : r < 16) (h0 : l.getD i 0 < 2 ^ r) (hz : ∀ k, i < k → l.getD k 0 = 0) :
    dv ((l.set i (l.getD i 0 + d * 2 ^ r % 65536)).set (i + 1) (d * 2 ^ r / 65536)) = dv l + d * 2 ^ r * 65536 ^ i ∧ Dg ((l.set i (l.getD i 0 + d * 2 ^ r % 65536)).set (i + 1) (d * 2 ^ r / 65536)) ∧
    ((l.set i (l.getD i 0 + d * 2 ^ r % 65536)).set (i + 1) (d * 2 ^ r / 65536)).getD (i + 1) 0 < 2 ^ r ∧ ∀ k, i + 1 < k → ((l.set i (l.getD i 0 + d * 2 ^ r % 65536)).set (i + 1) (d * 2 ^ r / 65536)).getD k 0 = 0 := by
  have e : 2 ^ r * 2 ^ (16 - r) = 65536 := by rw [← Nat.pow_add, show r + (16 - r) = 16 by omega]
  have hg : 0 < 2 ^ r := Nat.two_pow_pos r
  have hh : 0 < 2 ^ (16 - r) := Nat.two_pow_pos _
  have hm : l.getD i 0 + d * 2 ^ r % 65536 < 65536 := by
    have h1 : d * 2 ^ r % 65536 = 2 ^ r * (d % 2 ^ (16 - r)) := by rw [← e, Nat.mul_comm d, Nat.mul_mod_mul_left]
    have h2 := Nat.mod_lt d hh
    have h3 : 2 ^ r * (d % 2 ^ (16 - r) + 1) ≤ 2 ^ r * 2 ^ (16 - r) := Nat.mul_le_mul_left _ h2
    rw [Nat.mul_add, e] at h3
    omega
  have hq : d * 2 ^ r / 65536 < 2 ^ r := by
    rw [Nat.div_lt_iff_lt_mul (by decide), Nat.mul_comm]
    exact Nat.mul_lt_mul_of_pos_left hd hg
  have hr2 : 2 ^ r ≤ 32768 := by
    have := Nat.pow_le_pow_right (n := 2) (by decide) (show r ≤ 15 by omega)
    omega
  refine ⟨?_, (hl.set _ hm).set _ (by omega), ?_, ?_⟩
  · have s1 := dv_set (l := l) (i := i) (by omega) (l.getD i 0 + d * 2 ^ r % 65536)
    have s2 := dv_set (l := l.set i (l.getD i 0 + d * 2 ^ r % 65536)) (i := i + 1) (by simpa using hi) (d * 2 ^ r / 65536)
    have e2 : (l.set i (l.getD i 0 + d * 2 ^ r % 65536)).getD (i + 1) 0 = 0 := by
      rw [List.getD_eq_getElem?_getD, List.getElem?_set_ne (by omega), ← List.getD_eq_getElem?_getD]
      exact hz _ (by omega)
    rw [e2] at s2
    have hdm := Nat.div_add_mod (d * 2 ^ r) 65536
    generalize d * 2 ^ r / 65536 = q at *
    generalize d * 2 ^ r % 65536 = m at *
    generalize d * 2 ^ r = T at *
    rw [Nat.pow_succ] at s2
    subst hdm
    rw [Nat.add_mul, Nat.mul_assoc, Nat.mul_left_comm]
    rw [Nat.add_mul] at s1
    rw [Nat.mul_comm (65536 ^ i) 65536, Nat.mul_left_comm q] at s2
    rw [Nat.mul_left_comm q] 
    omega
  · rw [List.getD_eq_getElem?_getD, List.getElem?_set, if_pos rfl, if_pos (by simpa using hi)]
    exact hq
  · intro k hk
    rw [List.getD_eq_getElem?_getD, List.getElem?_set_ne (by omega), List.getElem?_set_ne (by omega), ← List.getD_eq_getElem?_getD]
    exact hz _ (by omega)
end Sedge
end
section
/-
  Slices of digits: how they read; blocks of them that may be written; appends, make.
-/
set_option linter.unusedSimpArgs false
set_option linter.unusedVariables false
namespace Sedge
open Go Go.RowKit

theorem Grew.same_o {X : World} {o : Array Obj} {n n' : Nat} : Grew (Sedge.ext X o n) (Sedge.ext X o n') := ⟨#[], n', by simp⟩
theorem Grew.app_o {X : World} {o o' : Array Obj} {n n' : Nat} : Grew (Sedge.ext X o n) (Sedge.ext X (o ++ o') n') := ⟨o', n', by simp⟩
/-- The slice v reads, in w, as the digits l. -/
def NS (w : World) (v : Value) (l : List Nat) : Prop :=
  ∃ a cap, v = .slice a l.length cap ∧ l.length ≤ cap ∧ ∀ i, i < l.length → ∃ blk o, a = some ⟨blk, o, none⟩ ∧ w.cell? ⟨blk, o + i, none⟩ = some (.int .i64 (l.getD i 0 : Nat))
theorem NS.shape {w : World} {v : Value} {l : List Nat} (h : NS w v l) : ∃ a cap, v = .slice a l.length cap := by
  obtain ⟨a, cap, rfl, _⟩ := h; exact ⟨a, cap, rfl⟩
theorem NS.at {w : World} {a : Option Addr} {n cap : Nat} {l : List Nat} (h : NS w (.slice a n cap) l) : n = l.length ∧ n ≤ cap ∧ (0 < l.length → ∃ blk o, a = some ⟨blk, o, none⟩ ∧ blk < w.heap.size ∧
      ∀ i, i < l.length → w.cell? ⟨blk, o + i, none⟩ = some (.int .i64 (l.getD i 0 : Nat))) := by
  obtain ⟨a', cap', e, h0, hc⟩ := h
  cases e
  refine ⟨rfl, h0, fun hn => ?_⟩
  obtain ⟨blk, o, rfl, h1⟩ := hc 0 hn
  refine ⟨blk, o, rfl, World.block_lt_of_cell? w _ h1, fun i hi => ?_⟩
  obtain ⟨blk', o', he, h1'⟩ := hc i hi
  cases he
  exact h1'
theorem NS.open {w : World} {v : Value} {l : List Nat} (h : NS w v l) (hn : 0 < l.length) :
    ∃ blk o cap, v = .slice (some ⟨blk, o, none⟩) l.length cap ∧ blk < w.heap.size ∧ l.length ≤ cap ∧
      ∀ i, i < l.length → w.cell? ⟨blk, o + i, none⟩ = some (.int .i64 (l.getD i 0 : Nat)) := by
  obtain ⟨a, cap, rfl⟩ := h.shape
  obtain ⟨blk, o, rfl, h1, h2⟩ := h.at.2.2 hn
  exact ⟨blk, o, cap, rfl, h1, h.at.2.1, h2⟩
theorem NS.same {w w' : World} {v : Value} {l : List Nat} (h : NS w v l) (hs : ∀ a : Addr, a.block < w.heap.size → w'.cell? a = w.cell? a) : NS w' v l := by
  obtain ⟨a, cap, hv, h0, hc⟩ := h
  refine ⟨a, cap, hv, h0, fun i hi => ?_⟩
  obtain ⟨blk, o, he, h1⟩ := hc i hi
  exact ⟨blk, o, he, by rw [hs _ (World.block_lt_of_cell? w _ h1)]; exact h1⟩
theorem NS.below {w w' : World} {v : Value} {l : List Nat} (h : NS w v l) (hb : Below w.heap.size w w') : NS w' v l := h.same fun _ ha => hb.cell ha
theorem NS.grew {w w' : World} {v : Value} {l : List Nat} (h : NS w v l) (g : Grew w w') : NS w' v l := h.below g.below
theorem NS.ext {w : World} {v : Value} {l : List Nat} (h : NS w v l) (o : Array Obj) (n : Nat) : NS (ext w o n) v l := h.grew ⟨_, _, rfl⟩
theorem NS.alloc {w : World} {v : Value} {l : List Nat} (h : NS w v l) (o : Obj) : NS (w.alloc o) v l := h.grew ((Grew.refl _).alloc o)
theorem NS.nil (w : World) : NS w (.slice none 0 0) [] := ⟨none, 0, rfl, Nat.le_refl _, fun i hi => by simp at hi⟩
/-- Without the first. -/
theorem NS.tail {w : World} {blk o n cap d : Nat} {l : List Nat} (h : NS w (.slice (some ⟨blk, o, none⟩) n cap) (d :: l)) : NS w (.slice (some ⟨blk, o + 1, none⟩) (n - 1) (cap - 1)) l := by
  obtain ⟨a, c, e, h0, hc⟩ := h
  cases e
  refine ⟨_, _, rfl, by simp at h0; omega, fun i hi => ?_⟩
  obtain ⟨blk', o', he, h1⟩ := hc (i + 1) (by simp; omega)
  cases he
  exact ⟨blk, o + 1, rfl, by rw [show o + 1 + i = o + (i + 1) by omega]; exact h1⟩
theorem NS.tail' {w : World} {blk o n cap d : Nat} {l : List Nat} (h : NS w (.slice (some ⟨blk, o, none⟩) n cap) (d :: l)) : NS w (.slice (if cap = 1 then some ⟨blk, o, none⟩ else some ⟨blk, o + 1, none⟩) l.length (cap - 1)) l := by
  have hn := h.at.1
  have hc := h.at.2.1
  have e : n - 1 = l.length := by rw [hn]; simp
  have h1 := h.tail
  rw [e] at h1
  simp at hn
  by_cases h0 : cap = 1
  · rw [if_pos h0]
    have : l = [] := List.length_eq_zero_iff.1 (by omega)
    subst this
    exact ⟨_, _, rfl, Nat.zero_le _, fun i hi => by simp at hi⟩
  · rw [if_neg h0]; exact h1
theorem NS.dropLast {w : World} {a : Option Addr} {n cap : Nat} {l : List Nat} (h : NS w (.slice a n cap) l) : NS w (.slice a (n - 1) cap) l.dropLast := by
  obtain ⟨a', c, e, h0, hc⟩ := h
  cases e
  refine ⟨a, cap, by simp, by simp; omega, fun i hi => ?_⟩
  have hi' : i < l.length - 1 := by simpa using hi
  obtain ⟨blk', o', he, h1⟩ := hc i (by omega)
  refine ⟨blk', o', he, ?_⟩
  rw [h1]
  congr 2
  rw [List.getD_eq_getElem?_getD, List.getD_eq_getElem?_getD, List.getElem?_dropLast, if_pos hi']

/-- The cells of digits. -/
def ia (l : List Nat) : Array Value := (l.map fun d : Nat => Value.int .i64 d).toArray
@[simp] theorem ia_size (l : List Nat) : (ia l).size = l.length := by simp [ia]
theorem ia_get (l : List Nat) {i : Nat} (h : i < l.length) : (ia l)[i]? = some (.int .i64 (l.getD i 0 : Nat)) := by
  simp [ia, List.getD_eq_getElem?_getD, h]
theorem ia_set (l : List Nat) (i d : Nat) : (ia l).setIfInBounds i (.int .i64 (d : Nat)) = ia (l.set i d) := by
  unfold ia; rw [List.setIfInBounds_toArray, List.map_set]
/-- Block b holds the digits l and no more; it may be written. -/
def IB (w : World) (b : Nat) (l : List Nat) : Prop := ∃ e, w.heap[b]? = some (.cells (ia l) e (0, 0))
section
variable {w : World} {b : Nat} {l : List Nat}
theorem IB.lt (h : IB w b l) : b < w.heap.size := by
  obtain ⟨e, h1⟩ := h
  exact (Array.getElem?_eq_some_iff.1 h1).1
theorem IB.notFrozen (h : IB w b l) (i : Nat) : w.frozen? ⟨b, i, none⟩ = false := by
  obtain ⟨e, h1⟩ := h
  unfold World.frozen?
  simp only [h1]
  simp
theorem IB.self (h : IB w b l) : upd w b (ia l) = w := by
  obtain ⟨e, h1⟩ := h
  unfold upd
  cases w with | mk hp tp dr os' out => ?_
  simp only [World.mk.injEq, true_and, and_true] at *
  apply Array.ext_getElem?
  intro i
  rw [Array.getElem?_modify]
  split
  · rename_i he; subst he; rw [h1]; rfl
  · rfl
theorem IB.cells (h : IB w b l) (cs : Array Value) (i : Nat) : (upd w b cs).cell? ⟨b, i, none⟩ = cs[i]? := by
  obtain ⟨e, h1⟩ := h
  unfold World.cell?
  simp only [block_upd h1]
  simp
theorem IB.get (h : IB w b l) {l' : List Nat} {i : Nat} (hi : i < l'.length) : (upd w b (ia l')).cell? ⟨b, i, none⟩ = some (.int .i64 (l'.getD i 0 : Nat)) := by rw [h.cells, ia_get _ hi]
theorem IB.mk' (h : IB w b l) (l' : List Nat) (o : Array Obj) (n : Nat) : IB (Sedge.ext (upd w b (ia l')) o n) b l' := by
  have hlt := h.lt
  obtain ⟨e, h1⟩ := h
  exact ⟨e, by rw [block_ext (by simpa using hlt), block_upd h1]⟩
theorem IB.ns (h : IB w b l) {cap : Nat} (hc : l.length ≤ cap) : NS w (.slice (some ⟨b, 0, none⟩) l.length cap) l := by
  obtain ⟨e, h1⟩ := h
  refine ⟨_, cap, rfl, hc, fun i hi => ⟨b, 0, rfl, ?_⟩⟩
  unfold World.cell?
  simp only [h1, Nat.zero_add]
  simpa using ia_get l hi
theorem IB.same {w' : World} (h : IB w b l) (hs : w'.heap[b]? = w.heap[b]?) : IB w' b l := by
  obtain ⟨e, h1⟩ := h
  exact ⟨e, hs.trans h1⟩
theorem IB.grew {w' : World} (h : IB w b l) (g : Grew w w') : IB w' b l := h.same (g.below.block b h.lt)
theorem IB.ext (h : IB w b l) (o : Array Obj) (n : Nat) : IB (Sedge.ext w o n) b l := h.grew ⟨_, _, rfl⟩
end
theorem NS.upd_ne {w : World} {v : Value} {l : List Nat} (h : NS w v l) {b : Nat} (hn : NotIn b v) (cs : Array Value) : NS (upd w b cs) v l := by
  obtain ⟨a, cap, hv, h0, hc⟩ := h
  refine ⟨a, cap, hv, h0, fun i hi => ?_⟩
  obtain ⟨blk, o, he, h1⟩ := hc i hi
  refine ⟨blk, o, he, ?_⟩
  rw [cell_upd_ne (by exact hn ⟨blk, o, none⟩ _ _ (by rw [hv, he]))]
  exact h1
/-- A slice that is there in w is none of a block that is not. -/
theorem NS.notIn {w : World} {v : Value} {l : List Nat} (h : NS w v l) (hl : l ≠ []) {b : Nat} (hb : w.heap.size ≤ b) : NotIn b v := by
  intro a n c e
  obtain ⟨blk, o, cap, e2, hlt, _⟩ := h.open (List.length_pos_iff.2 hl)
  rw [e] at e2
  have e3 := (Value.slice.inj e2).1
  cases e3
  show blk ≠ b
  omega

/-- The slice v of ours owns the digits l. -/
def OwnN (w : World) (B : Nat) (v : Value) (l : List Nat) : Prop := w.ownsRow B 3 1 v l.length (l.map fun d : Nat => Value.int .i64 d)
theorem OwnN.nil (w : World) (B : Nat) : OwnN w B (.slice none 0 0) [] := ⟨by simp, .inl ⟨rfl, rfl⟩⟩
theorem OwnN.grew {w w' : World} {B : Nat} {v : Value} {l : List Nat} (h : OwnN w B v l) (g : Grew w w') : OwnN w' B v l := by
  obtain ⟨h0, h1⟩ := h
  refine ⟨h0, ?_⟩
  rcases h1 with h1 | ⟨gg, cap, cur, hv, hB, hh, r⟩
  · exact .inl h1
  · have hlt : gg < w.heap.size := by
      rcases Nat.lt_or_ge gg w.heap.size with h | h
      · exact h
      · rw [Array.getElem?_eq_none h] at hh; cases hh
    exact .inr ⟨gg, cap, cur, hv, hB, by rw [g.below.block gg hlt]; exact hh, r⟩
theorem OwnN.ns {w : World} {B : Nat} {v : Value} {l : List Nat} (h : OwnN w B v l) : NS w v l := by
  obtain ⟨_, h1⟩ := h
  rcases h1 with ⟨rfl, h1⟩ | ⟨g, cap, cur, rfl, _, hh, hn, hm, hsz, ht⟩
  · have : l = [] := List.length_eq_zero_iff.1 h1
    subst this
    exact NS.nil w
  · refine ⟨some ⟨g, 0, none⟩, cap, rfl, hn, fun i hi => ⟨g, 0, rfl, ?_⟩⟩
    rw [Nat.mul_one] at ht
    have := take_getElem? (i := i) ht (by simpa using hi)
    simp only [World.cell?, hh, Nat.zero_add, Option.isSome_none, Bool.false_eq_true, if_false]
    rw [← Array.getElem?_toList, this]
    simp [List.getD_eq_getElem?_getD, hi]
theorem OwnN.block {w : World} {B : Nat} {v : Value} {l : List Nat} (h : OwnN w B v l) : ∀ k, v.ownBlock = some k → B ≤ k := by
  obtain ⟨_, h1⟩ := h
  intro k hk
  rcases h1 with ⟨rfl, _⟩ | ⟨g, cap, cur, rfl, hB, _⟩
  · simp [Value.ownBlock] at hk
  · simp [Value.ownBlock] at hk; omega
section
variable {P : Program} {ops : Array Oper} {rest : List Oper} {o : Oper} {a : Act} {Q : Exit → Act → World → Prop}
theorem append1_n {t e' : TypeId} {z0 : Value} (und : P.underlying t = some (.slice 3)) (info : (P.info? 3).map (fun i => (i.zero, i.size, i.bytes)) = some (some z0, 1, 8)) (hz0 : z0.cells.size = 1)
    {W w : World} (hW : Grew W w) {v : Value} {l : List Nat} (hown : OwnN w W.heap.size v l) {d : Nat} {di : Int} (hd : di = (d : Nat))
    (hlen : l.length < 17592186044415) (s x : Operand) (hg : o.guard = none)
    (ho : o.op = .call { callee := .builtin .append, args := #[s, x], argTypes := #[t, t] }) (hs : a.eval s = v) {k : Nat} (hk : k = w.heap.size) (hx : a.eval x = .slice (some ⟨k, 0, none⟩) 1 1)
    (h : ∀ v' oo nn, OwnN (ext W oo nn) W.heap.size v' (l ++ [d]) → wpList P ops Q rest (a.put o.dst v') (ext W oo nn)) :
    wpList P ops Q (o :: rest) a (w.alloc (.cells #[.int .i64 di] e')) := by
  subst hd
  refine append1_v und info hz0 hW (xs := l.map fun d : Nat => Value.int .i64 d) (by simpa [OwnN] using hown) rfl (by simpa using hlen) s x hg ho hs hk hx ?_
  intro v' oo nn h1 _
  exact h v' oo nn (by simpa [OwnN] using h1)
/-- 'make([]int, n)'. -/
theorem make_n {t : TypeId} (und : P.underlying t = some (.slice 3)) (info : (P.info? 3).map (fun i => (i.zero, i.size, i.bytes)) = some (some (.int .i64 0), 1, 8)) {W w : World} (hW : Grew W w) (x c : Operand) (hg : o.guard = none) (hop : o.op = Op.makeSlice t x c) (n : Nat) {L : Int} (hL : L = n) (hl : a.eval x = .int .i64 L) (hc : a.eval c = .int .i64 L)
    (hn : n ≤ 17592186044415)
    (h : ∀ oo nn k, W.heap.size ≤ k → IB (ext W oo nn) k (List.replicate n 0) → wpList P ops Q rest (a.put o.dst (.slice (some ⟨k, 0, none⟩) n n)) (ext W oo nn)) :
    wpList P ops Q (o :: rest) a w := by
  obtain ⟨i0, hi, hz⟩ := Option.map_eq_some_iff.1 info
  simp only [Prod.mk.injEq] at hz
  obtain ⟨hz0, hz1, hz2⟩ := hz
  refine wpList_make_full w hg x c t hop W.heap.size 3 i0 (.int .i64 0) 1 und hi hz0 hz1 .i64 .i64 L L n hl hc hL hL (by rw [hz2]; omega) (by simp [maxLen]; omega) hW.below.size ?_
  intro w' ho hgr
  obtain ⟨oo, nn, rfl⟩ := grew_grown hW hgr (fun k hk => by cases hk)
  refine h oo nn _ hW.below.size ?_
  obtain ⟨_, h1⟩ := ho
  rcases h1 with ⟨h1, _⟩ | ⟨g, cap, cur, he, _, hh, _, _, hsz, ht⟩
  · cases h1
  · cases he
    refine ⟨3, ?_⟩
    rw [hh]
    congr 2
    apply Array.toList_inj.1
    have e0 : cur.toList.length = n * 1 := by simpa using hsz
    rw [List.take_of_length_le (by omega)] at ht
    rw [ht]
    apply List.ext_getElem?
    intro k
    simp [madeCells, Value.cells, Nat.mod_one, ia]
    by_cases hk : k < n <;> simp [hk]
end
end Sedge
end
section
/-
  Contracts: the reference's bounds (layer 22).
-/
set_option linter.unusedSimpArgs false
set_option linter.unusedVariables false
open Go Go.RowKit Sedge Ieee
namespace Go.Proofs.Ytcmggfpcbijcjaa
set_option maxRecDepth 100000 in
set_option maxHeartbeats 2000000 in
/-- straightedgeref22.Bounds. -/
theorem rbounds_any (X Y : Value) (L M : List Nat) (w : World) (hX : FS w X L) (hY : FS w Y M) (hl : L.length ≤ 1000000) (hlm : M.length = L.length) :
   Calls Try.prog 93 #[X, Y] w (fun e w' => ∃ v, e = .returned v ∧ OwnF 22 w' w.heap.size v (bndL L M) ∧ ∃ o n, w' = ext w o n) := by
  obtain ⟨aX, cX, rfl⟩ := hX.shape
  obtain ⟨aY, cY, rfl⟩ := hY.shape
  obtain ⟨N, hN⟩ : ∃ N, N = L.length := ⟨_, rfl⟩
  rw [hlm] at hY ⊢
  rw [← hN] at hX hY hl ⊢
  have r1 : IntKind.i64.wrap ((N : Int) + 3) = N + 3 := IntWalk.i64_in _ (by omega)
  obtain ⟨g, hg⟩ : ∃ g, g = gF N := ⟨_, rfl⟩
  have g1 : floatOfInt .f64 ((N : Int) + 3) = g := hg.symm
  have hgF : IsF g g := by rw [hg]; exact gF_isF N
  have HG := hid hg
  have HLM := hid hlm
  have HNN := hid hN
  clear hg hlm hN
  go_enter Try.func93, Try.ntmps93
  go_wp2
  go_loopw [5, 7] (fun v c wr => ∃ (i : Nat) (o : Array Obj) (n : Nat), i ≤ N ∧ c = .int .i64 i ∧ wr = ext w o n ∧ OwnF 22 wr w.heap.size v (bndTo L M i)) (fun _ c _ => N - (intOf c).toNat)
  case atStart => exact ⟨0, #[], _, Nat.zero_le _, rfl, ext_zero.symm, by simpa [bndTo] using OwnF.nil _ _ _⟩
  case round =>
    obtain ⟨i, o3, n3, hi, rfl, hwr, hown⟩ := hrel
    have gw : Grew w wr := ⟨_, _, hwr⟩
    clear hwr
    by_cases hlt : i < N
    · obtain ⟨blk, o, cap', ex, hblk, hc⟩ := (hX.grew gw).open (by rw [← HNN.out]; omega)
      simp only [Value.slice.injEq] at ex
      obtain ⟨rfl, -, rfl⟩ := ex
      obtain ⟨b, hb, hf⟩ := hc i (by rw [← HNN.out]; omega)
      obtain ⟨blk2, o', cap2, ex, hblk2, hc2⟩ := (hY.grew gw).open (by rw [HLM.out, ← HNN.out]; omega)
      simp only [Value.slice.injEq] at ex
      obtain ⟨rfl, -, rfl⟩ := ex
      obtain ⟨b2, hb2, hf2⟩ := hc2 i (by rw [HLM.out, ← HNN.out]; omega)
      have hll : (bndTo L M i).length = i := bndTo_length _ _ _
      clear hc hc2
      go_wp2
      refine wp_region_R (Grew wr) [] [(0,0), (0,1), (0,2), (0,3), (0,5), (0,7), (0,8), (0,9), (0,10), (1,4), (1,6), (1,11), (1,12), (0,13)] (by kernel_rfl) (by kernel_rfl) (fun _ _ _ _ h _ => h) (by first | exact ⟨_, _, ext_drew⟩ | exact ⟨_, _, drew_ext0⟩ | (show Grew _ _; repeat (first | (with_reducible exact Grew.refl _) | (with_reducible assumption) | (with_reducible refine Grew.ext ?_ _ _) | (with_reducible refine Grew.alloc ?_ _) | ((with_reducible refine Grew.setCell ?_ ?_ _); rotate_left; (focus (dsimp only; first | omega | (simp only [size_ext, World.size_alloc, Array.size_append]; omega)))) | (with_reducible refine Grew.drewN ?_ _) | (with_reducible refine Grew.drew ?_)))) ?_
      go_wp2_with (first | ((with_reducible refine wpR_id ?_); first | (refine wpR_take (v := ?_) rfl rfl ?_ ?_; rotate_left; (focus (rintro w' ⟨o', n', rfl⟩; go_simp; try with_reducible rfl)); simp only [Act.put, List.setIfInBounds_toArray, List.set_cons_zero, List.set_cons_succ]) | (refine wpR_pure (v := ?_) rfl rfl ?_ ?_; rotate_left; (focus (intro w'; go_simp; try with_reducible rfl)); simp only [Act.put, List.setIfInBounds_toArray, List.set_cons_zero, List.set_cons_succ]) | (refine wpR_takeG (v := ?_) rfl rfl rfl rfl rfl ?_ ?_; rotate_left; (focus (rintro w' ⟨o', n', rfl⟩; go_simp; try with_reducible rfl)); simp only [Act.put, List.setIfInBounds_toArray, List.set_cons_zero, List.set_cons_succ]) | (refine wpR_skip rfl rfl rfl rfl rfl rfl ?_; simp only [Act.put, List.setIfInBounds_toArray, List.set_cons_zero, List.set_cons_succ]) | (refine wpR_skipU rfl rfl rfl rfl rfl ?_; simp only [Act.put, List.setIfInBounds_toArray, List.set_cons_zero, List.set_cons_succ]) | (refine wpR_do rfl rfl (fun K hK => ?_)) | (refine wpR_doG rfl rfl rfl rfl rfl (fun K hK => ?_)) | (refine wpR_last rfl rfl (fun K hK => ?_)) | (refine wpR_nil ?_)) | ((with_reducible refine wpR_go ?_ ?_); (focus (show Grew _ _; repeat (first | (with_reducible exact Grew.refl _) | (with_reducible assumption) | (with_reducible refine Grew.ext ?_ _ _) | (with_reducible refine Grew.alloc ?_ _) | ((with_reducible refine Grew.setCell ?_ ?_ _); rotate_left; (focus (dsimp only; first | omega | (simp only [size_ext, World.size_alloc, Array.size_append]; omega)))) | (with_reducible refine Grew.drewN ?_ _) | (with_reducible refine Grew.drew ?_))))) | ((with_reducible refine upon_id ?_); refine upon_fop rfl (by assumption) (by assumption) ?_; intro rr nn hr) | (go_at_call 110; ((with_reducible refine (abs_any b _ _ hf).mono ?_); rintro e w1 ⟨ra, rfl, hra, rfl⟩)) | (go_at_call 165; ((with_reducible refine (rscale_any g g (-52) _ hgF).mono ?_); rintro e w1 ⟨rs, rfl, hrs, rfl⟩)) | (go_at_call 141; ((with_reducible refine (times_any rs b2 _ _ _ hrs hf2).mono ?_); rintro e w1 ⟨rt, rfl, hrt, o6, n6, rfl⟩)) | (go_at_call 36; ((with_reducible refine (plus_any ra rt _ _ _ hra hrt).mono ?_); rintro e w1 ⟨rp, rfl, hrp, o7, n7, rfl⟩)) | (go_at_call 165; ((with_reducible refine (rscale_any g g (-1070) _ hgF).mono ?_); rintro e w1 ⟨ru, rfl, hru, rfl⟩)) | (go_at_call 36; ((with_reducible refine (plus_any rp ru _ _ _ hrp hru).mono ?_); rintro e w1 ⟨rr, rfl, hr, o8, n8, rfl⟩)) | (at_builtin; refine append1_f (W := w) (v := u5) (xs := bndTo L M i) (y := bndAt L.length (L.getD i 0) (M.getD i 0)) finfo ?_ ?_ ?_ ((by rw [hll]; omega)) _ _ rfl rfl rfl ?_ rfl ?_; (focus (refine Grew.trans gw ?_; (show Grew _ _; repeat (first | (with_reducible exact Grew.refl _) | (with_reducible assumption) | (with_reducible refine Grew.ext ?_ _ _) | (with_reducible refine Grew.alloc ?_ _) | ((with_reducible refine Grew.setCell ?_ ?_ _); rotate_left; (focus (dsimp only; first | omega | (simp only [size_ext, World.size_alloc, Array.size_append]; omega)))) | (with_reducible refine Grew.drewN ?_ _) | (with_reducible refine Grew.drew ?_))))); (focus (refine OwnF.grew (w := wr) ?_ ?_; (focus (with_reducible assumption)); (focus (show Grew _ _; repeat (first | (with_reducible exact Grew.refl _) | (with_reducible assumption) | (with_reducible refine Grew.ext ?_ _ _) | (with_reducible refine Grew.alloc ?_ _) | ((with_reducible refine Grew.setCell ?_ ?_ _); rotate_left; (focus (dsimp only; first | omega | (simp only [size_ext, World.size_alloc, Array.size_append]; omega)))) | (with_reducible refine Grew.drewN ?_ _) | (with_reducible refine Grew.drew ?_)))))); (focus (unfold bndAt; rw [← HNN.out, ← HG.out]; exact hr)); (focus (first | rfl | (simp only [size_ext, World.size_alloc, Array.size_append]; done) | (simp only [size_ext, World.size_alloc, Array.size_append]; omega))); intro v oo nn ho hn))
      go_roundw
      case rel => exact ⟨i + 1, oo, nn, by omega, by go_num, rfl, by rw [bndTo_succ]; exact ho⟩
      case measure => simp [intOf]; omega
    · have e : i = N := by omega
      subst e
      go_wp2
      go_ret
      exact ⟨_, rfl, by unfold bndL; rw [← HNN.out]; exact hown, gw⟩
end Go.Proofs.Ytcmggfpcbijcjaa
end
section
/-
  Contracts: straightedgeref22.Rest.
-/
set_option linter.unusedSimpArgs false
set_option linter.unusedVariables false
open Go Go.RowKit Sedge
namespace Go.Proofs.Ytcmggfpcbijcjaa
/-- The slice v of ours owns these words. -/
def OwnW (w : World) (B : Nat) (v : Value) (bs : List Nat) : Prop := w.ownsRow B 22 1 v bs.length (bs.map (Value.float .f64))
theorem OwnW.nil (w : World) (B : Nat) : OwnW w B (.slice none 0 0) [] := ⟨by simp, .inl ⟨rfl, rfl⟩⟩
theorem OwnW.f {w : World} {B : Nat} {v : Value} {bs L : List Nat} (h : OwnW w B v bs) (hc : bs.map canon = L) (hb : ∀ b ∈ bs, b < 2 ^ 64) : OwnF 22 w B v L := ⟨bs, h, hc, hb⟩
theorem OwnW.grew {w w' : World} {B : Nat} {v : Value} {bs : List Nat} (h : OwnW w B v bs) (g : Grew w w') : OwnW w' B v bs := by
  obtain ⟨h0, h1⟩ := h
  refine ⟨h0, ?_⟩
  rcases h1 with h1 | ⟨gg, cap, cur, hv, hB, hh, r⟩
  · exact .inl h1
  · have hlt : gg < w.heap.size := by
      rcases Nat.lt_or_ge gg w.heap.size with h | h
      · exact h
      · rw [Array.getElem?_eq_none h] at hh; cases hh
    exact .inr ⟨gg, cap, cur, hv, hB, by rw [g.below.block gg hlt]; exact hh, r⟩
theorem finfo22 : (Try.prog.info? 22).map (fun i => (i.zero, i.size, i.bytes)) = some (some (Value.float .f64 0), 1, 8) := by kernel_rfl
theorem fund24 : Try.prog.underlying 24 = some (.slice 22) := by kernel_rfl
section
variable {P : Program} {ops : Array Oper} {rest : List Oper} {o : Oper} {a : Act} {Q : Exit → Act → World → Prop}
/-- 'append' of one word; another slice of ours stays. -/
theorem append1_w {e' : TypeId} (und : P.underlying 24 = some (.slice 22)) (info : (P.info? 22).map (fun i => (i.zero, i.size, i.bytes)) = some (some (Value.float .f64 0), 1, 8))
    {W w : World} (hW : Grew W w) {v : Value} {bs : List Nat} (hown : OwnW w W.heap.size v bs) {b : Nat}
    (hlen : bs.length < 17592186044415) (s x : Operand) (hg : o.guard = none)
    (ho : o.op = .call { callee := .builtin .append, args := #[s, x], argTypes := #[24, 24] }) (hs : a.eval s = v) {k : Nat} (hk : k = w.heap.size) (hx : a.eval x = .slice (some ⟨k, 0, none⟩) 1 1)
    (h : ∀ v' oo nn, OwnW (ext W oo nn) W.heap.size v' (bs ++ [b]) → (∀ u cs, OwnW w W.heap.size u cs → ApartV u v → OwnW (ext W oo nn) W.heap.size u cs ∧ ApartV u v') → wpList P ops Q rest (a.put o.dst v') (ext W oo nn)) :
    wpList P ops Q (o :: rest) a (w.alloc (.cells #[.float .f64 b] e')) := by
  refine append1_v und info rfl hW (xs := bs.map (Value.float .f64)) (by simpa [OwnW] using hown) rfl (by simpa using hlen) s x hg ho hs hk hx ?_
  intro v' oo nn h1 h2
  exact h v' oo nn (by simpa [OwnW] using h1) (fun u cs hu ha => by
    have := h2 22 u cs.length (cs.map (Value.float .f64)) hu ha
    exact this)
end
theorem _root_.Sedge.ApartV.symm2 {u v : Value} (h : ApartV u v) : ApartV v u := fun k h1 h2 => h k h2 h1
theorem OwnW.apart_nil : ApartV (.slice none 0 0) (.slice none 0 0) := fun k h => by simp [Value.ownBlock] at h
set_option maxRecDepth 100000 in
set_option maxHeartbeats 4000000 in
/-- straightedgeref22.Rest. -/
theorem rrest_any (m : MatM) (A VX VY : Value) (X Y : List Nat) (n : Nat) (w : World) (hA : FS w A m.tab) (hX : FS w VX X) (hY : FS w VY Y) (hn : m.rows.toNat = n) (hc : m.cols.toNat = n) (hn64 : n ≤ 64) (hXl : X.length = n) (hYl : Y.length = n) :
   Calls Try.prog 106 #[.agg #[.int .i64 n, .int .i64 n, A], VX, VY] w (fun e w' => ∃ v1 v2, e = .returned (.tuple #[v1, v2]) ∧ FS w' v1 (resL m X Y) ∧ FS w' v2 (rebL m X Y) ∧ ∃ o n, w' = ext w o n) := by
  obtain ⟨aA, cA, rfl⟩ := hA.shape
  obtain ⟨aX, cX, rfl⟩ := hX.shape
  obtain ⟨aY, cY, rfl⟩ := hY.shape
  obtain ⟨F, hF⟩ : ∃ F : Nat → Nat, F = fun i => Y.getD i 0 := ⟨_, rfl⟩
  obtain ⟨G, hG⟩ : ∃ G : Nat → Nat → Nat → Nat, G = fun s a j => fsub s (fmul a (X.getD j 0)) := ⟨_, rfl⟩
  obtain ⟨F2, hF2⟩ : ∃ F2 : Nat → Nat, F2 = fun i => fabs (Y.getD i 0) := ⟨_, rfl⟩
  obtain ⟨G2, hG2⟩ : ∃ G2 : Nat → Nat → Nat → Nat, G2 = fun s a j => fadd s (fmul (fabs a) (fabs (X.getD j 0))) := ⟨_, rfl⟩
  have e1 : resL m X Y = rowsTo F G m.num n n := by unfold resL; rw [hn, hc, hF, hG]
  have e2 : rebL m X Y = rowsTo F2 G2 m.num n n := by unfold rebL; rw [hn, hc, hF2, hG2]
  rw [e1, e2]
  have hml : m.tab.length = n * n := by rw [MatM.tab_length, hn, hc]
  have hAt : ∀ (i j : Nat) w', i < n → j < n → Grew w w' → Calls Try.prog 72 #[.agg #[.int .i64 n, .int .i64 n, .slice aA m.tab.length cA], .int .i64 i, .int .i64 j] w' (fun e w2 => ∃ b, e = .returned (.float .f64 b) ∧ IsF b (m.num i j) ∧ ∃ o n, w2 = ext w' o n) := fun i j w' hi hj g => by
    have h := rat_any n n i j _ m.tab w' (hA.grew g) (by omega) (by omega) (by omega) (by omega) (by
      rw [hml]
      have : (i + 1) * n ≤ n * n := Nat.mul_le_mul_right n hi
      rw [Nat.add_mul] at this
      omega)
    have h3 : m.tab.getD (i * n + j) 0 = m.num i j := by
      have := m.tab_hold.get i j (by omega) (by omega)
      rw [hc] at this
      exact this
    rw [h3] at h
    exact h
  have hXc : ∀ j, j < n → ∃ blk o b, aX = some ⟨blk, o, none⟩ ∧ blk < w.heap.size ∧ w.cell? ⟨blk, o + j, none⟩ = some (.float .f64 b) ∧ IsF b (X.getD j 0) := fun j hj => by
    obtain ⟨blk, o, e, hlt, hc⟩ := hX.at.2 (by omega)
    obtain ⟨b, h1, h2⟩ := hc j (by omega)
    exact ⟨blk, o, b, e, hlt, h1, h2⟩
  have hYc : ∀ j, j < n → ∃ blk o b, aY = some ⟨blk, o, none⟩ ∧ blk < w.heap.size ∧ w.cell? ⟨blk, o + j, none⟩ = some (.float .f64 b) ∧ IsF b (Y.getD j 0) := fun j hj => by
    obtain ⟨blk, o, e, hlt, hc⟩ := hY.at.2 (by omega)
    obtain ⟨b, h1, h2⟩ := hc j (by omega)
    exact ⟨blk, o, b, e, hlt, h1, h2⟩
  obtain ⟨lA, hlA⟩ : ∃ lA, lA = m.tab.length := ⟨_, rfl⟩
  rw [← hlA] at hAt ⊢
  rw [hXl, hYl]
  have HF := hid hF
  have HG := hid hG
  have HF2 := hid hF2
  have HG2 := hid hG2
  clear hF hG hF2 hG2 e1 e2 hml hA hX hY hn hc hXl hYl hlA
  go_enter Try.func106, Try.ntmps106
  refine seq_stop ?_
  go_wp2
  refine stop_go (fun W hW => ?_)
  have s1 : w.heap.size < W.heap.size := by rw [hW]; simp only [World.size_alloc]; omega
  have b1 : ∀ i, W.cell? ⟨w.heap.size, i, none⟩ = (#[.int .i64 n, .int .i64 n, .slice aA lA cA] : Array Value)[i]? := by intro i; rw [hW]; go_simp
  have g0 : Grew w W := by rw [hW]; exact (Grew.refl _).alloc _
  clear hW
  go_wp2
  go_loopw [8, 9, 10] (fun u v c wx => ∃ (i : Nat) (bs cs : List Nat) (o : Array Obj) (k : Nat), i ≤ n ∧ c = .int .i64 i ∧ wx = ext W o k ∧ OwnW wx W.heap.size u bs ∧ OwnW wx W.heap.size v cs ∧ ApartV u v ∧ bs.map canon = rowsTo F G m.num n i ∧ cs.map canon = rowsTo F2 G2 m.num n i ∧ (∀ b ∈ bs, b < 2 ^ 64) ∧ (∀ b ∈ cs, b < 2 ^ 64)) (fun _ _ c _ => n - (intOf c).toNat)
  case atStart => exact ⟨0, [], [], _, _, Nat.zero_le _, rfl, ext_zero.symm, OwnW.nil _ _, OwnW.nil _ _, OwnW.apart_nil, rfl, rfl, by simp, by simp⟩
  case round =>
    obtain ⟨i, bs, cs, o3, n3, hi, rfl, hwr, hu, hv, hap, hb, hc, hb64, hc64⟩ := hrel
    have gx : Grew W wr := ⟨_, _, hwr⟩
    clear hwr
    have gxw : Grew w wr := Grew.trans g0 gx
    have t1 : ∀ i, wr.cell? ⟨w.heap.size, i, none⟩ = (#[.int .i64 n, .int .i64 n, .slice aA lA cA] : Array Value)[i]? := fun i => (gx.cell s1).trans (b1 i)
    have z1 : w.heap.size < wr.heap.size := Nat.lt_of_lt_of_le s1 gx.below.size
    have lb : bs.length = i := by have := congrArg List.length hb; rw [rowsTo_length, List.length_map] at this; exact this
    have lc : cs.length = i := by have := congrArg List.length hc; rw [rowsTo_length, List.length_map] at this; exact this
    by_cases hlt : i < n
    · obtain ⟨blkY, oY, bY, rfl, hblkY, hcY, hfY⟩ := hYc i hlt
      have hbY : wr.cell? ⟨blkY, oY + i, none⟩ = some (.float .f64 bY) := (gxw.cell hblkY).trans hcY
      have kY : blkY < wr.heap.size := Nat.lt_of_lt_of_le hblkY gxw.below.size
      have hati := fun j w' p => hAt i j w' hlt p
      have HU := hid hu
      have HV := hid hv
      have HB := hid hb
      have HC := hid hc
      have HB64 := hid hb64
      have HC64 := hid hc64
      have HLB := hid lb
      have HLC := hid lc
      have hbl : bs.length < 17592186044415 := by omega
      have hcl : cs.length < 17592186044415 := by omega
      clear hu hv hb hc hb64 hc64 lb lc hcY
      go_wp2
      refine wp_region_R (Grew wr) [] [(0,0), (0,1), (0,2), (0,3), (0,4), (0,5), (0,6), (0,7), (1,8), (0,9), (0,10)] (by kernel_rfl) (by kernel_rfl) (fun _ _ _ _ h _ => h) (by first | exact ⟨_, _, ext_drew⟩ | exact ⟨_, _, drew_ext0⟩ | (show Grew _ _; repeat (first | (with_reducible exact Grew.refl _) | (with_reducible assumption) | (with_reducible exact Grew.same_o) | (with_reducible exact Grew.app_o) | (with_reducible refine Grew.ext ?_ _ _) | (with_reducible refine Grew.alloc ?_ _) | ((with_reducible refine Grew.setCell ?_ ?_ _); rotate_left; (focus (dsimp only; first | omega | (simp only [size_ext, World.size_alloc, Array.size_append]; omega)))) | (with_reducible refine Grew.drewN ?_ _) | (with_reducible refine Grew.drew ?_)))) ?_
      go_wp2_with (first | ((with_reducible refine wpR_id ?_); first | (refine wpR_take (v := ?_) rfl rfl ?_ ?_; rotate_left; (focus (rintro w' ⟨o', n', rfl⟩; go_simp; try with_reducible rfl)); simp only [Act.put, List.setIfInBounds_toArray, List.set_cons_zero, List.set_cons_succ]) | (refine wpR_pure (v := ?_) rfl rfl ?_ ?_; rotate_left; (focus (intro w'; go_simp; try with_reducible rfl)); simp only [Act.put, List.setIfInBounds_toArray, List.set_cons_zero, List.set_cons_succ]) | (refine wpR_takeG (v := ?_) rfl rfl rfl rfl rfl ?_ ?_; rotate_left; (focus (rintro w' ⟨o', n', rfl⟩; go_simp; try with_reducible rfl)); simp only [Act.put, List.setIfInBounds_toArray, List.set_cons_zero, List.set_cons_succ]) | (refine wpR_skip rfl rfl rfl rfl rfl rfl ?_; simp only [Act.put, List.setIfInBounds_toArray, List.set_cons_zero, List.set_cons_succ]) | (refine wpR_skipU rfl rfl rfl rfl rfl ?_; simp only [Act.put, List.setIfInBounds_toArray, List.set_cons_zero, List.set_cons_succ]) | (refine wpR_do rfl rfl (fun K hK => ?_)) | (refine wpR_doG rfl rfl rfl rfl rfl (fun K hK => ?_)) | (refine wpR_last rfl rfl (fun K hK => ?_)) | (refine wpR_nil ?_)) | ((with_reducible refine wpR_go ?_ ?_); (focus (show Grew _ _; repeat (first | (with_reducible exact Grew.refl _) | (with_reducible assumption) | (with_reducible exact Grew.same_o) | (with_reducible exact Grew.app_o) | (with_reducible refine Grew.ext ?_ _ _) | (with_reducible refine Grew.alloc ?_ _) | ((with_reducible refine Grew.setCell ?_ ?_ _); rotate_left; (focus (dsimp only; first | omega | (simp only [size_ext, World.size_alloc, Array.size_append]; omega)))) | (with_reducible refine Grew.drewN ?_ _) | (with_reducible refine Grew.drew ?_))))) | ((with_reducible refine upon_id ?_); refine upon_fop rfl (by assumption) (by assumption) ?_; intro rr nn hr) | (go_at_call 110; ((with_reducible refine (abs_any bY _ _ hfY).mono ?_); rintro e w1 ⟨ra, rfl, hra, rfl⟩)))
      go_loopw [11, 12, 13] (fun a b c wx => ∃ (j s t : Nat) (o : Array Obj) (k : Nat), j ≤ n ∧ c = .int .i64 j ∧ a = .float .f64 s ∧ b = .float .f64 t ∧ IsF s (accR F G m.num i j) ∧ IsF t (accR F2 G2 m.num i j) ∧ wx = ext wr o k) (fun _ _ c _ => n - (intOf c).toNat)
      case atStart => exact ⟨0, bY, ra, #[], _, Nat.zero_le _, rfl, rfl, rfl, by show IsF bY (F i); rw [HF.out]; exact hfY, by show IsF ra (F2 i); rw [HF2.out]; exact hra, by first | exact drew_ext0 | exact ext_zero.symm⟩
      case round =>
        obtain ⟨j, s, t, o4, n4, hj, rfl, rfl, rfl, hs, ht, hwr2⟩ := hrel
        subst hwr2
        by_cases hjn : j < n
        · obtain ⟨blkX, oX, bX, rfl, hblkX, hcX, hfX⟩ := hXc j hjn
          have hbX : wr.cell? ⟨blkX, oX + j, none⟩ = some (.float .f64 bX) := (gxw.cell hblkX).trans hcX
          have kX : blkX < wr.heap.size := Nat.lt_of_lt_of_le hblkX gxw.below.size
          have hatj := fun w' p => hati j w' hjn p
          have hsn : accR F G m.num i (j + 1) = fsub (accR F G m.num i j) (fmul (m.num i j) (X.getD j 0)) := by show G _ _ _ = _; rw [HG.out]
          have htn : accR F2 G2 m.num i (j + 1) = fadd (accR F2 G2 m.num i j) (fmul (fabs (m.num i j)) (fabs (X.getD j 0))) := by show G2 _ _ _ = _; rw [HG2.out]
          have HSN := hid hsn
          have HTN := hid htn
          clear hsn htn hcX
          go_wp2
          refine wp_region_R (Grew wr) [] [(0,0), (0,1), (0,2), (0,3), (0,5), (0,6), (0,7), (0,8), (1,4), (1,9), (1,10), (0,11)] (by kernel_rfl) (by kernel_rfl) (fun _ _ _ _ h _ => h) (by first | exact ⟨_, _, ext_drew⟩ | exact ⟨_, _, drew_ext0⟩ | (show Grew _ _; repeat (first | (with_reducible exact Grew.refl _) | (with_reducible assumption) | (with_reducible exact Grew.same_o) | (with_reducible exact Grew.app_o) | (with_reducible refine Grew.ext ?_ _ _) | (with_reducible refine Grew.alloc ?_ _) | ((with_reducible refine Grew.setCell ?_ ?_ _); rotate_left; (focus (dsimp only; first | omega | (simp only [size_ext, World.size_alloc, Array.size_append]; omega)))) | (with_reducible refine Grew.drewN ?_ _) | (with_reducible refine Grew.drew ?_)))) ?_
          go_upto_region 10 with (first | ((with_reducible refine wpR_id ?_); first | (refine wpR_take (v := ?_) rfl rfl ?_ ?_; rotate_left; (focus (rintro w' ⟨o', n', rfl⟩; go_simp; try with_reducible rfl)); simp only [Act.put, List.setIfInBounds_toArray, List.set_cons_zero, List.set_cons_succ]) | (refine wpR_pure (v := ?_) rfl rfl ?_ ?_; rotate_left; (focus (intro w'; go_simp; try with_reducible rfl)); simp only [Act.put, List.setIfInBounds_toArray, List.set_cons_zero, List.set_cons_succ]) | (refine wpR_takeG (v := ?_) rfl rfl rfl rfl rfl ?_ ?_; rotate_left; (focus (rintro w' ⟨o', n', rfl⟩; go_simp; try with_reducible rfl)); simp only [Act.put, List.setIfInBounds_toArray, List.set_cons_zero, List.set_cons_succ]) | (refine wpR_skip rfl rfl rfl rfl rfl rfl ?_; simp only [Act.put, List.setIfInBounds_toArray, List.set_cons_zero, List.set_cons_succ]) | (refine wpR_skipU rfl rfl rfl rfl rfl ?_; simp only [Act.put, List.setIfInBounds_toArray, List.set_cons_zero, List.set_cons_succ]) | (refine wpR_do rfl rfl (fun K hK => ?_)) | (refine wpR_doG rfl rfl rfl rfl rfl (fun K hK => ?_)) | (refine wpR_last rfl rfl (fun K hK => ?_)) | (refine wpR_nil ?_)) | ((with_reducible refine wpR_go ?_ ?_); (focus (show Grew _ _; repeat (first | (with_reducible exact Grew.refl _) | (with_reducible assumption) | (with_reducible exact Grew.same_o) | (with_reducible exact Grew.app_o) | (with_reducible refine Grew.ext ?_ _ _) | (with_reducible refine Grew.alloc ?_ _) | ((with_reducible refine Grew.setCell ?_ ?_ _); rotate_left; (focus (dsimp only; first | omega | (simp only [size_ext, World.size_alloc, Array.size_append]; omega)))) | (with_reducible refine Grew.drewN ?_ _) | (with_reducible refine Grew.drew ?_))))) | ((with_reducible refine upon_id ?_); refine upon_fop rfl (by assumption) (by assumption) ?_; intro rr nn hr) | (go_at_call 72; ((with_reducible refine (hatj _ (Grew.trans gxw (by (show Grew _ _; (try simp only [← Array.append_assoc]); repeat (first | (with_reducible exact Grew.same_o) | (with_reducible exact Grew.refl _) | (with_reducible assumption) | (with_reducible refine Grew.alloc ?_ _) | (with_reducible refine Grew.app_r ?_) | ((with_reducible refine Grew.setCell ?_ ?_ _); rotate_left; (focus (dsimp only; first | omega | (simp only [size_ext, World.size_alloc, Array.size_append]; omega)))) | (with_reducible refine Grew.ext ?_ _ _) | (with_reducible refine Grew.drewN ?_ _) | (with_reducible refine Grew.drew ?_)))))).mono ?_); rintro e w1 ⟨r1, rfl, hr1, o5, n5, rfl⟩)) | (go_at_call 141; ((with_reducible refine (times_any r1 bX _ _ _ hr1 hfX).mono ?_); rintro e w1 ⟨r2, rfl, hr2, o6, n6, rfl⟩)) | (go_at_call 183; ((with_reducible refine (less_any s r2 _ _ _ hs hr2).mono ?_); rintro e w1 ⟨r3, rfl, hr3, o7, n7, rfl⟩)))
          refine wp_region_R (Grew wr) [] [(0,0), (0,1), (0,2), (0,3), (0,6), (0,7), (0,8), (0,9), (1,4), (1,5), (1,10), (1,11), (1,12), (0,13)] (by kernel_rfl) (by kernel_rfl) (fun _ _ _ _ h _ => h) (by first | exact ⟨_, _, ext_drew⟩ | exact ⟨_, _, drew_ext0⟩ | (show Grew _ _; repeat (first | (with_reducible exact Grew.refl _) | (with_reducible assumption) | (with_reducible exact Grew.same_o) | (with_reducible exact Grew.app_o) | (with_reducible refine Grew.ext ?_ _ _) | (with_reducible refine Grew.alloc ?_ _) | ((with_reducible refine Grew.setCell ?_ ?_ _); rotate_left; (focus (dsimp only; first | omega | (simp only [size_ext, World.size_alloc, Array.size_append]; omega)))) | (with_reducible refine Grew.drewN ?_ _) | (with_reducible refine Grew.drew ?_)))) ?_
          go_wp2_with (first | ((with_reducible refine wpR_id ?_); first | (refine wpR_take (v := ?_) rfl rfl ?_ ?_; rotate_left; (focus (rintro w' ⟨o', n', rfl⟩; go_simp; try with_reducible rfl)); simp only [Act.put, List.setIfInBounds_toArray, List.set_cons_zero, List.set_cons_succ]) | (refine wpR_pure (v := ?_) rfl rfl ?_ ?_; rotate_left; (focus (intro w'; go_simp; try with_reducible rfl)); simp only [Act.put, List.setIfInBounds_toArray, List.set_cons_zero, List.set_cons_succ]) | (refine wpR_takeG (v := ?_) rfl rfl rfl rfl rfl ?_ ?_; rotate_left; (focus (rintro w' ⟨o', n', rfl⟩; go_simp; try with_reducible rfl)); simp only [Act.put, List.setIfInBounds_toArray, List.set_cons_zero, List.set_cons_succ]) | (refine wpR_skip rfl rfl rfl rfl rfl rfl ?_; simp only [Act.put, List.setIfInBounds_toArray, List.set_cons_zero, List.set_cons_succ]) | (refine wpR_skipU rfl rfl rfl rfl rfl ?_; simp only [Act.put, List.setIfInBounds_toArray, List.set_cons_zero, List.set_cons_succ]) | (refine wpR_do rfl rfl (fun K hK => ?_)) | (refine wpR_doG rfl rfl rfl rfl rfl (fun K hK => ?_)) | (refine wpR_last rfl rfl (fun K hK => ?_)) | (refine wpR_nil ?_)) | ((with_reducible refine wpR_go ?_ ?_); (focus (show Grew _ _; repeat (first | (with_reducible exact Grew.refl _) | (with_reducible assumption) | (with_reducible exact Grew.same_o) | (with_reducible exact Grew.app_o) | (with_reducible refine Grew.ext ?_ _ _) | (with_reducible refine Grew.alloc ?_ _) | ((with_reducible refine Grew.setCell ?_ ?_ _); rotate_left; (focus (dsimp only; first | omega | (simp only [size_ext, World.size_alloc, Array.size_append]; omega)))) | (with_reducible refine Grew.drewN ?_ _) | (with_reducible refine Grew.drew ?_))))) | ((with_reducible refine upon_id ?_); refine upon_fop rfl (by assumption) (by assumption) ?_; intro rr nn hr) | (go_at_call 72; ((with_reducible refine (hatj _ (Grew.trans gxw (by (show Grew _ _; (try simp only [← Array.append_assoc]); repeat (first | (with_reducible exact Grew.same_o) | (with_reducible exact Grew.refl _) | (with_reducible assumption) | (with_reducible refine Grew.alloc ?_ _) | (with_reducible refine Grew.app_r ?_) | ((with_reducible refine Grew.setCell ?_ ?_ _); rotate_left; (focus (dsimp only; first | omega | (simp only [size_ext, World.size_alloc, Array.size_append]; omega)))) | (with_reducible refine Grew.ext ?_ _ _) | (with_reducible refine Grew.drewN ?_ _) | (with_reducible refine Grew.drew ?_)))))).mono ?_); rintro e w1 ⟨q1, rfl, hq1, p5, m5, rfl⟩)) | (go_at_call 110; ((with_reducible refine (abs_any q1 _ _ hq1).mono ?_); rintro e w1 ⟨q2, rfl, hq2, rfl⟩)) | (go_at_call 110; ((with_reducible refine (abs_any bX _ _ hfX).mono ?_); rintro e w1 ⟨q3, rfl, hq3, rfl⟩)) | (go_at_call 141; ((with_reducible refine (times_any q2 q3 _ _ _ hq2 hq3).mono ?_); rintro e w1 ⟨q4, rfl, hq4, p6, m6, rfl⟩)) | (go_at_call 36; ((with_reducible refine (plus_any t q4 _ _ _ ht hq4).mono ?_); rintro e w1 ⟨q5, rfl, hq5, p7, m7, rfl⟩)))
          go_roundw
          case rel => exact ⟨j + 1, r3, q5, _, _, hjn, by go_num, rfl, rfl, by rw [HSN.out]; exact hr3, by rw [HTN.out]; exact hq5, rfl⟩
          case measure => simp [intOf]; omega
        · have e : j = n := by omega
          subst e
          have hs64 := hs.lt
          have HS := hid hs
          have HT := hid ht
          have hu2 := HU.out.grew (⟨o4, n4, rfl⟩ : Grew wr (ext wr o4 n4))
          have hv2 := HV.out.grew (⟨o4, n4, rfl⟩ : Grew wr (ext wr o4 n4))
          clear hs ht
          go_wp2_with (first | (at_builtin; refine append1_w fund24 finfo22 (W := W) (bs := bs) (b := s) ?_ hu2 hbl _ _ rfl rfl rfl ?_ rfl ?_; (focus exact Grew.trans gx (by (show Grew _ _; (try simp only [← Array.append_assoc]); repeat (first | (with_reducible exact Grew.same_o) | (with_reducible exact Grew.refl _) | (with_reducible assumption) | (with_reducible refine Grew.alloc ?_ _) | (with_reducible refine Grew.app_r ?_) | ((with_reducible refine Grew.setCell ?_ ?_ _); rotate_left; (focus (dsimp only; first | omega | (simp only [size_ext, World.size_alloc, Array.size_append]; omega)))) | (with_reducible refine Grew.ext ?_ _ _) | (with_reducible refine Grew.drewN ?_ _) | (with_reducible refine Grew.drew ?_))))); (focus (first | rfl | (simp only [size_ext, World.size_alloc, Array.size_append]; done) | (simp only [size_ext, World.size_alloc, Array.size_append]; omega))); intro va ob nb hob hkb; obtain ⟨hva, hap3⟩ := hkb _ _ hv2 hap.symm2; clear hkb) | (at_builtin; refine append1_w fund24 finfo22 (W := W) (bs := cs) (b := t) ?_ hva hcl _ _ rfl rfl rfl ?_ rfl ?_; (focus exact ⟨_, _, rfl⟩); (focus (first | rfl | (simp only [size_ext, World.size_alloc, Array.size_append]; done) | (simp only [size_ext, World.size_alloc, Array.size_append]; omega))); intro vb oc nc hoc hkc; obtain ⟨hva2, hap4⟩ := hkc _ _ hob hap3.symm2; clear hkc))
          go_roundw
          case rel =>
            refine ⟨i + 1, bs ++ [s], cs ++ [t], oc, nc, hlt, by go_num, rfl, hva2, hoc, hap4, ?_, ?_, fun b hb => ?_, fun b hb => ?_⟩
            · rw [List.map_append, HB.out, rowsTo_succ]; show _ ++ [canon s] = _; rw [HS.out.2]
            · rw [List.map_append, HC.out, rowsTo_succ]; show _ ++ [canon t] = _; rw [HT.out.2]
            · rcases List.mem_append.1 hb with h | h
              · exact HB64.out b h
              · simp at h; subst h; exact HS.out.1
            · rcases List.mem_append.1 hb with h | h
              · exact HC64.out b h
              · simp at h; subst h; exact HT.out.1
          case measure => simp [intOf]; omega
    · have e : i = n := by omega
      subst e
      have hfu := (hu.f hb hb64).fs (by rw [rowsTo_length]; omega)
      have hfv := (hv.f hc hc64).fs (by rw [rowsTo_length]; omega)
      go_wp2
      refine bodyPost_ret (by simp [results, Try.results106, go_sem, *]; rfl) rfl ?_
      exact ⟨_, _, rfl, hfu, hfv, gxw⟩
end Go.Proofs.Ytcmggfpcbijcjaa
end
section
/-
  The law SumsLists: its example, its walk.
-/
set_option linter.unusedSimpArgs false
set_option linter.unusedVariables false
open Go Go.RowKit Sedge
namespace Go.Proofs.Ytcmggfpcbijcjaa
def L123 : List Nat := [4607182418800017408, 4611686018427387904, 4613937818241073152]
def L456 : List Nat := [4616189618054758400, 4617315517961601024, 4618441417868443648]
theorem wf_small (ws : List Nat) (off n inc : Int) (h1 : I64 off) (h2 : I64 n) (h3 : I64 inc) : VecM.wf ⟨ws, off, n, inc⟩ := ⟨h1, h2, h3⟩
theorem i64_small {x : Int} (h : -1000000 ≤ x ∧ x ≤ 1000000) : I64 x := by unfold I64; omega
theorem most_ex (D : Value) (w : World) (hD : FS w D L123) :
    Calls Try.prog 127 #[.agg #[D, .int .i64 0, .int .i64 3, .int .i64 1]] w (fun e w' => e = .returned (.tuple #[.int .i64 2, .int .i64 0]) ∧ ∃ o n, w' = ext w o n) := by
  have h := most_ok ⟨L123, 0, 3, 1⟩ D w hD (wf_small _ _ _ _ (i64_small (by decide)) (i64_small (by decide)) (i64_small (by decide))) (by decide +kernel)
  have e : mostTo ⟨L123, 0, 3, 1⟩ (Int.toNat 3) = 2 := by decide +kernel
  simp only [e] at h
  exact h
theorem dot_ex (D E : Value) (w : World) (hD : FS w D L123) (hE : FS w E L456) :
    Calls Try.prog 128 #[.agg #[D, .int .i64 0, .int .i64 3, .int .i64 1], .agg #[E, .int .i64 0, .int .i64 3, .int .i64 1]] w
      (fun e w' => ∃ b, e = .returned (.tuple #[.float .f64 b, .int .i64 0]) ∧ IsF b 4629700416936869888 ∧ ∃ o n, w' = ext w o n) := by
  have hw : ∀ ws, VecM.wf ⟨ws, 0, 3, 1⟩ := fun ws => wf_small _ _ _ _ (i64_small (by decide)) (i64_small (by decide)) (i64_small (by decide))
  have h := dot_ok ⟨L123, 0, 3, 1⟩ ⟨L456, 0, 3, 1⟩ D E w hD hE (hw _) (hw _) (by decide +kernel) (by decide +kernel) rfl
  have e : dotTo ⟨L123, 0, 3, 1⟩ ⟨L456, 0, 3, 1⟩ (Int.toNat 3) = 4629700416936869888 := by decide +kernel
  simp only [e] at h
  exact h
theorem eq_fact {r s X Y : Nat} (hr : IsF r X) (hs : IsF s Y) : (FloatKind.f64.format.order r s == some .eq) = feq X Y := by
  unfold feq; rw [← hr.order hs]; rfl
theorem eq_is {r s X Y : Nat} (hr : IsF r X) (hs : IsF s Y) {v : Bool} (h : feq X Y = v) : (FloatKind.f64.format.order r s == some .eq) = v := (eq_fact hr hs).trans h
set_option maxRecDepth 100000 in
set_option maxHeartbeats 1000000 in
theorem awake05 (w : World) : Calls Try.prog 35 #[] w (fun e w' => e = .returned (.bool true) ∧ ∃ o n, w' = ext w o n) := by
  have h1 : ∀ x ∈ L123, IsF x x := by decide +kernel
  have h2 : ∀ x ∈ L456, IsF x x := by decide +kernel
  have H1 := hid h1
  have H2 := hid h2
  clear h1 h2
  go_enter Try.func35, Try.ntmps35
  go_wp2_with (first | (go_at_call 127; ((with_reducible refine (most_ex _ _ ?_).mono ?_); (focus (repeat (first | exact FS.lit L123 (by decide) H1.out 3 _ (by simp only [size_ext, World.size_alloc]) | exact FS.lit L123 (by decide) H1.out 3 _ rfl | refine FS.alloc ?_ _ | refine FS.ext ?_ _ _))); rintro e w1 ⟨rfl, o1, n1, rfl⟩)) | (go_at_call 128; ((with_reducible refine (dot_ex _ _ _ ?_ ?_).mono ?_); (focus (repeat (first | exact FS.lit L123 (by decide) H1.out 3 _ (by simp only [size_ext, World.size_alloc]) | exact FS.lit L123 (by decide) H1.out 3 _ rfl | refine FS.alloc ?_ _ | refine FS.ext ?_ _ _))); (focus (repeat (first | exact FS.lit L456 (by decide) H2.out 3 _ (by simp only [size_ext, World.size_alloc]) | exact FS.lit L456 (by decide) H2.out 3 _ rfl | refine FS.alloc ?_ _ | refine FS.ext ?_ _ _))); rintro e w1 ⟨b, rfl, hb, o1, n1, rfl⟩; have q : (FloatKind.f64.format.order b 4629700416936869888 == some .eq) = true := eq_is hb (Y := 4629700416936869888) (by decide +kernel) (by decide +kernel))))
  go_ret
  exact ⟨rfl, by (show Grew _ _; repeat (first | (with_reducible exact Grew.refl _) | (with_reducible assumption) | (with_reducible refine Grew.ext ?_ _ _) | (with_reducible refine Grew.alloc ?_ _) | ((with_reducible refine Grew.setCell ?_ ?_ _); rotate_left; (focus (dsimp only; first | omega | (simp only [size_ext, World.size_alloc, Array.size_append]; omega)))) | (with_reducible refine Grew.drewN ?_ _) | (with_reducible refine Grew.drew ?_)))⟩
theorem fsumTo_length (l : List Nat) : fsumTo l l.length = fsumTo l l.length := rfl
set_option maxRecDepth 100000 in
set_option maxHeartbeats 1000000 in
theorem sumsLists_any (D : Value) (ws : List Nat) (w : World) (hD : FS w D ws) :
    Calls Try.prog 4 #[D] w (fun e w' => e = .returned (.bool true) ∧ ∃ o n, w' = ext w o n) := by
  obtain ⟨a, cap, rfl⟩ := hD.shape
  have hl := hD.len
  have HD := hD.at.2
  have hl' : (ws.length : Int) ≤ 9223372036854775807 := by omega
  by_cases h100 : (100 : Int) < (ws.length : Int)
  · go_enter Try.func4, Try.ntmps4
    go_wp2_with (first | (go_at_call 35; ((with_reducible refine (awake05 _).mono ?_); rintro e w1 ⟨rfl, o1, n1, rfl⟩)))
    go_ret
    exact ⟨rfl, by (show Grew _ _; repeat (first | (with_reducible exact Grew.refl _) | (with_reducible assumption) | (with_reducible refine Grew.ext ?_ _ _) | (with_reducible refine Grew.alloc ?_ _) | ((with_reducible refine Grew.setCell ?_ ?_ _); rotate_left; (focus (dsimp only; first | omega | (simp only [size_ext, World.size_alloc, Array.size_append]; omega)))) | (with_reducible refine Grew.drewN ?_ _) | (with_reducible refine Grew.drew ?_)))⟩
  · go_enter Try.func4, Try.ntmps4
    go_wp2_with (first | (go_at_call 35; ((with_reducible refine (awake05 _).mono ?_); rintro e w1 ⟨rfl, o1, n1, rfl⟩)))
    go_loopw [3, 4] (fun s c wr => ∃ k b : Nat, k ≤ ws.length ∧ c = .int .i64 k ∧ s = .float .f64 b ∧ IsF b (fsumTo ws k) ∧ ∃ o n, wr = ext w o n) (fun _ c _ => ws.length - (intOf c).toNat)
    case atStart => exact ⟨0, 0, Nat.zero_le _, rfl, rfl, isF_zero, _, _, rfl⟩
    case round =>
      obtain ⟨k, s, hk, rfl, rfl, hs, oo, nn, hwr⟩ := hrel
      subst hwr
      by_cases hlt : k < ws.length
      · obtain ⟨blk, o, rfl, hblk, hc⟩ := HD (by omega)
        obtain ⟨b, hb, hx⟩ := hc k hlt
        clear hc HD
        go_wp2_with (first | (go_at_call 36; ((with_reducible refine (plus_any _ _ _ _ _ hs hx).mono ?_); rintro e w1 ⟨rr, rfl, hr, o1, n1, rfl⟩)))
        go_roundw
        case rel => exact ⟨k + 1, rr, by omega, by go_num, rfl, hr, _, _, rfl⟩
        case measure => simp [intOf]; omega
      · have e : k = ws.length := by omega
        subst e
        have d1 : decide (fsumTo ws ws.length = fsumTo ws ws.length) = true := by simp
        have d2 : decide (fgreatest ws = fgreatest ws) = true := by simp
        clear HD
        go_wp2_with (first | (go_at_call 38; ((with_reducible refine (sum_any _ ws _ ?_).mono ?_); (focus (first | (with_reducible assumption) | (with_reducible refine FS.ext ?_ _ _; with_reducible assumption) | (with_reducible refine IS.ext ?_ _ _; with_reducible assumption) | (refine hDu _ ?_; with_reducible assumption) | (refine hOu _ ?_; with_reducible assumption) | (refine hDa _ ?_; with_reducible assumption) | (refine hDb _ ?_; with_reducible assumption) | (refine hDc _ ?_; with_reducible assumption) | (refine hDd _ ?_; with_reducible assumption) | (refine FW.fs ?_ (by omega) _; with_reducible assumption) | (refine WS.fs ?_; with_reducible assumption) | (refine FW.fs ?_ (by omega) _; assumption) | omega | assumption)); rintro e w1 ⟨r1, rfl, hr1, o1, n1, rfl⟩)) | (go_at_call 39; ((with_reducible refine (greatest_any _ ws _ ?_).mono ?_); (focus (first | (with_reducible assumption) | (with_reducible refine FS.ext ?_ _ _; with_reducible assumption) | (with_reducible refine IS.ext ?_ _ _; with_reducible assumption) | (refine hDu _ ?_; with_reducible assumption) | (refine hOu _ ?_; with_reducible assumption) | (refine hDa _ ?_; with_reducible assumption) | (refine hDb _ ?_; with_reducible assumption) | (refine hDc _ ?_; with_reducible assumption) | (refine hDd _ ?_; with_reducible assumption) | (refine FW.fs ?_ (by omega) _; with_reducible assumption) | (refine WS.fs ?_; with_reducible assumption) | (refine FW.fs ?_ (by omega) _; assumption) | omega | assumption)); rintro e w1 ⟨r2, rfl, hr2, rfl⟩)) | (go_at_call 40; ((with_reducible refine (rgreatest_any _ ws _ ?_).mono ?_); (focus (first | (with_reducible assumption) | (with_reducible refine FS.ext ?_ _ _; with_reducible assumption) | (with_reducible refine IS.ext ?_ _ _; with_reducible assumption) | (refine hDu _ ?_; with_reducible assumption) | (refine hOu _ ?_; with_reducible assumption) | (refine hDa _ ?_; with_reducible assumption) | (refine hDb _ ?_; with_reducible assumption) | (refine hDc _ ?_; with_reducible assumption) | (refine hDd _ ?_; with_reducible assumption) | (refine FW.fs ?_ (by omega) _; with_reducible assumption) | (refine WS.fs ?_; with_reducible assumption) | (refine FW.fs ?_ (by omega) _; assumption) | omega | assumption)); rintro e w1 ⟨r3, rfl, hr3, o1, n1, rfl⟩)) | (go_at_call 37; first | ((with_reducible refine (same_any _ _ _ _ _ hr1 hs).mono ?_); rintro e w1 ⟨rfl, rfl⟩) | ((with_reducible refine (same_any _ _ _ _ _ hr2 hr3).mono ?_); rintro e w1 ⟨rfl, rfl⟩)) | (go_at_call 35; ((with_reducible refine (awake05 _).mono ?_); rintro e w1 ⟨rfl, o1, n1, rfl⟩)))
        go_ret
        exact ⟨rfl, by (show Grew _ _; repeat (first | (with_reducible exact Grew.refl _) | (with_reducible assumption) | (with_reducible refine Grew.ext ?_ _ _) | (with_reducible refine Grew.alloc ?_ _) | ((with_reducible refine Grew.setCell ?_ ?_ _); rotate_left; (focus (dsimp only; first | omega | (simp only [size_ext, World.size_alloc, Array.size_append]; omega)))) | (with_reducible refine Grew.drewN ?_ _) | (with_reducible refine Grew.drew ?_)))⟩
end Go.Proofs.Ytcmggfpcbijcjaa
end
section
/-
  Contracts: num.Two, resid.ratio, resid.nothing.
-/
set_option linter.unusedSimpArgs false
set_option linter.unusedVariables false
open Go Go.RowKit Sedge
namespace Go.Proofs.Ytcmggfpcbijcjaa
def ONE : Nat := 4607182418800017408
theorem isF_one : IsF 4607182418800017408 4607182418800017408 := by decide +kernel
def TW : Nat := fscale 4607182418800017408 (-50)
set_option maxRecDepth 100000 in
theorem two_any (w : World) : Calls Try.prog 202 #[.int .i64 (-50)] w (fun e w' => ∃ r, e = .returned (.float .f64 r) ∧ IsF r TW ∧ ∃ o n, w' = ext w o n) := by
  have h := nscale_any 4607182418800017408 4607182418800017408 (-50) w isF_one
  obtain ⟨T, hT⟩ : ∃ T, T = TW := ⟨_, rfl⟩
  rw [show fscale 4607182418800017408 (-50) = T from hT.symm] at h
  rw [← hT]
  clear hT
  go_enter Try.func202, Try.ntmps202
  go_wp2_with (first | (go_at_call 162; ((with_reducible refine (h).mono ?_); rintro e w1 ⟨r, rfl, hr, o1, n1, rfl⟩)))
  go_ret
  exact ⟨r, rfl, hr, by (show Grew _ _; repeat (first | (with_reducible exact Grew.refl _) | (with_reducible assumption) | (with_reducible exact Grew.same_o) | (with_reducible exact Grew.app_o) | (with_reducible refine Grew.ext ?_ _ _) | (with_reducible refine Grew.alloc ?_ _) | ((with_reducible refine Grew.setCell ?_ ?_ _); rotate_left; (focus (dsimp only; first | omega | (simp only [size_ext, World.size_alloc, Array.size_append]; omega)))) | (with_reducible refine Grew.drewN ?_ _) | (with_reducible refine Grew.drew ?_)))⟩
/-- A bound by a weight. -/
def ratQ (f w : Nat) : Nat := fadd (fdiv f w) (fmul (fdiv f w) TW)
def ratF (f w : Nat) : Nat := if fgt (ratQ f w) 4607182418800017408 = true then 4607182418800017408 else ratQ f w
theorem gt_eq1 {r X : Nat} (hr : IsF r X) : (FloatKind.f64.format.order r 4607182418800017408 == some .gt) = fgt X 4607182418800017408 := by unfold fgt; rw [← hr.order isF_one]; rfl
set_option maxRecDepth 100000 in
set_option maxHeartbeats 1000000 in
theorem ratio_any (a b f w : Nat) (W : World) (ha : IsF a f) (hb : IsF b w) : Calls Try.prog 181 #[.float .f64 a, .float .f64 b] W (fun e w' => ∃ r, e = .returned (.float .f64 r) ∧ IsF r (ratF f w) ∧ ∃ o n, w' = ext W o n) := by
  obtain ⟨T, hT⟩ : ∃ T, Hid (T = TW) := ⟨_, hid rfl⟩
  have h2 : ∀ w', Calls Try.prog 202 #[.int .i64 (-50)] w' (fun e w2 => ∃ r, e = .returned (.float .f64 r) ∧ IsF r T ∧ ∃ o n, w2 = ext w' o n) := fun w' => by rw [hT.out]; exact two_any w'
  have H1 := hid isF_one
  go_enter Try.func181, Try.ntmps181
  go_wp2_with (first | (go_at_call 202; ((with_reducible refine (h2 _).mono ?_); rintro e w1 ⟨rt, rfl, hrt, o1, n1, rfl⟩)) | ((with_reducible refine upon_id ?_); refine upon_fop rfl (by assumption) (by assumption) ?_; intro rr nn hr))
  · have hq : IsF rr (ratQ f w) := by unfold ratQ; rw [← hT.out]; exact hr
    have ht : (FloatKind.f64.format.order rr 4607182418800017408 == some .gt) = true := by assumption
    rw [gt_eq1 hq] at ht
    have hq2 : ratF f w = 4607182418800017408 := by unfold ratF; rw [if_pos ht]
    go_ret
    exact ⟨_, rfl, by rw [hq2]; exact H1.out, by (show Grew _ _; repeat (first | (with_reducible exact Grew.refl _) | (with_reducible assumption) | (with_reducible exact Grew.same_o) | (with_reducible exact Grew.app_o) | (with_reducible refine Grew.ext ?_ _ _) | (with_reducible refine Grew.alloc ?_ _) | ((with_reducible refine Grew.setCell ?_ ?_ _); rotate_left; (focus (dsimp only; first | omega | (simp only [size_ext, World.size_alloc, Array.size_append]; omega)))) | (with_reducible refine Grew.drewN ?_ _) | (with_reducible refine Grew.drew ?_)))⟩
  · have hq : IsF rr (ratQ f w) := by unfold ratQ; rw [← hT.out]; exact hr
    have ht : (FloatKind.f64.format.order rr 4607182418800017408 == some .gt) = false := by assumption
    rw [gt_eq1 hq] at ht
    have hq2 : ratF f w = ratQ f w := by unfold ratF; rw [ht]; rfl
    go_ret
    exact ⟨rr, rfl, by rw [hq2]; exact hq, by (show Grew _ _; repeat (first | (with_reducible exact Grew.refl _) | (with_reducible assumption) | (with_reducible exact Grew.same_o) | (with_reducible exact Grew.app_o) | (with_reducible refine Grew.ext ?_ _ _) | (with_reducible refine Grew.alloc ?_ _) | ((with_reducible refine Grew.setCell ?_ ?_ _); rotate_left; (focus (dsimp only; first | omega | (simp only [size_ext, World.size_alloc, Array.size_append]; omega)))) | (with_reducible refine Grew.drewN ?_ _) | (with_reducible refine Grew.drew ?_)))⟩
/-- Is it not 0? -/
def nzB (x : Nat) : Bool := !(feq x 0)
theorem nz_eq {r X : Nat} (hr : IsF r X) {v : Bool} (h : nzB X = v) : (FloatKind.f64.format.order r 0 == some .eq) = !v := by
  rw [eq_is hr isF_zero (v := !v)]
  rw [← h]; unfold nzB; simp
theorem nz_ne {r X : Nat} (hr : IsF r X) {v : Bool} (h : nzB X = v) : (FloatKind.f64.format.order r 0 != some .eq) = v := by
  unfold bne; rw [nz_eq hr h]; simp
/-- Is something of row i not 0? -/
def someTo (m : MatM) (X : List Nat) (b0 : Bool) (i : Nat) : Nat → Bool
  | 0 => b0
  | j + 1 => someTo m X b0 i j || (nzB (m.num i j) && nzB (X.getD j 0))
theorem someTo_mono {m : MatM} {X : List Nat} {b0 : Bool} {i j : Nat} (h : someTo m X b0 i j = true) : ∀ k, someTo m X b0 i (j + k) = true
  | 0 => h
  | k + 1 => by show (someTo m X b0 i (j + k) || _) = true; rw [someTo_mono h k]; rfl
def someB (m : MatM) (X Y : List Nat) (i : Nat) : Bool := someTo m X (nzB (Y.getD i 0)) i X.length
set_option maxRecDepth 100000 in
set_option maxHeartbeats 2000000 in
/-- resid.nothing. -/
theorem nothing_any (m : MatM) (D VX VY : Value) (X Y : List Nat) (i : Nat) (w : World) (hD : FS w D m.ws) (hX : FS w VX X) (hY : FS w VY Y) (hm : m.good = true) (hwf : m.wf) (hl : m.ws.length ≤ 1000000) (hiY : i < Y.length) (hi : (i : Int) < m.rows) (hx : (X.length : Int) = m.cols) (hc : m.cols ≤ 1000) :
   Calls Try.prog 182 #[.agg #[D, .int .i64 m.off, .int .i64 m.rows, .int .i64 m.cols, .int .i64 m.ld], VX, VY, .int .i64 i] w (fun e w' => e = .returned (.bool (!(someB m X Y i))) ∧ ∃ o n, w' = ext w o n) := by
  obtain ⟨aX, cX, rfl⟩ := hX.shape
  obtain ⟨blk2, o2, cap2, rfl, hblk2, hc2⟩ := hY.open (by omega)
  obtain ⟨b2, hb2, hf2⟩ := hc2 i hiY
  have hat : ∀ (j : Nat) w', FS w' D m.ws → (j : Int) < m.cols → Calls Try.prog 186 #[.agg #[D, .int .i64 m.off, .int .i64 m.rows, .int .i64 m.cols, .int .i64 m.ld], .int .i64 i, .int .i64 j] w' (fun e w2 => ∃ b, e = .returned (.float .f64 b) ∧ IsF b (m.num i j) ∧ ∃ o n, w2 = ext w' o n) := fun j w' h hj => vat_any m D i j w' h hm hwf hi hj hl
  have Hx := hid hx
  have Hc := hid hc
  clear hm hwf hi hc2 hx hc
  cases hb : nzB (Y.getD i 0)
  · have e1 := nz_eq hf2 hb
    have e2 := nz_ne hf2 hb
    have HB := hid hb
    simp only [Bool.not_false] at e1
    clear hb
    go_enter Try.func182, Try.ntmps182
    refine seq_stop ?_
    go_wp2
    refine stop_go (fun W hW => ?_)
    have s1 : w.heap.size < W.heap.size := by rw [hW]; simp only [World.size_alloc]; omega
    have b1 : ∀ i, W.cell? ⟨w.heap.size, i, none⟩ = (#[D, .int .i64 m.off, .int .i64 m.rows, .int .i64 m.cols, .int .i64 m.ld] : Array Value)[i]? := by intro i; rw [hW]; go_simp
    have g0 : Grew w W := by rw [hW]; exact (Grew.refl _).alloc _
    clear hW
    have hDW := hD.grew g0
    have hXW := hX.grew g0
    have hbW := (g0.cell hblk2).trans hb2
    have hkW : blk2 < W.heap.size := Nat.lt_of_lt_of_le hblk2 g0.below.size
    go_wp2
    go_loopw [18] (fun c wr => ∃ (j : Nat) (o : Array Obj) (n : Nat), j ≤ X.length ∧ c = .int .i64 j ∧ wr = ext W o n ∧ someTo m X false i j = false) (fun c _ => X.length - (intOf c).toNat)
    case atStart => exact ⟨0, #[], _, Nat.zero_le _, rfl, ext_zero.symm, rfl⟩
    case round =>
      obtain ⟨j, o3, n3, hj, rfl, hwr, hs⟩ := hrel
      subst hwr
      by_cases hlt : j < X.length
      · obtain ⟨blk, o, ex, hblk, hcx⟩ := hXW.at.2 (by omega)
        subst ex
        obtain ⟨b, hb, hf⟩ := hcx j hlt
        have hatj := fun w' p => hat j w' p (by have := Hx.out; omega)
        have hsucc : someTo m X false i (j + 1) = (nzB (m.num i j) && nzB (X.getD j 0)) := by show (someTo m X false i j || _) = _; rw [hs]; rfl
        have Hs := hid hsucc
        have HJ := hid hlt
        have hl2 : X.length ≤ 1000 := by have := Hx.out; have := Hc.out; omega
        clear hcx hsucc hs
        cases hp : nzB (m.num i j)
        · have hs2 : someTo m X false i (j + 1) = false := by rw [Hs.out, hp]; rfl
          have Hs2 := hid hs2
          clear hs2
          go_wp2_with (first | (go_at_call 186; ((with_reducible refine (hatj _ ?_).mono ?_); (focus (first | (with_reducible assumption) | (with_reducible refine FS.ext ?_ _ _; with_reducible assumption) | (with_reducible refine IS.ext ?_ _ _; with_reducible assumption) | (refine hDu _ ?_; with_reducible assumption) | (refine hOu _ ?_; with_reducible assumption) | (refine hDa _ ?_; with_reducible assumption) | (refine hDb _ ?_; with_reducible assumption) | (refine hDc _ ?_; with_reducible assumption) | (refine hDd _ ?_; with_reducible assumption) | (refine FW.fs ?_ (by omega) _; with_reducible assumption) | (refine WS.fs ?_; with_reducible assumption) | (refine FW.fs ?_ (by omega) _; assumption) | omega | assumption)); rintro e w1 ⟨ra, rfl, hra, o5, n5, rfl⟩; (have d1 := nz_ne hra hp); (have d2 := nz_eq hra hp); simp only [Bool.not_true, Bool.not_false] at d2; clear hp)))
          go_roundw
          case rel => exact ⟨j + 1, _, _, by have := HJ.out; omega, by go_num, rfl, Hs2.out⟩
          case measure => (have := HJ.out; simp [intOf]; omega)
        · cases hq : nzB (X.getD j 0)
          · have hs2 : someTo m X false i (j + 1) = false := by rw [Hs.out, hp, hq]; rfl
            have Hs2 := hid hs2
            have q1 := nz_ne hf hq
            have q2 := nz_eq hf hq
            simp only [Bool.not_false] at q2
            clear hs2 hq
            go_wp2_with (first | (go_at_call 186; ((with_reducible refine (hatj _ ?_).mono ?_); (focus (first | (with_reducible assumption) | (with_reducible refine FS.ext ?_ _ _; with_reducible assumption) | (with_reducible refine IS.ext ?_ _ _; with_reducible assumption) | (refine hDu _ ?_; with_reducible assumption) | (refine hOu _ ?_; with_reducible assumption) | (refine hDa _ ?_; with_reducible assumption) | (refine hDb _ ?_; with_reducible assumption) | (refine hDc _ ?_; with_reducible assumption) | (refine hDd _ ?_; with_reducible assumption) | (refine FW.fs ?_ (by omega) _; with_reducible assumption) | (refine WS.fs ?_; with_reducible assumption) | (refine FW.fs ?_ (by omega) _; assumption) | omega | assumption)); rintro e w1 ⟨ra, rfl, hra, o5, n5, rfl⟩; (have d1 := nz_ne hra hp); (have d2 := nz_eq hra hp); simp only [Bool.not_true, Bool.not_false] at d2; clear hp)))
            go_roundw
            case rel => exact ⟨j + 1, _, _, by have := HJ.out; omega, by go_num, rfl, Hs2.out⟩
            case measure => (have := HJ.out; simp [intOf]; omega)
          · have hs2 : someB m X Y i = true := by
              unfold someB
              rw [HB.out]
              have h4 : someTo m X false i (j + 1) = true := by rw [Hs.out, hp, hq]; rfl
              have h5 := someTo_mono h4 (X.length - (j + 1))
              rwa [show j + 1 + (X.length - (j + 1)) = X.length by have := HJ.out; omega] at h5
            have Hs2 := hid hs2
            have q1 := nz_ne hf hq
            have q2 := nz_eq hf hq
            simp only [Bool.not_true] at q2
            clear hs2 hq
            go_wp2_with (first | (go_at_call 186; ((with_reducible refine (hatj _ ?_).mono ?_); (focus (first | (with_reducible assumption) | (with_reducible refine FS.ext ?_ _ _; with_reducible assumption) | (with_reducible refine IS.ext ?_ _ _; with_reducible assumption) | (refine hDu _ ?_; with_reducible assumption) | (refine hOu _ ?_; with_reducible assumption) | (refine hDa _ ?_; with_reducible assumption) | (refine hDb _ ?_; with_reducible assumption) | (refine hDc _ ?_; with_reducible assumption) | (refine hDd _ ?_; with_reducible assumption) | (refine FW.fs ?_ (by omega) _; with_reducible assumption) | (refine WS.fs ?_; with_reducible assumption) | (refine FW.fs ?_ (by omega) _; assumption) | omega | assumption)); rintro e w1 ⟨ra, rfl, hra, o5, n5, rfl⟩; (have d1 := nz_ne hra hp); (have d2 := nz_eq hra hp); simp only [Bool.not_true, Bool.not_false] at d2; clear hp)))
            go_ret
            exact ⟨ret_bool (by rw [Hs2.out]; rfl), by (show Grew _ _; repeat (first | (with_reducible exact Grew.refl _) | (with_reducible assumption) | (with_reducible exact Grew.same_o) | (with_reducible exact Grew.app_o) | (with_reducible refine Grew.ext ?_ _ _) | (with_reducible refine Grew.alloc ?_ _) | ((with_reducible refine Grew.setCell ?_ ?_ _); rotate_left; (focus (dsimp only; first | omega | (simp only [size_ext, World.size_alloc, Array.size_append]; omega)))) | (with_reducible refine Grew.drewN ?_ _) | (with_reducible refine Grew.drew ?_)))⟩
      · have e : j = X.length := by omega
        have hq : someB m X Y i = false := by unfold someB; rw [HB.out, ← e]; exact hs
        clear hs
        go_wp2
        go_ret
        exact ⟨ret_bool (by rw [hq]; rfl), by (show Grew _ _; repeat (first | (with_reducible exact Grew.refl _) | (with_reducible assumption) | (with_reducible exact Grew.same_o) | (with_reducible exact Grew.app_o) | (with_reducible refine Grew.ext ?_ _ _) | (with_reducible refine Grew.alloc ?_ _) | ((with_reducible refine Grew.setCell ?_ ?_ _); rotate_left; (focus (dsimp only; first | omega | (simp only [size_ext, World.size_alloc, Array.size_append]; omega)))) | (with_reducible refine Grew.drewN ?_ _) | (with_reducible refine Grew.drew ?_)))⟩
  · have e1 := nz_eq hf2 hb
    have e2 := nz_ne hf2 hb
    simp only [Bool.not_true] at e1
    have hq : someB m X Y i = true := by
      unfold someB
      rw [hb]
      have := someTo_mono (m := m) (X := X) (b0 := true) (i := i) (j := 0) rfl X.length
      rwa [Nat.zero_add] at this
    clear hb
    go_enter Try.func182, Try.ntmps182
    refine seq_stop ?_
    go_wp2
    refine stop_go (fun W hW => ?_)
    have s1 : w.heap.size < W.heap.size := by rw [hW]; simp only [World.size_alloc]; omega
    have b1 : ∀ i, W.cell? ⟨w.heap.size, i, none⟩ = (#[D, .int .i64 m.off, .int .i64 m.rows, .int .i64 m.cols, .int .i64 m.ld] : Array Value)[i]? := by intro i; rw [hW]; go_simp
    have g0 : Grew w W := by rw [hW]; exact (Grew.refl _).alloc _
    clear hW
    have hbW := (g0.cell hblk2).trans hb2
    have hkW : blk2 < W.heap.size := Nat.lt_of_lt_of_le hblk2 g0.below.size
    go_wp2
    go_ret
    exact ⟨ret_bool (by rw [hq]; rfl), by (show Grew _ _; repeat (first | (with_reducible exact Grew.refl _) | (with_reducible assumption) | (with_reducible exact Grew.same_o) | (with_reducible exact Grew.app_o) | (with_reducible refine Grew.ext ?_ _ _) | (with_reducible refine Grew.alloc ?_ _) | ((with_reducible refine Grew.setCell ?_ ?_ _); rotate_left; (focus (dsimp only; first | omega | (simp only [size_ext, World.size_alloc, Array.size_append]; omega)))) | (with_reducible refine Grew.drewN ?_ _) | (with_reducible refine Grew.drew ?_)))⟩
end Go.Proofs.Ytcmggfpcbijcjaa
end
section
/-
  Contracts: view.Dense without numbers; (M).Copy and straightedgeref08.Ger.
-/
set_option linter.unusedSimpArgs false
set_option linter.unusedVariables false
open Go Go.RowKit Sedge
namespace Go.Proofs.Ytcmggfpcbijcjaa
section
variable {P : Program} {o : Oper} {a : Act} {w : World} {K : Act → World → Prop} {Q : Exit → Act → World → Prop}
theorem wp_any (h : o.wp P a w K (fun e a w => e = .normal ∧ K a w)) : o.wp P a w K Q := by
  unfold Oper.wp at *
  generalize (execOp a.eval o).run P w = r at *
  cases r with
  | ok n w' =>
    cases n <;> simp only [Oper.upon] at h ⊢ <;> try exact h
    refine h.mono fun e w2 hh => ?_
    cases e with
    | returned v => exact hh
    | panicked c => exact absurd hh.1 (by simp)
    | outgrown => obtain ⟨_, _, h1, _⟩ := hh; cases h1
  | halt k w' =>
    cases k <;> simp only [Oper.upon] at h ⊢ <;> first | exact h | exact absurd h.1 (by simp)
theorem wp_id (h : o.wp P a w K Q) : o.wp P a w K Q := h
theorem wp_app {d : Option Tmp} {s x : Operand} {tt : Array TypeId} {ty : TypeId} {ps : String} {aft : Array Edge} (h : Oper.wp P { dst := d, op := .call { callee := .builtin .append, args := #[s, x], argTypes := tt }, type := ty, pos := ps, after := aft, guard := none } a w K Q) : Oper.wp P { dst := d, op := .call { callee := .builtin .append, args := #[s, x], argTypes := tt }, type := ty, pos := ps, after := aft, guard := none } a w K Q := h
/-- 'append(s, src...)', in a region that draws its order. -/
theorem appendN_K {t e : TypeId} (T : ElemF P t e) {W : World} (hW : Grew W w) {v : Value} {xs : List Nat} (hown : OwnF e w W.heap.size v xs) {D : Value} {ws : List Nat} (hD : FS w D ws)
    (hlen : xs.length + ws.length < 17592186044415) (s x : Operand) (hg : o.guard = none)
    (ho : o.op = .call { callee := .builtin .append, args := #[s, x], argTypes := #[t, t] }) (hs : a.eval s = v) (hx : a.eval x = D)
    (h : ∀ v' oo nn, OwnF e (ext W oo nn) W.heap.size v' (xs ++ ws) → (v ≠ .slice none 0 0 → v' ≠ .slice none 0 0) → K (a.put o.dst v') (ext W oo nn)) : o.wp P a w K Q := by
  have h1 := appendN_f (P := P) (ops := #[]) (Q := fun e a w => e = .normal ∧ K a w) (rest := []) T hW hown hD hlen s x hg ho hs hx (fun v' oo nn h1 h2 => ⟨rfl, h v' oo nn h1 h2⟩)
  unfold wpList at h1
  rw [if_pos (wanted_none hg)] at h1
  rcases h1 with h1 | ⟨_, _, _, h2, _⟩
  · exact wp_any (Oper.wp_mono (fun a w hh => hh.2) h1)
  · cases h2
end
set_option maxRecDepth 100000 in
set_option maxHeartbeats 1000000 in
/-- view.Dense, of sizes within 64, without numbers. -/
theorem dense0_any (r c : Nat) (w : World) (hr : r ≤ 64) (hc : c ≤ 64) (hr1 : 1 ≤ r) (hc1 : 1 ≤ c) :
   Calls Try.prog 69 #[.int .i64 r, .int .i64 c, .slice none 0 0] w (fun e w' => ∃ v, e = .returned (.agg #[v, .int .i64 0, .int .i64 r, .int .i64 c, .int .i64 r]) ∧ WS w' w.heap.size v (List.replicate (r * c) 0) ∧ ∃ o n, w' = ext w o n) := by
  have hm : r * c ≤ 64 * 64 := Nat.mul_le_mul hr hc
  have h2 : IntKind.i64.wrap ((r : Int) * c) = (r : Int) * c := IntWalk.i64_in _ (by rw [← Int.natCast_mul]; omega)
  have h3 : (0 : Int) ≤ (r : Int) * c := by rw [← Int.natCast_mul]; omega
  have d1 : decide ((r : Int) < 0) = false := by simp
  have d2 : decide ((c : Int) < 0) = false := by simp
  have d3 : decide ((64 : Int) < (r : Int)) = false := by simp; omega
  have d4 : decide ((64 : Int) < (c : Int)) = false := by simp; omega
  have d6 : decide ((1 : Int) ≤ (r : Int)) = true := by simp; omega
  have d7 : decide ((0 : Int) ≤ (r : Int) * c) = true := by simpa using h3
  go_enter Try.func69, Try.ntmps69
  refine seq_stop ?_
  go_wp2
  refine stop_go (fun W hW => ?_)
  have s1 : w.heap.size < W.heap.size := by rw [hW]; simp only [World.size_alloc]; omega
  have b1 : ∀ i, W.cell? ⟨w.heap.size, i, none⟩ = (#[.slice none 0 0, .int .i64 0, .int .i64 0, .int .i64 0, .int .i64 0] : Array Value)[i]? := by intro i; rw [hW]; go_simp
  have f1 : ∀ i, W.frozen? ⟨w.heap.size, i, none⟩ = false := by intro i; rw [hW]; go_simp
  have g0 : Grew w W := by rw [hW]; exact (Grew.refl _).alloc _
  clear hW
  go_wp2_with (at_make; refine make_f (L := (r : Int) * (c : Int)) finfo (Grew.refl W) _ _ rfl rfl (r * c) (Int.natCast_mul r c).symm rfl rfl (by omega) ?_; intro oo nn k hk ho; have hF := ho.made)
  refine name_any (fun V hV => ?_)
  have gV : Grew W V := by rw [← hV]; (show Grew _ _; repeat (first | (with_reducible exact Grew.refl _) | (with_reducible assumption) | (with_reducible refine Grew.ext ?_ _ _) | (with_reducible refine Grew.alloc ?_ _) | ((with_reducible refine Grew.setCell ?_ ?_ _); rotate_left; (focus (dsimp only; first | omega | (simp only [size_ext, World.size_alloc, Array.size_append]; omega)))) | (with_reducible refine Grew.drewN ?_ _) | (with_reducible refine Grew.drew ?_)))
  have sV := gV.below.size
  have k1 : w.heap.size < V.heap.size := by omega
  have k3 : W.heap.size + oo.size < V.heap.size := by rw [← hV]; simp only [World.size_alloc, size_ext]; omega
  have c1 : ∀ i, V.cell? ⟨w.heap.size, i, none⟩ = (#[.slice none 0 0, .int .i64 0, .int .i64 0, .int .i64 0, .int .i64 0] : Array Value)[i]? := fun i => (gV.cell s1).trans (b1 i)
  have z1 : ∀ i, V.frozen? ⟨w.heap.size, i, none⟩ = false := fun i => (gV.frozen s1).trans (f1 i)
  have c3 : ∀ i, V.cell? ⟨W.heap.size + oo.size, i, none⟩ = (#[.slice (some ⟨k, 0, none⟩) (r * c) (r * c), .int .i64 0, .int .i64 r, .int .i64 c, .int .i64 r] : Array Value)[i]? := by subst hV; intro i; go_simp
  have hFV : FW V k (List.replicate (r * c) 0) := by rw [← hV]; (repeat (first | (with_reducible assumption) | ((with_reducible refine FW.ext_set ?_ ?_ ?_ _); rotate_left; (focus (simp only [size_setCell', World.size_alloc, size_ext, size_upd]; omega)); (focus (dsimp only; omega))) | ((with_reducible refine FW.setCell_ne ?_ ?_ _); rotate_left; (focus (dsimp only; omega))) | (with_reducible refine FW.ext ?_ _ _) | (with_reducible refine FW.alloc ?_ _)))
  have q1 : w.heap.size ≠ k := by omega
  clear hV b1 f1 ho
  go_loopw [43] (fun s wr => s = .int .i64 0 ∧ wr = V) (fun s _ => 0)
  case atStart => exact ⟨rfl, rfl⟩
  case round =>
    obtain ⟨rfl, rfl⟩ := hrel
    go_wp2
    refine bodyPost_ret (v := .agg #[.slice (some ⟨k, 0, none⟩) (r * c) (r * c), .int .i64 0, .int .i64 r, .int .i64 c, .int .i64 r]) (by simp [results, Try.results69, go_sem, *]) rfl ?_
    exact ⟨_, rfl, ⟨k, _, by rw [List.length_replicate], by omega, by (repeat (first | (with_reducible assumption) | ((with_reducible refine FW.ext_set ?_ ?_ ?_ _); rotate_left; (focus (simp only [size_setCell', World.size_alloc, size_ext, size_upd]; omega)); (focus (dsimp only; omega))) | ((with_reducible refine FW.setCell_ne ?_ ?_ _); rotate_left; (focus (dsimp only; omega))) | (with_reducible refine FW.ext ?_ _ _) | (with_reducible refine FW.alloc ?_ _))), by rw [List.length_replicate]; omega⟩, by have gwr := g0.trans gV; (show Grew _ _; repeat (first | (with_reducible exact Grew.refl _) | (with_reducible assumption) | (with_reducible refine Grew.ext ?_ _ _) | (with_reducible refine Grew.alloc ?_ _) | ((with_reducible refine Grew.setCell ?_ ?_ _); rotate_left; (focus (dsimp only; first | omega | (simp only [size_ext, World.size_alloc, Array.size_append]; omega)))) | (with_reducible refine Grew.drewN ?_ _) | (with_reducible refine Grew.drew ?_)))⟩
set_option maxRecDepth 100000 in
set_option maxHeartbeats 1000000 in
/-- (M).Copy. -/
theorem mcopy_any (R C : Int) (A : Value) (T : List Nat) (w : World) (hA : FS w A T) (hl : T.length ≤ 1000000) :
   Calls Try.prog 140 #[.agg #[.int .i64 R, .int .i64 C, A]] w (fun e w' => ∃ v, e = .returned (.agg #[.int .i64 R, .int .i64 C, v]) ∧ WS w' w.heap.size v T ∧ ∃ o n, w' = ext w o n) := by
  obtain ⟨aA, cA, rfl⟩ := hA.shape
  go_enter Try.func140, Try.ntmps140
  refine seq_stop ?_
  go_wp2
  refine stop_go (fun W hW => ?_)
  have s1 : w.heap.size < W.heap.size := by rw [hW]; simp only [World.size_alloc]; omega
  have b1 : ∀ i, W.cell? ⟨w.heap.size, i, none⟩ = (#[.int .i64 R, .int .i64 C, .slice aA T.length cA] : Array Value)[i]? := by intro i; rw [hW]; go_simp
  have f1 : ∀ i, W.frozen? ⟨w.heap.size, i, none⟩ = false := by intro i; rw [hW]; go_simp
  have s2 : w.heap.size + 1 < W.heap.size := by rw [hW]; simp only [World.size_alloc]; omega
  have b2 : ∀ i, W.cell? ⟨w.heap.size + 1, i, none⟩ = (#[.int .i64 0, .int .i64 0, .slice none 0 0] : Array Value)[i]? := by intro i; rw [hW]; go_simp
  have f2 : ∀ i, W.frozen? ⟨w.heap.size + 1, i, none⟩ = false := by intro i; rw [hW]; go_simp
  have g0 : Grew w W := by rw [hW]; exact ((Grew.refl _).alloc _).alloc _
  clear hW
  have hAW : FS W (.slice aA T.length cA) T := hA.grew g0
  go_wp2
  refine wp_region_R (Grew W) [9] [(3,0), (0,1), (3,2), (0,3), (3,5), (0,6), (1,4), (1,7), (0,8), (2,9)] (by kernel_rfl) (by kernel_rfl) (fun _ _ _ _ h _ => h) (by first | exact ⟨_, _, ext_drew⟩ | exact ⟨_, _, drew_ext0⟩ | (show Grew _ _; repeat (first | (with_reducible exact Grew.refl _) | (with_reducible assumption) | (with_reducible refine Grew.ext ?_ _ _) | (with_reducible refine Grew.alloc ?_ _) | ((with_reducible refine Grew.setCell ?_ ?_ _); rotate_left; (focus (dsimp only; first | omega | (simp only [size_ext, World.size_alloc, Array.size_append]; omega)))) | (with_reducible refine Grew.drewN ?_ _) | (with_reducible refine Grew.drew ?_)))) ?_
  refine name_any (fun W2 hW2 => ?_)
  have g2 : Grew W W2 := by rw [← hW2]; (show Grew _ _; repeat (first | (with_reducible exact Grew.refl _) | (with_reducible assumption) | (with_reducible refine Grew.ext ?_ _ _) | (with_reducible refine Grew.alloc ?_ _) | ((with_reducible refine Grew.setCell ?_ ?_ _); rotate_left; (focus (dsimp only; first | omega | (simp only [size_ext, World.size_alloc, Array.size_append]; omega)))) | (with_reducible refine Grew.drewN ?_ _) | (with_reducible refine Grew.drew ?_)))
  have hAW2 := hAW.grew g2
  have gww : Grew w W2 := g0.trans g2
  have zW := g0.below.size
  have z2 := g2.below.size
  have b12 := fun i => (g2.cell s1).trans (b1 i)
  have b22 := fun i => (g2.cell s2).trans (b2 i)
  have f22 := fun i => (g2.frozen s2).trans (f2 i)
  have s12 : w.heap.size < W2.heap.size := by omega
  have s22 : w.heap.size + 1 < W2.heap.size := by omega
  clear hW2
  go_wp2_with (first | ((with_reducible refine wpR_id ?_); refine wpR_do rfl rfl (fun K hK => ?_); (with_reducible refine wp_app ?_); refine appendN_K finfo (Grew.refl W2 |>.alloc _) (OwnF.empty rfl (Nat.le_refl _)) (FS.alloc hAW2 _) (by simp; omega) _ _ rfl rfl rfl rfl ?_; intro v oo nn ho hn; obtain ⟨g, cap, rfl, hg, hF, hL⟩ := ho.ws (hn notnil) (by simp; omega); simp only [List.nil_append] at hF hL) | ((with_reducible refine wpR_id ?_); first | (refine wpR_take (v := ?_) rfl rfl ?_ ?_; rotate_left; (focus (rintro w' ⟨o', n', rfl⟩; go_simp; try with_reducible rfl)); simp only [Act.put, List.setIfInBounds_toArray, List.set_cons_zero, List.set_cons_succ]) | (refine wpR_pure (v := ?_) rfl rfl ?_ ?_; rotate_left; (focus (intro w'; go_simp; try with_reducible rfl)); simp only [Act.put, List.setIfInBounds_toArray, List.set_cons_zero, List.set_cons_succ]) | (refine wpR_takeG (v := ?_) rfl rfl rfl rfl rfl ?_ ?_; rotate_left; (focus (rintro w' ⟨o', n', rfl⟩; go_simp; try with_reducible rfl)); simp only [Act.put, List.setIfInBounds_toArray, List.set_cons_zero, List.set_cons_succ]) | (refine wpR_skip rfl rfl rfl rfl rfl rfl ?_; simp only [Act.put, List.setIfInBounds_toArray, List.set_cons_zero, List.set_cons_succ]) | (refine wpR_skipU rfl rfl rfl rfl rfl ?_; simp only [Act.put, List.setIfInBounds_toArray, List.set_cons_zero, List.set_cons_succ]) | (refine wpR_do rfl rfl (fun K hK => ?_)) | (refine wpR_doG rfl rfl rfl rfl rfl (fun K hK => ?_)) | (refine wpR_last rfl rfl (fun K hK => ?_)) | (refine wpR_nil ?_)) | ((with_reducible refine wpR_go ?_ ?_); (focus (show Grew _ _; repeat (first | (with_reducible exact Grew.refl _) | (with_reducible assumption) | (with_reducible refine Grew.ext ?_ _ _) | (with_reducible refine Grew.alloc ?_ _) | ((with_reducible refine Grew.setCell ?_ ?_ _); rotate_left; (focus (dsimp only; first | omega | (simp only [size_ext, World.size_alloc, Array.size_append]; omega)))) | (with_reducible refine Grew.drewN ?_ _) | (with_reducible refine Grew.drew ?_))))) | ((with_reducible refine upon_id ?_); refine upon_fop rfl (by assumption) (by assumption) ?_; intro rr nn hr))
  refine bodyPost_ret (v := .agg #[.int .i64 R, .int .i64 C, .slice (some ⟨g, 0, none⟩) T.length cap]) (by simp [results, Try.results140, go_sem, *]) rfl ?_
  exact ⟨_, rfl, ⟨g, cap, rfl, by omega, by (repeat (first | (with_reducible assumption) | ((with_reducible refine FW.ext_set ?_ ?_ ?_ _); rotate_left; (focus (simp only [size_setCell', World.size_alloc, size_ext, size_upd]; omega)); (focus (dsimp only; omega))) | ((with_reducible refine FW.setCell_ne ?_ ?_ _); rotate_left; (focus (dsimp only; omega))) | (with_reducible refine FW.ext ?_ _ _) | (with_reducible refine FW.alloc ?_ _))), hL⟩, by (show Grew _ _; repeat (first | (with_reducible exact Grew.refl _) | (with_reducible assumption) | (with_reducible refine Grew.ext ?_ _ _) | (with_reducible refine Grew.alloc ?_ _) | ((with_reducible refine Grew.setCell ?_ ?_ _); rotate_left; (focus (dsimp only; first | omega | (simp only [size_ext, World.size_alloc, Array.size_append]; omega)))) | (with_reducible refine Grew.drewN ?_ _) | (with_reducible refine Grew.drew ?_)))⟩
/-- Row by row: what is done up to (i, j). -/
def stepR (F s : Nat → Nat → Nat) (i j : Nat) (r c : Nat) : Nat := if r < i ∨ (r = i ∧ c < j) then F r c else s r c
def rgerF (α : Nat) (lx ly : List Nat) (M : Nat → Nat → Nat) (i j : Nat) : Nat := fadd (M i j) (fmul (fmul α (ly.getD j 0)) (lx.getD i 0))
set_option maxRecDepth 100000 in
set_option maxHeartbeats 4000000 in
/-- straightedgeref08.Ger. -/
theorem rger_any (a α R C : Nat) (T lx ly : List Nat) (M : Nat → Nat → Nat) (A X Y : Value) (w : World) (ha : IsF a α) (hA : FS w A T) (hX : FS w X lx) (hY : FS w Y ly) (hx : lx.length = R) (hy : ly.length = C) (hT : T.length = R * C) (hM : Hold (fun i j => i * C + j) R C T T M) (hR : R ≤ 1000) (hC : C ≤ 1000) :
   Calls Try.prog 60 #[.float .f64 a, X, Y, .agg #[.int .i64 R, .int .i64 C, A]] w (fun e w' => ∃ v t, e = .returned (.agg #[.int .i64 R, .int .i64 C, v]) ∧ WS w' w.heap.size v t ∧ Hold (fun i j => i * C + j) R C T t (rgerF α lx ly M) ∧ ∃ o n, w' = ext w o n) := by
  have hRC : R * C ≤ 1000 * 1000 := Nat.mul_le_mul hR hC
  have hpl : Places (fun i j => i * C + j) R C T.length := by rw [hT]; exact tabPlaces R C
  have HT := hid hT
  have Hx := hid hx
  have Hy := hid hy
  obtain ⟨aA, cA, rfl⟩ := hA.shape
  obtain ⟨aX, cX, rfl⟩ := hX.shape
  obtain ⟨aY, cY, rfl⟩ := hY.shape
  have hat : ∀ i j : Nat, i < R → j < C → ∀ w', FS w' (.slice aA T.length cA) T → Calls Try.prog 72 #[.agg #[.int .i64 R, .int .i64 C, .slice aA T.length cA], .int .i64 i, .int .i64 j] w' (fun e w2 => ∃ b, e = .returned (.float .f64 b) ∧ IsF b (M i j) ∧ ∃ o n, w2 = ext w' o n) := fun i j hi hj w' h => by
    have := rat_any R C i j (.slice aA T.length cA) T w' h hR hC (by omega) (by omega) (by rw [hT]; exact at_lt hi hj)
    rw [hM.get i j hi hj] at this; exact this
  have hcp : ∀ w', FS w' (.slice aA T.length cA) T → Calls Try.prog 140 #[.agg #[.int .i64 R, .int .i64 C, .slice aA T.length cA]] w' (fun e w2 => ∃ v, e = .returned (.agg #[.int .i64 R, .int .i64 C, v]) ∧ WS w2 w'.heap.size v T ∧ ∃ o n, w2 = ext w' o n) := fun w' h => mcopy_any R C _ T w' h (by omega)
  clear hT hx hy
  go_enter Try.func60, Try.ntmps60
  refine seq_stop ?_
  go_wp2
  refine stop_go (fun W hW => ?_)
  have s1 : w.heap.size < W.heap.size := by rw [hW]; simp only [World.size_alloc]; omega
  have b1 : ∀ i, W.cell? ⟨w.heap.size, i, none⟩ = (#[.int .i64 R, .int .i64 C, .slice aA T.length cA] : Array Value)[i]? := by intro i; rw [hW]; go_simp
  have f1 : ∀ i, W.frozen? ⟨w.heap.size, i, none⟩ = false := by intro i; rw [hW]; go_simp
  have s2 : w.heap.size + 1 < W.heap.size := by rw [hW]; simp only [World.size_alloc]; omega
  have b2 : ∀ i, W.cell? ⟨w.heap.size + 1, i, none⟩ = (#[.int .i64 0, .int .i64 0, .slice none 0 0] : Array Value)[i]? := by intro i; rw [hW]; go_simp
  have f2 : ∀ i, W.frozen? ⟨w.heap.size + 1, i, none⟩ = false := by intro i; rw [hW]; go_simp
  have g0 : Grew w W := by rw [hW]; exact ((Grew.refl _).alloc _).alloc _
  clear hW
  have hAW := hA.grew g0
  have hXW := hX.grew g0
  have hYW := hY.grew g0
  go_wp2_with (first | (go_at_call 140; ((with_reducible refine (hcp _ hAW).mono ?_); rintro e w1 ⟨v, rfl, ⟨g, cap, rfl, hg, hF, hgl⟩, oc, nc, rfl⟩)))
  refine name_any (fun V hV => ?_)
  have gV : Grew W V := by rw [← hV]; (show Grew _ _; repeat (first | (with_reducible exact Grew.refl _) | (with_reducible assumption) | (with_reducible refine Grew.ext ?_ _ _) | (with_reducible refine Grew.alloc ?_ _) | ((with_reducible refine Grew.setCell ?_ ?_ _); rotate_left; (focus (dsimp only; first | omega | (simp only [size_ext, World.size_alloc, Array.size_append]; omega)))) | (with_reducible refine Grew.drewN ?_ _) | (with_reducible refine Grew.drew ?_)))
  have zw := g0.below.size
  have zV := gV.below.size
  have hFV : FW V g T := by rw [← hV]; (repeat (first | (with_reducible assumption) | ((with_reducible refine FW.ext_set ?_ ?_ ?_ _); rotate_left; (focus (simp only [size_setCell', World.size_alloc, size_ext, size_upd]; omega)); (focus (dsimp only; omega))) | ((with_reducible refine FW.setCell_ne ?_ ?_ _); rotate_left; (focus (dsimp only; omega))) | (with_reducible refine FW.ext ?_ _ _) | (with_reducible refine FW.alloc ?_ _)))
  have cT : ∀ i, V.cell? ⟨W.heap.size + oc.size, i, none⟩ = (#[.int .i64 R, .int .i64 C, .slice (some ⟨g, 0, none⟩) T.length cap] : Array Value)[i]? := by subst hV; intro i; go_simp
  have kT : W.heap.size + oc.size < V.heap.size := by rw [← hV]; simp only [World.size_alloc, size_ext]; omega
  have ngT : W.heap.size + oc.size ≠ g := by have := hF.lt; simp only [size_ext] at this; omega
  obtain ⟨U, hU⟩ : ∃ U, W.heap.size + oc.size = U := ⟨_, rfl⟩
  have zU : W.heap.size ≤ U := by omega
  rw [hU] at cT kT ngT
  simp only [hU]
  have hG : ∀ k ∈ [g], W.heap.size ≤ k := by intro k hk; simp at hk; omega
  have hDu := But.fs gV hAW hG
  have hXu := But.fs gV hXW hG
  have hYu := But.fs gV hYW hG
  have c1 := But.boxW gV s1 b1 hG
  have c2 := But.boxW gV s2 b2 hG
  have z2 : ∀ w', But V [g] w' → ∀ i, w'.frozen? ⟨w.heap.size + 1, i, none⟩ = false := fun w' hb i => by
    have h1 := hb.block (w.heap.size + 1) (by omega) (by simp; omega)
    have h2 := (gV.frozen s2).trans (f2 i)
    unfold World.frozen? at h2 ⊢; simp only [h1] at h2 ⊢; exact h2
  have cU : ∀ w', But V [g] w' → ∀ i, w'.cell? ⟨U, i, none⟩ = (#[.int .i64 R, .int .i64 C, .slice (some ⟨g, 0, none⟩) T.length cap] : Array Value)[i]? := fun w' h i => (h.cell kT (by simpa using ngT)).trans (cT i)
  have kV : w.heap.size < V.heap.size := by omega
  have kV2 : w.heap.size + 1 < V.heap.size := by omega
  clear hV hU cT b1 b2 f1 f2 hF hcp
  go_loopw [10] (fun c wr => ∃ (i : Nat) (L : List Nat), i ≤ R ∧ c = .int .i64 i ∧ But V [g] wr ∧ FW wr g L ∧ Hold (fun i j => i * C + j) R C T L (stepR (rgerF α lx ly M) M i 0)) (fun c _ => R - (intOf c).toNat)
  case atStart => exact ⟨0, T, Nat.zero_le _, rfl, But.refl _ _, hFV, hM.congr fun i j _ _ => by simp [stepR]⟩
  case round =>
    obtain ⟨i, L, hi, rfl, hB, hL, hH⟩ := hrel
    have t1 := c1 _ hB
    have sB := hB.size
    have x1 : w.heap.size < wr.heap.size := by omega
    by_cases hlt : (i : Int) < R
    · have hiR : i < R := by omega
      go_wp2
      go_loopw [11] (fun c wr => ∃ (j : Nat) (L : List Nat), j ≤ C ∧ c = .int .i64 j ∧ But V [g] wr ∧ FW wr g L ∧ Hold (fun i j => i * C + j) R C T L (stepR (rgerF α lx ly M) M i j)) (fun c _ => C - (intOf c).toNat)
      case atStart => exact ⟨0, L, Nat.zero_le _, rfl, hB, hL, hH⟩
      case round =>
        obtain ⟨j, L2, hj, rfl, hB2, hL2, hH2⟩ := hrel
        have t1 := c1 _ hB2
        have tU := cU _ hB2
        have sB := hB2.size
        have x1 : w.heap.size < wr.heap.size := by omega
        have xU : U < wr.heap.size := by omega
        by_cases hl2 : (j : Int) < C
        · have hjC : j < C := by omega
          have hatij := hat i j hiR hjC
          have hgd := hH2.get i j hiR hjC
          have hset : ∀ w' r z, FW w' g L2 → IsF r z → Calls Try.prog 134 #[.agg #[.int .i64 R, .int .i64 C, .slice (some ⟨g, 0, none⟩) T.length cap], .int .i64 i, .int .i64 j, .float .f64 r] w' (fun e w2 => e = .returned (.tuple #[]) ∧ Wrote w' w2 g (L2.set (i * C + j) z)) := fun w' r z h1 h2 =>
            rset_any R C i j g cap T.length r z L2 w' h1 h2 hH2.len.symm hR hC (by omega) (by omega) (by rw [hH2.len, HT.out]; exact at_lt hiR hjC)
          obtain ⟨bx, ox, hax, hkx, hcx⟩ := hXW.at.2 (by rw [Hx.out]; omega)
          obtain ⟨rx, hrx, hfx⟩ := hcx i (by rw [Hx.out]; omega)
          obtain ⟨bz, oz, haz, hkz, hcz⟩ := hYW.at.2 (by rw [Hy.out]; omega)
          obtain ⟨ry, hry, hfy⟩ := hcz j (by rw [Hy.out]; omega)
          subst hax haz
          have lx1 : (i : Int) < lx.length := by rw [Hx.out]; omega
          have ly1 : (j : Int) < ly.length := by rw [Hy.out]; omega
          have crx : ∀ w', But V [g] w' → w'.cell? ⟨bx, ox + i, none⟩ = some (.float .f64 rx) := fun w' h => (h.cell (by omega) (by simp; omega)).trans ((gV.cell hkx).trans hrx)
          have cry : ∀ w', But V [g] w' → w'.cell? ⟨bz, oz + j, none⟩ = some (.float .f64 ry) := fun w' h => (h.cell (by omega) (by simp; omega)).trans ((gV.cell hkz).trans hry)
          clear hcx hcz hrx hry
          go_wp2
          refine wp_region_R (But V [g]) [] [(0,0), (0,1), (0,2), (0,3), (0,4), (0,5), (0,7), (0,8), (0,9), (0,10), (0,11), (0,13), (0,14), (0,15), (0,16), (1,6), (1,12), (1,17), (1,18), (1,19)] (by kernel_rfl) (by kernel_rfl) (fun _ _ _ _ h _ => h) (hB2.grew ((Grew.refl _).drew)) ?_
          refine name_any (fun V6 hV6 => ?_)
          have hg6 : Grew wr V6 := by rw [← hV6]; (show Grew _ _; repeat (first | (with_reducible exact Grew.refl _) | (with_reducible assumption) | (with_reducible refine Grew.ext ?_ _ _) | (with_reducible refine Grew.alloc ?_ _) | ((with_reducible refine Grew.setCell ?_ ?_ _); rotate_left; (focus (dsimp only; first | omega | (simp only [size_ext, World.size_alloc, Array.size_append]; omega)))) | (with_reducible refine Grew.drewN ?_ _) | (with_reducible refine Grew.drew ?_)))
          have B6 := hB2.grew hg6
          have F6 := hL2.grew hg6
          clear hV6 hg6
          go_wp2_with (first | ((with_reducible refine wpR_id ?_); first | (refine wpR_take (v := ?_) rfl rfl ?_ ?_; rotate_left; (focus (intro w' hw'; go_simp; try with_reducible rfl)); simp only [Act.put, List.setIfInBounds_toArray, List.set_cons_zero, List.set_cons_succ]) | (refine wpR_pure (v := ?_) rfl rfl ?_ ?_; rotate_left; (focus (intro w'; go_simp; try with_reducible rfl)); simp only [Act.put, List.setIfInBounds_toArray, List.set_cons_zero, List.set_cons_succ]) | (refine wpR_takeG (v := ?_) rfl rfl rfl rfl rfl ?_ ?_; rotate_left; (focus (intro w' hw'; go_simp; try with_reducible rfl)); simp only [Act.put, List.setIfInBounds_toArray, List.set_cons_zero, List.set_cons_succ]) | (refine wpR_skip rfl rfl rfl rfl rfl rfl ?_; simp only [Act.put, List.setIfInBounds_toArray, List.set_cons_zero, List.set_cons_succ]) | (refine wpR_skipU rfl rfl rfl rfl rfl ?_; simp only [Act.put, List.setIfInBounds_toArray, List.set_cons_zero, List.set_cons_succ]) | (refine wpR_do rfl rfl (fun K hK => ?_)) | (refine wpR_doG rfl rfl rfl rfl rfl (fun K hK => ?_)) | (refine wpR_last rfl rfl (fun K hK => ?_)) | (refine wpR_nil ?_)) | ((with_reducible refine wpR_go ?_ ?_); (focus (with_reducible assumption))) | ((with_reducible refine upon_id ?_); refine upon_fop rfl (by assumption) (by assumption) ?_; intro rr nn hr) | (go_at_call 72; ((with_reducible refine (hatij _ (hDu _ (by assumption))).mono ?_); rintro e w1 ⟨r1, rfl, hr1, hw1⟩; (have B7 := B6.grew hw1; have F7 := F6.grew hw1))) | (go_at_call 141; ((with_reducible refine (times_any a ry α _ _ ha hfy).mono ?_); rintro e w1 ⟨r2, rfl, hr2, hw2⟩; (have B8 := B7.grew hw2; have F8 := F7.grew hw2))) | (go_at_call 141; ((with_reducible refine (times_any r2 rx _ _ _ hr2 hfx).mono ?_); rintro e w1 ⟨r3, rfl, hr3, hw3⟩; (have B9 := B8.grew hw3; have F9 := F8.grew hw3))) | (go_at_call 36; ((with_reducible refine (plus_any r1 r3 _ _ _ hr1 hr3).mono ?_); rintro e w1 ⟨r4, rfl, hr4, hw4⟩; (have B10 := B9.grew hw4; have F10 := F9.grew hw4))) | (go_at_call 134; ((with_reducible refine (hset _ r4 _ F10 hr4).mono ?_); rintro e w1 ⟨rfl, hw5⟩; (have B11 := B10.wrote hw5 (.inl (by simp))))))
          go_roundw
          case rel =>
            refine ⟨j + 1, _, by omega, by go_num, B11, hw5.fw F10, (hH2.set hpl hiR hjC).congr fun r c hr hc => ?_⟩
            unfold stepR
            by_cases hrc : r = i ∧ c = j
            · obtain ⟨rfl, rfl⟩ := hrc
              simp [rgerF]
            · rw [if_neg hrc]
              by_cases h2 : r < i ∨ (r = i ∧ c < j)
              · rw [if_pos h2, if_pos (by omega)]
              · rw [if_neg h2, if_neg (by omega)]
          case measure => simp [intOf]; omega
        · have e : j = C := by omega
          go_wp2
          go_roundw
          case rel =>
            refine ⟨i + 1, L2, by omega, by go_num, hB2, hL2, hH2.congr fun r c hr hc => ?_⟩
            unfold stepR
            by_cases h2 : r < i ∨ (r = i ∧ c < j)
            · rw [if_pos h2, if_pos (by omega)]
            · rw [if_neg h2, if_neg (by omega)]
          case measure => simp [intOf]; omega
    · have e : i = R := by omega
      have t2 := c2 _ hB
      have tU := cU _ hB
      have zz := z2 _ hB
      have x2 : w.heap.size + 1 < wr.heap.size := by omega
      have xU : U < wr.heap.size := by omega
      go_wp2
      refine bodyPost_ret (v := .agg #[.int .i64 R, .int .i64 C, .slice (some ⟨g, 0, none⟩) T.length cap]) (by simp [results, Try.results60, go_sem, *]) rfl ?_
      have gwr : Grew w wr := g0.trans (hB.grew0 gV hG)
      have hlL : L.length = T.length := hH.len
      refine ⟨_, rfl, L, ⟨g, cap, by rw [hlL], by omega, by (repeat (first | (with_reducible assumption) | ((with_reducible refine FW.ext_set ?_ ?_ ?_ _); rotate_left; (focus (simp only [size_setCell', World.size_alloc, size_ext, size_upd]; omega)); (focus (dsimp only; omega))) | ((with_reducible refine FW.setCell_ne ?_ ?_ _); rotate_left; (focus (dsimp only; omega))) | (with_reducible refine FW.ext ?_ _ _) | (with_reducible refine FW.alloc ?_ _))), by rw [hlL]; omega⟩, hH.congr fun r c hr hc => ?_, by (show Grew _ _; repeat (first | (with_reducible exact Grew.refl _) | (with_reducible assumption) | (with_reducible refine Grew.ext ?_ _ _) | (with_reducible refine Grew.alloc ?_ _) | ((with_reducible refine Grew.setCell ?_ ?_ _); rotate_left; (focus (dsimp only; first | omega | (simp only [size_ext, World.size_alloc, Array.size_append]; omega)))) | (with_reducible refine Grew.drewN ?_ _) | (with_reducible refine Grew.drew ?_)))⟩
      unfold stepR
      rw [if_pos (by omega)]
end Go.Proofs.Ytcmggfpcbijcjaa
end
