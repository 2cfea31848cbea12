import Derived.Test.YtcmggfpcbijcjaaFltVal
set_option linter.unusedSimpArgs false
set_option linter.unusedVariables false
namespace Sedge
open Ieee

def p2 (k : Int) : Rat := (2 : Rat) ^ k
theorem p2_pos (k : Int) : 0 < p2 k := Rat.zpow_pos (by decide)
theorem p2_add (j k : Int) : p2 (j + k) = p2 j * p2 k := Rat.zpow_add (by decide) j k
theorem p2_zero : p2 0 = 1 := Rat.zpow_zero 2
theorem p2_one : p2 1 = 2 := Rat.zpow_one 2
theorem p2_nat (n : Nat) : p2 n = ((2 ^ n : Nat) : Rat) := by
  unfold p2; rw [Rat.zpow_natCast, Rat.natCast_pow]; rfl
theorem p2_succ (k : Int) : p2 (k + 1) = 2 * p2 k := by rw [p2_add, p2_one, Rat.mul_comm]
theorem p2_mono {j k : Int} (h : j ≤ k) : p2 j ≤ p2 k := by
  obtain ⟨n, rfl⟩ : ∃ n : Nat, k = j + n := ⟨(k - j).toNat, by omega⟩
  rw [p2_add, p2_nat]
  have h1 : (1 : Rat) ≤ ((2 ^ n : Nat) : Rat) := by
    have : 1 ≤ 2 ^ n := Nat.two_pow_pos n
    have := Rat.natCast_le_natCast.2 this
    simpa using this
  have := Rat.mul_le_mul_of_nonneg_left h1 (Rat.le_of_lt (p2_pos j))
  grind
theorem p2_lt {j k : Int} (h : j < k) : p2 j < p2 k := by
  have h1 : p2 (j + 1) ≤ p2 k := p2_mono (by omega)
  rw [p2_succ] at h1
  have := p2_pos j
  grind
theorem p2_inv (k : Int) : p2 k * p2 (-k) = 1 := by rw [← p2_add, show k + -k = 0 by omega, p2_zero]
theorem p2_sub_mul (j k : Int) : p2 (j - k) * p2 k = p2 j := by rw [← p2_add, show j - k + k = j by omega]

/-- What a word is worth (0 of what is not finite). -/
def sgn (s : Bool) : Rat := if s then -1 else 1
def dat (s : Bool) (m : Nat) (p : Int) : Rat := sgn s * ((m : Rat) * p2 p)
def val (b : Nat) : Rat := match D64.read b with
  | .number s m p => dat s m p
  | _ => 0
/-- Finite. -/
def fin (b : Nat) : Bool := match D64.read b with
  | .number .. => true
  | _ => false

theorem abs_sgn_mul (s : Bool) (x : Rat) : (sgn s * x).abs = x.abs := by
  cases s
  · simp [sgn]
  · have : sgn true * x = -x := by simp [sgn]; grind
    rw [this, Rat.abs_neg]

/-! keptP and lastP. -/
theorem lastP_ge (m : Nat) (p : Int) : -1074 ≤ lastP m p := Int.le_max_right _ _
theorem lastP_ge' (m : Nat) (p : Int) : p + m.log2 - 52 ≤ lastP m p := Int.le_max_left _ _
theorem lastP_or (m : Nat) (p : Int) : lastP m p = p + m.log2 - 52 ∨ (lastP m p = -1074 ∧ p + m.log2 - 52 ≤ -1074) := by
  unfold lastP; omega

/-- In units of 2^lastP: the numerator. -/
def numP (m : Nat) (p : Int) : Nat := m <<< (p - lastP m p).toNat
def dropP (m : Nat) (p : Int) : Nat := (lastP m p - p).toNat

theorem numP_val (m : Nat) (p : Int) : (numP m p : Rat) * p2 (lastP m p) = (m : Rat) * p2 p * (2 ^ dropP m p : Nat) := by
  unfold numP dropP
  rw [Nat.shiftLeft_eq, Rat.natCast_mul, ← p2_nat, ← p2_nat]
  have : (p2 ((p - lastP m p).toNat : Nat)) * p2 (lastP m p) = p2 p * p2 ((lastP m p - p).toNat : Nat) := by
    rw [← p2_add, ← p2_add]; congr 1; omega
  grind

/-- How far the kept digits are from the number: half a unit at most. -/
theorem kept_err (m : Nat) (p : Int) : ((keptP m p : Rat) * p2 (lastP m p) - (m : Rat) * p2 p).abs ≤ p2 (lastP m p - 1) := by
  have hlo := rne_lo (numP m p) (dropP m p)
  have hhi := rne_hi (numP m p) (dropP m p)
  have hk : rne (numP m p) (dropP m p) = keptP m p := rfl
  rw [hk] at hlo hhi
  have hv := numP_val m p
  have hg : 0 < ((2 ^ dropP m p : Nat) : Rat) := Rat.natCast_pos.2 (Nat.two_pow_pos _)
  have hlo' := Rat.natCast_le_natCast.2 hlo
  have hhi' := Rat.natCast_le_natCast.2 hhi
  simp only [Rat.natCast_add, Rat.natCast_mul] at hlo' hhi'
  have h2 : ((2 : Nat) : Rat) = 2 := rfl
  rw [h2] at hlo' hhi'
  have hu := p2_pos (lastP m p)
  have hu1 : 2 * p2 (lastP m p - 1) = p2 (lastP m p) := by rw [← p2_succ]; congr 1; omega
  generalize ((2 ^ dropP m p : Nat) : Rat) = g at *
  generalize (keptP m p : Rat) = k at *
  generalize (numP m p : Rat) = n at *
  generalize p2 (lastP m p) = u at *
  generalize (m : Rat) * p2 p = x at *
  generalize p2 (lastP m p - 1) = h at *
  -- n u = x g; 2 n ≤ 2 k g + g; 2 k g ≤ 2 n + g
  have a1 : 2 * n * u ≤ (2 * (k * g) + g) * u := Rat.mul_le_mul_of_nonneg_right hlo' (Rat.le_of_lt hu)
  have a2 : 2 * (k * g) * u ≤ (2 * n + g) * u := Rat.mul_le_mul_of_nonneg_right hhi' (Rat.le_of_lt hu)
  have b1 : g * (2 * x) ≤ g * (2 * (k * u) + u) := by grind
  have b2 : g * (2 * (k * u)) ≤ g * (2 * x + u) := by grind
  have c1 := Rat.le_of_mul_le_mul_left b1 hg
  have c2 := Rat.le_of_mul_le_mul_left b2 hg
  rcases Rat.le_total (a := 0) (b := k * u - x) with h0 | h0
  · rw [Rat.abs_of_nonneg h0]; grind
  · rw [Rat.abs_of_nonpos h0]; grind

theorem kept_le (m : Nat) (p : Int) (h : m ≠ 0) : keptP m p ≤ 2 ^ 53 := by
  -- m 2^p < 2^(log2 m + 1 + p) ≤ 2^(lastP + 53)
  have hl := (log2_spec m h).2
  have hle : numP m p ≤ 2 ^ 53 * 2 ^ dropP m p := by
    unfold numP dropP
    rw [Nat.shiftLeft_eq, ← Nat.pow_add]
    have h1 : m * 2 ^ (p - lastP m p).toNat ≤ 2 ^ (m.log2 + 1) * 2 ^ (p - lastP m p).toNat := Nat.mul_le_mul_right _ (Nat.le_of_lt hl)
    rw [← Nat.pow_add] at h1
    refine Nat.le_trans h1 (Nat.pow_le_pow_right (by decide) ?_)
    have := lastP_ge' m p
    omega
  have := rne_mono hle (dropP m p)
  rw [rne_exact] at this
  exact this
theorem kept_ge (m : Nat) (p : Int) (h : m ≠ 0) (hn : lastP m p = p + m.log2 - 52) : 2 ^ 52 ≤ keptP m p := by
  have hl := (log2_spec m h).1
  have hle : 2 ^ 52 * 2 ^ dropP m p ≤ numP m p := by
    unfold numP dropP
    rw [Nat.shiftLeft_eq, ← Nat.pow_add]
    have h1 : 2 ^ m.log2 * 2 ^ (p - lastP m p).toNat ≤ m * 2 ^ (p - lastP m p).toNat := Nat.mul_le_mul_right _ hl
    rw [← Nat.pow_add] at h1
    refine Nat.le_trans (Nat.pow_le_pow_right (by decide) ?_) h1
    omega
  have := rne_mono hle (dropP m p)
  rw [rne_exact] at this
  exact this

theorem BN_eq : BN = 2 ^ 52 := by decide +kernel
theorem IR_eq : IR = 2046 * BN + BN := by decide +kernel
theorem SW_eq : SW = 2048 * BN := by decide +kernel

/-- A word below infinity, of kept digits k at place l, is worth k 2^l. -/
theorem read_kept (s : Bool) (l : Int) (k : Nat) (hl : -1074 ≤ l) (hk : k ≤ 2 ^ 53) (hn : 2 ^ 52 ≤ k ∨ l = -1074)
    (hf : (l + 1074).toNat * BN + k < IR) :
    ∃ m q, D64.read (D64.word s ((l + 1074).toNat * BN + k)) = .number s m q ∧ (m : Rat) * p2 q = (k : Rat) * p2 l := by
  have hlt : (l + 1074).toNat * BN + k < SW := Nat.lt_trans hf (by decide +kernel)
  rw [read_word s _ hlt]
  have hb : BN = 2 ^ 52 := BN_eq
  have hb0 : 0 < BN := by decide +kernel
  by_cases h1 : (l + 1074).toNat * BN + k < BN
  · rw [if_pos h1]
    have hl0 : (l + 1074).toNat = 0 := by
      rcases Nat.eq_zero_or_pos (l + 1074).toNat with h | h
      · exact h
      · have : BN ≤ (l + 1074).toNat * BN := Nat.le_mul_of_pos_left _ h
        omega
    have : l = -1074 := by omega
    refine ⟨_, _, rfl, ?_⟩
    rw [hl0, Nat.zero_mul, Nat.zero_add, this]
  · rw [if_neg h1, if_pos hf]
    refine ⟨_, _, rfl, ?_⟩
    have h53 : (2 : Nat) ^ 53 = 2 * BN := by rw [hb]
    have hkb : BN ≤ k ∨ (l + 1074).toNat = 0 := by
      rcases hn with h | h
      · left; omega
      · right; omega
    have hk1 : BN ≤ k := by
      rcases hkb with h | h
      · exact h
      · rw [h, Nat.zero_mul, Nat.zero_add] at h1; omega
    by_cases hk2 : k < 2 * BN
    · have e1 : ((l + 1074).toNat * BN + k) % BN = k - BN := by
        rw [Nat.add_comm, Nat.add_mul_mod_self_right]
        have : k = BN + (k - BN) := by omega
        rw [this, Nat.add_mod_left, Nat.mod_eq_of_lt (by omega)]; omega
      have e2 : ((l + 1074).toNat * BN + k) / BN = (l + 1074).toNat + 1 := by
        rw [Nat.add_comm, Nat.add_mul_div_right _ _ hb0]
        have : k / BN = 1 := by
          apply Nat.div_eq_of_lt_le <;> omega
        omega
      rw [e1, e2]
      have e3 : BN + (k - BN) = k := by omega
      have e4 : (-1074 + (((l + 1074).toNat + 1 - 1 : Nat) : Int)) = l := by omega
      rw [e3, e4]
    · have hk3 : k = 2 * BN := by omega
      have e1 : ((l + 1074).toNat * BN + k) % BN = 0 := by
        rw [hk3, ← Nat.add_mul, Nat.mul_mod_left]
      have e2 : ((l + 1074).toNat * BN + k) / BN = (l + 1074).toNat + 2 := by
        rw [hk3, ← Nat.add_mul, Nat.mul_div_cancel _ hb0]
      rw [e1, e2, hk3]
      have e4 : (-1074 + (((l + 1074).toNat + 2 - 1 : Nat) : Int)) = l + 1 := by omega
      rw [e4, p2_succ, Nat.add_zero, Rat.natCast_mul]
      have h2 : ((2 : Nat) : Rat) = 2 := rfl
      rw [h2]
      grind

/-- THE NEAREST: if finite, it is within half a unit. -/
theorem nearest_err (s : Bool) (m : Nat) (p : Int) (h : m ≠ 0) (hf : fin (D64.nearest s m p) = true) :
    (val (D64.nearest s m p) - dat s m p).abs ≤ p2 (lastP m p - 1) ∧ val (D64.nearest s m p) = dat s (keptP m p) (lastP m p) := by
  rw [nearest_eq s m p h] at hf ⊢
  have hlt : (lastP m p + 1074).toNat * BN + keptP m p < IR := by
    rcases Nat.lt_or_ge ((lastP m p + 1074).toNat * BN + keptP m p) IR with h1 | h1
    · exact h1
    · rw [Nat.min_eq_right h1] at hf
      unfold fin at hf
      rw [read_word s IR (by decide +kernel), if_neg (by decide +kernel), if_neg (by decide +kernel), if_pos rfl] at hf
      cases hf
  rw [Nat.min_eq_left (Nat.le_of_lt hlt)] at hf ⊢
  have hor : 2 ^ 52 ≤ keptP m p ∨ lastP m p = -1074 := by
    rcases lastP_or m p with h1 | h1
    · exact .inl (kept_ge m p h h1)
    · exact .inr h1.1
  obtain ⟨m', q, hr, hv⟩ := read_kept s (lastP m p) (keptP m p) (lastP_ge m p) (kept_le m p h) hor hlt
  have hval : val (D64.word s ((lastP m p + 1074).toNat * BN + keptP m p)) = dat s (keptP m p) (lastP m p) := by
    unfold val
    rw [hr]
    show sgn s * (_ * _) = sgn s * (_ * _)
    rw [hv]
  refine ⟨?_, hval⟩
  rw [hval]
  unfold dat
  have : sgn s * (↑(keptP m p) * p2 (lastP m p)) - sgn s * (↑m * p2 p) = sgn s * (↑(keptP m p) * p2 (lastP m p) - ↑m * p2 p) := by grind
  rw [this, abs_sgn_mul]
  exact kept_err m p

end Sedge
