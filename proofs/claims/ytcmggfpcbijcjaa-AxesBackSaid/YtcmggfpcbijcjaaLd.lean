/-
  Contracts: math.IsInf, IsNaN, Inf, Copysign, normalize.
-/
import Derived.Test.YtcmggfpcbijcjaaFltLd
import Derived.Test.YtcmggfpcbijcjaaRef1
import Derived.Test.YtcmggfpcbijcjaaMk
set_option linter.unusedSimpArgs false
set_option linter.unusedVariables false
open Go Go.RowKit Sedge
namespace Go.Proofs.Ytcmggfpcbijcjaa
theorem i64_and2047 (n : Int) : bits .and .i64 n 2047 = n % 2048 := by
  have h : (BitVec.ofInt 64 2047).toNat = 2 ^ 11 - 1 := by decide
  have key : (BitVec.ofInt 64 n &&& BitVec.ofInt 64 2047).toNat = (n % ((2 ^ 64 : Nat) : Int)).toNat % 2 ^ 11 := by
    rw [BitVec.toNat_and, BitVec.toNat_ofInt, h, Nat.and_two_pow_sub_one_eq_mod]
  show IntKind.i64.wrap ((BitVec.ofInt 64 n &&& BitVec.ofInt 64 2047).toNat : Nat) = n % 2048
  rw [key, IntKind.wrap_i64]
  omega
theorem and_p63_low (r : Nat) (h : r < 2 ^ 63) : r &&& 2 ^ 63 = 0 := by
  apply Nat.eq_of_testBit_eq
  intro i
  rw [Nat.testBit_and, Nat.testBit_two_pow, Nat.zero_testBit]
  by_cases hi : 63 = i
  · subst hi; rw [Nat.testBit_lt_two_pow h]; rfl
  · simp [hi]
theorem and_p63 (q r : Nat) (hq : q = 0 ∨ q = 1) (h : r < 2 ^ 63) : (2 ^ 63 * q + r) &&& 2 ^ 63 = 2 ^ 63 * q := by
  rcases hq with rfl | rfl
  · rw [Nat.mul_zero, Nat.zero_add]; exact and_p63_low r h
  · rw [Nat.two_pow_add_eq_or_of_lt h, Nat.and_or_distrib_right, and_p63_low r h, Nat.or_zero, Nat.mul_one, Nat.and_self]
/-- Struck out: the exponent's digits. -/
theorem strike (q X f : Nat) (hq : q = 0 ∨ q = 1) (hX : X < 2048) (hf : f < 2 ^ 52) : (2 ^ 63 * q + (X * 2 ^ 52 + f)) &&& 9227875636482146303 = 2 ^ 63 * q + f := by
  have hr : X * 2 ^ 52 + f < 2 ^ 63 := by have : (2:Nat) ^ 52 = 4503599627370496 := by decide
                                          have : (2:Nat) ^ 63 = 9223372036854775808 := by decide
                                          omega
  have hM : 9227875636482146303 = 2 ^ 63 ||| (2 ^ 52 - 1) := by decide
  rw [hM, Nat.and_or_distrib_left, and_p63 q _ hq hr, Nat.and_two_pow_sub_one_eq_mod]
  have hm : (2 ^ 63 * q + (X * 2 ^ 52 + f)) % 2 ^ 52 = f := by
    have e : 2 ^ 63 * q + (X * 2 ^ 52 + f) = 2 ^ 52 * (2048 * q + X) + f := by
      have : (2:Nat) ^ 52 = 4503599627370496 := by decide
      have : (2:Nat) ^ 63 = 9223372036854775808 := by decide
      omega
    rw [e, Nat.mul_add_mod, Nat.mod_eq_of_lt hf]
  rw [hm, ← Nat.two_pow_add_eq_or_of_lt (Nat.lt_trans hf (by decide))]
/-- And laid anew. -/
theorem lay_in (q X f : Nat) (hq : q = 0 ∨ q = 1) (hX : X < 2048) (hf : f < 2 ^ 52) : (2 ^ 63 * q + f) ||| (X * 2 ^ 52) = 2 ^ 63 * q + (X * 2 ^ 52 + f) := by
  have p52 : (2:Nat) ^ 52 = 4503599627370496 := by decide
  have p63 : (2:Nat) ^ 63 = 9223372036854775808 := by decide
  have e1 : 2 ^ 63 * q + f = 2 ^ 52 * (2048 * q) + f := by omega
  have e2 : X * 2 ^ 52 = X <<< 52 := (Nat.shiftLeft_eq X 52).symm
  have e3 : 2 ^ 52 * (2048 * q) = (2048 * q) <<< 52 := by rw [Nat.shiftLeft_eq, Nat.mul_comm]
  have e4 : 2048 * q ||| X = 2048 * q + X := by
    have := Nat.two_pow_add_eq_or_of_lt (i := 11) (b := X) hX q
    exact this.symm
  rw [e1, Nat.two_pow_add_eq_or_of_lt hf, Nat.or_assoc, Nat.or_comm f, ← Nat.or_assoc, e3, e2, ← Nat.shiftLeft_or_distrib, e4, Nat.shiftLeft_eq, Nat.mul_comm (2048 * q + X), ← Nat.two_pow_add_eq_or_of_lt hf]
  omega
def sN (s : Bool) : Nat := if s then 1 else 0
theorem sN_or (s : Bool) : sN s = 0 ∨ sN s = 1 := by cases s <;> simp [sN]
theorem word_sN (s : Bool) (n : Nat) : D64.word s n = 2 ^ 63 * sN s + n := by
  cases s
  · rw [word_false]; simp [sN]
  · rw [word_true]; simp [sN]
theorem neg_word (b : Nat) (hb : b < 2 ^ 64) : b = 2 ^ 63 * sN (pNeg b) + b % 2 ^ 63 := by
  have h := Nat.div_add_mod b (2 ^ 63)
  have hq : b / 2 ^ 63 = sN (pNeg b) := by
    have hs : SW = 2 ^ 63 := by decide +kernel
    unfold pNeg sN
    rw [hs]
    by_cases h1 : b / 2 ^ 63 = 1
    · simp [h1]
    · simp only [h1, decide_false, Bool.false_eq_true, if_false]
      have : b / 2 ^ 63 < 2 := Nat.div_lt_of_lt_mul (by rw [← Nat.pow_succ]; exact hb)
      omega
  rw [hq] at h; exact h.symm
theorem sign_bits (b : Nat) (hb : b < 2 ^ 64) : bits .or .u64 (bits .andNot .u64 0 9223372036854775808) (bits .and .u64 (b : Int) 9223372036854775808) = ((D64.word (pNeg b) 0 : Nat) : Int) := by
  have hb' : b < 18446744073709551616 := hb
  rw [show bits .andNot .u64 0 9223372036854775808 = ((0 : Nat) : Int) from u64_andNot_nat 0 9223372036854775808 (by decide) (by decide)]
  rw [show bits .and .u64 (b : Int) 9223372036854775808 = ((b &&& 2 ^ 63 : Nat) : Int) from u64_and_nat b 9223372036854775808 hb' (by decide)]
  have h1 : b &&& 2 ^ 63 = 2 ^ 63 * sN (pNeg b) := by
    conv => lhs; rw [neg_word b hb]
    exact and_p63 _ _ (sN_or _) (Nat.mod_lt _ (by decide))
  have h2 : 2 ^ 63 * sN (pNeg b) < 18446744073709551616 := by rcases sN_or (pNeg b) with h | h <;> rw [h] <;> decide
  rw [h1, u64_or_nat 0 _ (by decide) h2, Nat.zero_or, word_sN, Nat.add_zero]
set_option maxRecDepth 100000 in
theorem isinf_any (b : Nat) (w : World) (hb : b < 2 ^ 64) : Calls Try.prog 216 #[.float .f64 b, .int .i64 0] w (fun e w' => e = .returned (.bool (decide (pKind b = 1))) ∧ w = w') := by
  have hb' : b < 18446744073709551616 := hb
  have h : (FloatKind.f64.format.order (b % SW) 9218868437227405311 == some Ordering.gt) = decide (pKind b = 1) := ord_max b hb
  obtain ⟨v, hv⟩ : ∃ v, v = decide (pKind b = 1) := ⟨_, rfl⟩
  rw [← hv] at h ⊢
  clear hv hb
  go_enter Try.func216, Try.ntmps216
  go_wp2_with (first | (go_at_call 164; ((with_reducible refine (mabs_bits b _ hb').mono ?_); rintro e w1 ⟨rfl, rfl⟩)))
  all_goals go_ret
  all_goals exact ⟨rfl, rfl⟩
set_option maxRecDepth 100000 in
theorem isnan_any (b : Nat) (w : World) (hb : b < 2 ^ 64) : Calls Try.prog 223 #[.float .f64 b] w (fun e w' => e = .returned (.bool (decide (pKind b = 2))) ∧ w = w') := by
  have h : (FloatKind.f64.format.order b b != some Ordering.eq) = decide (pKind b = 2) := (order_self b).trans (isNan_kind b hb)
  obtain ⟨v, hv⟩ : ∃ v, v = decide (pKind b = 2) := ⟨_, rfl⟩
  rw [← hv] at h ⊢
  clear hv hb
  go_enter Try.func223, Try.ntmps223
  go_wp2
  go_ret
  exact ⟨rfl, rfl⟩
set_option maxRecDepth 100000 in
theorem inf_any (s : Bool) (w : World) : Calls Try.prog 226 #[.int .i64 (if s then -1 else 1)] w (fun e w' => e = .returned (.float .f64 (D64.word s IR)) ∧ w = w') := by
  have hI : IR = 9218868437227405312 := by decide +kernel
  cases s
  · rw [word_false, hI]
    go_enter Try.func226, Try.ntmps226
    go_wp2
    go_ret
    exact ⟨rfl, rfl⟩
  · rw [word_true, hI]
    go_enter Try.func226, Try.ntmps226
    go_wp2
    go_ret
    exact ⟨rfl, rfl⟩
set_option maxRecDepth 100000 in
theorem copysign_any (b : Nat) (w : World) (hb : b < 2 ^ 64) : Calls Try.prog 225 #[.float .f64 0, .float .f64 b] w (fun e w' => e = .returned (.float .f64 (D64.word (pNeg b) 0)) ∧ w = w') := by
  have h := sign_bits b hb
  go_enter Try.func225, Try.ntmps225
  go_wp2
  go_ret
  exact ⟨by first | rfl | (simp only [Int.toNat_natCast]), rfl⟩
/-- Made normal. -/
def nrmF (x : Nat) : Nat := if expo x = 0 then fmul x 4841369599423283200 else x
def nrmE (x : Nat) : Int := if expo x = 0 then -52 else 0
set_option maxRecDepth 100000 in
theorem normalize_any (b : Nat) (w : World) (hb : b < 2 ^ 64) (hk : pKind b = 0) : Calls Try.prog 224 #[.float .f64 b] w (fun e w' => ∃ r, e = .returned (.tuple #[.float .f64 r, .int .i64 (nrmE b)]) ∧ IsF r (nrmF b) ∧ ∃ o n, w' = ext w o n) := by
  have hb' : b < 18446744073709551616 := hb
  have hs : IsF b b := by
    have := isF_self hb
    have hn : isNan b = false := by rw [isNan_kind b hb, hk]; decide
    rwa [canon_not hn] at this
  have hc : IsF 4841369599423283200 4841369599423283200 := by decide +kernel
  have h : (FloatKind.f64.format.order (b % SW) 4503599627370496 == some Ordering.lt) = decide (expo b = 0) := ord_min b hb hk
  by_cases he : expo b = 0
  · have hl : (FloatKind.f64.format.order (b % SW) 4503599627370496 == some Ordering.lt) = true := by rw [h]; simpa using he
    have e1 : nrmE b = -52 := by unfold nrmE; rw [if_pos he]
    have e2 : nrmF b = fmul b 4841369599423283200 := by unfold nrmF; rw [if_pos he]
    rw [e1, e2]
    clear h he e1 e2 hk
    go_enter Try.func224, Try.ntmps224
    go_wp2_with (first | (go_at_call 164; ((with_reducible refine (mabs_bits b _ hb').mono ?_); rintro e w1 ⟨rfl, rfl⟩)) | ((with_reducible refine upon_id ?_); refine upon_fop rfl (by assumption) (by assumption) ?_; intro rr nn hr))
    refine bodyPost_ret (v := .tuple #[.float .f64 rr, .int .i64 (-52)]) (by simp [results, Try.results224, go_sem, *]) rfl ?_
    exact ⟨_, rfl, hr, by (show Grew _ _; repeat (first | (with_reducible exact Grew.refl _) | (with_reducible assumption) | (with_reducible refine Grew.ext ?_ _ _) | (with_reducible refine Grew.alloc ?_ _) | ((with_reducible refine Grew.setCell ?_ ?_ _); rotate_left; (focus (dsimp only; first | omega | (simp only [size_ext, World.size_alloc, Array.size_append]; omega)))) | (with_reducible refine Grew.drewN ?_ _) | (with_reducible refine Grew.drew ?_)))⟩
  · have hl : (FloatKind.f64.format.order (b % SW) 4503599627370496 == some Ordering.lt) = false := by rw [h]; simpa using he
    have e1 : nrmE b = 0 := by unfold nrmE; rw [if_neg he]
    have e2 : nrmF b = b := by unfold nrmF; rw [if_neg he]
    rw [e1, e2]
    clear h he e1 e2 hk
    go_enter Try.func224, Try.ntmps224
    go_wp2_with (first | (go_at_call 164; ((with_reducible refine (mabs_bits b _ hb').mono ?_); rintro e w1 ⟨rfl, rfl⟩)))
    refine bodyPost_ret (v := .tuple #[.float .f64 b, .int .i64 0]) (by simp [results, Try.results224, go_sem, *]) rfl ?_
    exact ⟨_, rfl, hs, by (show Grew _ _; repeat (first | (with_reducible exact Grew.refl _) | (with_reducible assumption) | (with_reducible refine Grew.ext ?_ _ _) | (with_reducible refine Grew.alloc ?_ _) | ((with_reducible refine Grew.setCell ?_ ?_ _); rotate_left; (focus (dsimp only; first | omega | (simp only [size_ext, World.size_alloc, Array.size_append]; omega)))) | (with_reducible refine Grew.drewN ?_ _) | (with_reducible refine Grew.drew ?_)))⟩
end Go.Proofs.Ytcmggfpcbijcjaa
