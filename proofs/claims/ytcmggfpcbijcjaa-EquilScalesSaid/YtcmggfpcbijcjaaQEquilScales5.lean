/-
  Texts laid one behind the other (a claim has at most 60 files): Ld, Ld2, Sums, Fork, Bnd, Exp1, Exp2, Trsv1, Trsv2.
-/
import Derived.Test.YtcmggfpcbijcjaaQEquilScales1
import Derived.Test.YtcmggfpcbijcjaaQEquilScales2
import Derived.Test.YtcmggfpcbijcjaaQEquilScales3
import Derived.Test.YtcmggfpcbijcjaaQEquilScales4
section
/-
  Contracts: math.IsInf, IsNaN, Inf, Copysign, normalize.
-/
set_option linter.unusedSimpArgs false
set_option linter.unusedVariables false
open Go Go.RowKit Sedge
namespace Go.Proofs.Ytcmggfpcbijcjaa
theorem i64_and2047 (n : Int) : bits .and .i64 n 2047 = n % 2048 := by
  have h : (BitVec.ofInt 64 2047).toNat = 2 ^ 11 - 1 := by decide
  have key : (BitVec.ofInt 64 n &&& BitVec.ofInt 64 2047).toNat = (n % ((2 ^ 64 : Nat) : Int)).toNat % 2 ^ 11 := by
    rw [BitVec.toNat_and, BitVec.toNat_ofInt, h, Nat.and_two_pow_sub_one_eq_mod]
  show IntKind.i64.wrap ((BitVec.ofInt 64 n &&& BitVec.ofInt 64 2047).toNat : Nat) = n % 2048
  rw [key, IntKind.wrap_i64]
  omega
theorem and_p63_low (r : Nat) (h : r < 2 ^ 63) : r &&& 2 ^ 63 = 0 := by
  apply Nat.eq_of_testBit_eq
  intro i
  rw [Nat.testBit_and, Nat.testBit_two_pow, Nat.zero_testBit]
  by_cases hi : 63 = i
  · subst hi; rw [Nat.testBit_lt_two_pow h]; rfl
  · simp [hi]
theorem and_p63 (q r : Nat) (hq : q = 0 ∨ q = 1) (h : r < 2 ^ 63) : (2 ^ 63 * q + r) &&& 2 ^ 63 = 2 ^ 63 * q := by
  rcases hq with rfl | rfl
  · rw [Nat.mul_zero, Nat.zero_add]; exact and_p63_low r h
  · rw [Nat.two_pow_add_eq_or_of_lt h, Nat.and_or_distrib_right, and_p63_low r h, Nat.or_zero, Nat.mul_one, Nat.and_self]
/-- Struck out: the exponent's digits. -/
theorem strike (q X f : Nat) (hq : q = 0 ∨ q = 1) (hX : X < 2048) (hf : f < 2 ^ 52) : (2 ^ 63 * q + (X * 2 ^ 52 + f)) &&& 9227875636482146303 = 2 ^ 63 * q + f := by
  have hr : X * 2 ^ 52 + f < 2 ^ 63 := by have : (2:Nat) ^ 52 = 4503599627370496 := by decide
                                          have : (2:Nat) ^ 63 = 9223372036854775808 := by decide
                                          omega
  have hM : 9227875636482146303 = 2 ^ 63 ||| (2 ^ 52 - 1) := by decide
  rw [hM, Nat.and_or_distrib_left, and_p63 q _ hq hr, Nat.and_two_pow_sub_one_eq_mod]
  have hm : (2 ^ 63 * q + (X * 2 ^ 52 + f)) % 2 ^ 52 = f := by
    have e : 2 ^ 63 * q + (X * 2 ^ 52 + f) = 2 ^ 52 * (2048 * q + X) + f := by
      have : (2:Nat) ^ 52 = 4503599627370496 := by decide
      have : (2:Nat) ^ 63 = 9223372036854775808 := by decide
      omega
    rw [e, Nat.mul_add_mod, Nat.mod_eq_of_lt hf]
  rw [hm, ← Nat.two_pow_add_eq_or_of_lt (Nat.lt_trans hf (by decide))]
/-- And laid anew. -/
theorem lay_in (q X f : Nat) (hq : q = 0 ∨ q = 1) (hX : X < 2048) (hf : f < 2 ^ 52) : (2 ^ 63 * q + f) ||| (X * 2 ^ 52) = 2 ^ 63 * q + (X * 2 ^ 52 + f) := by
  have p52 : (2:Nat) ^ 52 = 4503599627370496 := by decide
  have p63 : (2:Nat) ^ 63 = 9223372036854775808 := by decide
  have e1 : 2 ^ 63 * q + f = 2 ^ 52 * (2048 * q) + f := by omega
  have e2 : X * 2 ^ 52 = X <<< 52 := (Nat.shiftLeft_eq X 52).symm
  have e3 : 2 ^ 52 * (2048 * q) = (2048 * q) <<< 52 := by rw [Nat.shiftLeft_eq, Nat.mul_comm]
  have e4 : 2048 * q ||| X = 2048 * q + X := by
    have := Nat.two_pow_add_eq_or_of_lt (i := 11) (b := X) hX q
    exact this.symm
  rw [e1, Nat.two_pow_add_eq_or_of_lt hf, Nat.or_assoc, Nat.or_comm f, ← Nat.or_assoc, e3, e2, ← Nat.shiftLeft_or_distrib, e4, Nat.shiftLeft_eq, Nat.mul_comm (2048 * q + X), ← Nat.two_pow_add_eq_or_of_lt hf]
  omega
def sN (s : Bool) : Nat := if s then 1 else 0
theorem sN_or (s : Bool) : sN s = 0 ∨ sN s = 1 := by cases s <;> simp [sN]
theorem word_sN (s : Bool) (n : Nat) : D64.word s n = 2 ^ 63 * sN s + n := by
  cases s
  · rw [word_false]; simp [sN]
  · rw [word_true]; simp [sN]
theorem neg_word (b : Nat) (hb : b < 2 ^ 64) : b = 2 ^ 63 * sN (pNeg b) + b % 2 ^ 63 := by
  have h := Nat.div_add_mod b (2 ^ 63)
  have hq : b / 2 ^ 63 = sN (pNeg b) := by
    have hs : SW = 2 ^ 63 := by decide +kernel
    unfold pNeg sN
    rw [hs]
    by_cases h1 : b / 2 ^ 63 = 1
    · simp [h1]
    · simp only [h1, decide_false, Bool.false_eq_true, if_false]
      have : b / 2 ^ 63 < 2 := Nat.div_lt_of_lt_mul (by rw [← Nat.pow_succ]; exact hb)
      omega
  rw [hq] at h; exact h.symm
theorem sign_bits (b : Nat) (hb : b < 2 ^ 64) : bits .or .u64 (bits .andNot .u64 0 9223372036854775808) (bits .and .u64 (b : Int) 9223372036854775808) = ((D64.word (pNeg b) 0 : Nat) : Int) := by
  have hb' : b < 18446744073709551616 := hb
  rw [show bits .andNot .u64 0 9223372036854775808 = ((0 : Nat) : Int) from u64_andNot_nat 0 9223372036854775808 (by decide) (by decide)]
  rw [show bits .and .u64 (b : Int) 9223372036854775808 = ((b &&& 2 ^ 63 : Nat) : Int) from u64_and_nat b 9223372036854775808 hb' (by decide)]
  have h1 : b &&& 2 ^ 63 = 2 ^ 63 * sN (pNeg b) := by
    conv => lhs; rw [neg_word b hb]
    exact and_p63 _ _ (sN_or _) (Nat.mod_lt _ (by decide))
  have h2 : 2 ^ 63 * sN (pNeg b) < 18446744073709551616 := by rcases sN_or (pNeg b) with h | h <;> rw [h] <;> decide
  rw [h1, u64_or_nat 0 _ (by decide) h2, Nat.zero_or, word_sN, Nat.add_zero]
set_option maxRecDepth 100000 in
theorem isinf_any (b : Nat) (w : World) (hb : b < 2 ^ 64) : Calls Try.prog 216 #[.float .f64 b, .int .i64 0] w (fun e w' => e = .returned (.bool (decide (pKind b = 1))) ∧ w = w') := by
  have hb' : b < 18446744073709551616 := hb
  have h : (FloatKind.f64.format.order (b % SW) 9218868437227405311 == some Ordering.gt) = decide (pKind b = 1) := ord_max b hb
  obtain ⟨v, hv⟩ : ∃ v, v = decide (pKind b = 1) := ⟨_, rfl⟩
  rw [← hv] at h ⊢
  clear hv hb
  go_enter Try.func216, Try.ntmps216
  go_wp2_with (first | (go_at_call 164; ((with_reducible refine (mabs_bits b _ hb').mono ?_); rintro e w1 ⟨rfl, rfl⟩)))
  all_goals go_ret
  all_goals exact ⟨rfl, rfl⟩
set_option maxRecDepth 100000 in
theorem isnan_any (b : Nat) (w : World) (hb : b < 2 ^ 64) : Calls Try.prog 223 #[.float .f64 b] w (fun e w' => e = .returned (.bool (decide (pKind b = 2))) ∧ w = w') := by
  have h : (FloatKind.f64.format.order b b != some Ordering.eq) = decide (pKind b = 2) := (order_self b).trans (isNan_kind b hb)
  obtain ⟨v, hv⟩ : ∃ v, v = decide (pKind b = 2) := ⟨_, rfl⟩
  rw [← hv] at h ⊢
  clear hv hb
  go_enter Try.func223, Try.ntmps223
  go_wp2
  go_ret
  exact ⟨rfl, rfl⟩
set_option maxRecDepth 100000 in
theorem inf_any (s : Bool) (w : World) : Calls Try.prog 226 #[.int .i64 (if s then -1 else 1)] w (fun e w' => e = .returned (.float .f64 (D64.word s IR)) ∧ w = w') := by
  have hI : IR = 9218868437227405312 := by decide +kernel
  cases s
  · rw [word_false, hI]
    go_enter Try.func226, Try.ntmps226
    go_wp2
    go_ret
    exact ⟨rfl, rfl⟩
  · rw [word_true, hI]
    go_enter Try.func226, Try.ntmps226
    go_wp2
    go_ret
    exact ⟨rfl, rfl⟩
set_option maxRecDepth 100000 in
theorem copysign_any (b : Nat) (w : World) (hb : b < 2 ^ 64) : Calls Try.prog 225 #[.float .f64 0, .float .f64 b] w (fun e w' => e = .returned (.float .f64 (D64.word (pNeg b) 0)) ∧ w = w') := by
  have h := sign_bits b hb
  go_enter Try.func225, Try.ntmps225
  go_wp2
  go_ret
  exact ⟨by first | rfl | (simp only [Int.toNat_natCast]), rfl⟩
/-- Made normal. -/
def nrmF (x : Nat) : Nat := if expo x = 0 then fmul x 4841369599423283200 else x
def nrmE (x : Nat) : Int := if expo x = 0 then -52 else 0
set_option maxRecDepth 100000 in
theorem normalize_any (b : Nat) (w : World) (hb : b < 2 ^ 64) (hk : pKind b = 0) : Calls Try.prog 224 #[.float .f64 b] w (fun e w' => ∃ r, e = .returned (.tuple #[.float .f64 r, .int .i64 (nrmE b)]) ∧ IsF r (nrmF b) ∧ ∃ o n, w' = ext w o n) := by
  have hb' : b < 18446744073709551616 := hb
  have hs : IsF b b := by
    have := isF_self hb
    have hn : isNan b = false := by rw [isNan_kind b hb, hk]; decide
    rwa [canon_not hn] at this
  have hc : IsF 4841369599423283200 4841369599423283200 := by decide +kernel
  have h : (FloatKind.f64.format.order (b % SW) 4503599627370496 == some Ordering.lt) = decide (expo b = 0) := ord_min b hb hk
  by_cases he : expo b = 0
  · have hl : (FloatKind.f64.format.order (b % SW) 4503599627370496 == some Ordering.lt) = true := by rw [h]; simpa using he
    have e1 : nrmE b = -52 := by unfold nrmE; rw [if_pos he]
    have e2 : nrmF b = fmul b 4841369599423283200 := by unfold nrmF; rw [if_pos he]
    rw [e1, e2]
    clear h he e1 e2 hk
    go_enter Try.func224, Try.ntmps224
    go_wp2_with (first | (go_at_call 164; ((with_reducible refine (mabs_bits b _ hb').mono ?_); rintro e w1 ⟨rfl, rfl⟩)) | ((with_reducible refine upon_id ?_); refine upon_fop rfl (by assumption) (by assumption) ?_; intro rr nn hr))
    refine bodyPost_ret (v := .tuple #[.float .f64 rr, .int .i64 (-52)]) (by simp [results, Try.results224, go_sem, *]) rfl ?_
    exact ⟨_, rfl, hr, by (show Grew _ _; repeat (first | (with_reducible exact Grew.refl _) | (with_reducible assumption) | (with_reducible exact Grew.same_o) | (with_reducible exact Grew.app_o) | (with_reducible refine Grew.ext ?_ _ _) | (with_reducible refine Grew.alloc ?_ _) | ((with_reducible refine Grew.setCell ?_ ?_ _); rotate_left; (focus (dsimp only; first | omega | (simp only [size_ext, World.size_alloc, Array.size_append]; omega)))) | (with_reducible refine Grew.drewN ?_ _) | (with_reducible refine Grew.drew ?_)))⟩
  · have hl : (FloatKind.f64.format.order (b % SW) 4503599627370496 == some Ordering.lt) = false := by rw [h]; simpa using he
    have e1 : nrmE b = 0 := by unfold nrmE; rw [if_neg he]
    have e2 : nrmF b = b := by unfold nrmF; rw [if_neg he]
    rw [e1, e2]
    clear h he e1 e2 hk
    go_enter Try.func224, Try.ntmps224
    go_wp2_with (first | (go_at_call 164; ((with_reducible refine (mabs_bits b _ hb').mono ?_); rintro e w1 ⟨rfl, rfl⟩)))
    refine bodyPost_ret (v := .tuple #[.float .f64 b, .int .i64 0]) (by simp [results, Try.results224, go_sem, *]) rfl ?_
    exact ⟨_, rfl, hs, by (show Grew _ _; repeat (first | (with_reducible exact Grew.refl _) | (with_reducible assumption) | (with_reducible exact Grew.same_o) | (with_reducible exact Grew.app_o) | (with_reducible refine Grew.ext ?_ _ _) | (with_reducible refine Grew.alloc ?_ _) | ((with_reducible refine Grew.setCell ?_ ?_ _); rotate_left; (focus (dsimp only; first | omega | (simp only [size_ext, World.size_alloc, Array.size_append]; omega)))) | (with_reducible refine Grew.drewN ?_ _) | (with_reducible refine Grew.drew ?_)))⟩
end Go.Proofs.Ytcmggfpcbijcjaa
end
section
/-
  Contract: math.Ldexp.
-/
set_option linter.unusedSimpArgs false
set_option linter.unusedVariables false
open Go Go.RowKit Sedge Ieee
namespace Go.Proofs.Ytcmggfpcbijcjaa
/-- x times 2^k. -/
def ldF (x : Nat) (k : Int) : Nat := if pKind x = 0 ∧ pMag x ≠ 0 then D64.nearest (pNeg x) (pMag x) (pExp x + k) else x
theorem isF_word_eq {r : Nat} {s : Bool} {n : Nat} (hn : n ≤ IR) (h : IsF r (D64.word s n)) : r = D64.word s n := by
  have h2 := h.2
  have : isNan r = false := by rw [← isNan_canon, h2]; exact read_word_notnan s n hn
  rw [canon_not this] at h2
  exact h2
theorem isF_of_kind {b x : Nat} (h : IsF b x) (hk : pKind b ≠ 2) : b = x := by
  have : isNan b = false := by rw [isNan_kind b h.1]; simpa using hk
  rw [← h.2, canon_not this]
theorem order_none (b c : Nat) (hb : b < 2 ^ 64) (hk : pKind b = 2) : D64.order b c = none := by
  unfold Format.order
  refine order_nan_left ?_
  rw [read_eq b hb, if_neg (by omega), if_neg (by omega)]; rfl
theorem order_inf0 (b : Nat) (hb : b < 2 ^ 64) (hk : pKind b = 1) : (D64.order b 0 == some .eq) = false := by
  unfold Format.order
  rw [read_eq b hb, if_neg (by omega), if_pos hk, read_zero]
  cases pNeg b <;> rfl
theorem nearest_isF (s : Bool) (m : Nat) (e : Int) : IsF (D64.nearest s m e) (D64.nearest s m e) := by
  have hn := nearest_notnan s m e
  refine ⟨?_, canon_not hn⟩
  by_cases hm : m = 0
  · have : D64.nearest s m e = D64.word s 0 := by unfold Format.nearest; rw [if_pos (by simpa using hm)]
    rw [this]; exact (isF_word s 0 (Nat.zero_le _)).1
  · rw [nearest_eq s m e hm]; exact (isF_word s _ (Nat.min_le_right _ _)).1
theorem or_word (s : Bool) (X' f G : Nat) (hG : G = 2 ^ 63 * sN s + f) (hX : X' < 2048) (hf : f < BN) : bits .or .u64 (G : Int) ((X' * 4503599627370496 : Nat) : Int) = ((D64.word s (X' * BN + f) : Nat) : Int) := by
  have hf' : f < 4503599627370496 := hf
  have p52 : (2:Nat) ^ 52 = 4503599627370496 := by decide
  have hl := lay_in (sN s) X' f (sN_or s) hX (by rw [p52]; exact hf')
  rw [p52, ← hG] at hl
  have hG2 : G < 18446744073709551616 := by
    have p63 : (2:Nat) ^ 63 = 9223372036854775808 := by decide
    rw [p63] at hG
    rcases sN_or s with h | h <;> rw [h] at hG <;> omega
  rw [u64_or_nat G _ hG2 (by omega), hl, word_sN, show BN = 4503599627370496 from by decide +kernel]
theorem mid_le (X f : Nat) (h : X ≤ 2046) (hf : f < BN) : X * BN + f ≤ IR := by
  have hI : IR = 9218868437227405312 := by decide +kernel
  rw [hI]
  unfold BN at *
  omega
set_option maxRecDepth 100000 in
set_option maxHeartbeats 1000000 in
theorem ldexp_back (b : Nat) (k : Int) (w : World) (hb : b < 2 ^ 64) (h : pKind b = 1 ∨ pKind b = 2 ∨ (pKind b = 0 ∧ pMag b = 0)) : Calls Try.prog 215 #[.float .f64 b, .int .i64 k] w (fun e w' => e = .returned (.float .f64 b) ∧ w = w') := by
  rcases h with h | h | h
  · have d1 : (FloatKind.f64.format.order b 0 == some Ordering.eq) = false := order_inf0 b hb h
    have d2 : decide (pKind b = 1) = true := by simpa using h
    clear h
    go_enter Try.func215, Try.ntmps215
    go_wp2_with (first | (go_at_call 216; ((with_reducible refine (isinf_any b _ hb).mono ?_); rintro e w1 ⟨rfl, rfl⟩)) | (go_at_call 223; ((with_reducible refine (isnan_any b _ hb).mono ?_); rintro e w1 ⟨rfl, rfl⟩)))
    go_ret
    exact ⟨rfl, rfl⟩
  · have d1 : (FloatKind.f64.format.order b 0 == some Ordering.eq) = false := by
      show (D64.order b 0 == some Ordering.eq) = false
      rw [order_none b 0 hb h]; rfl
    have d2 : decide (pKind b = 1) = false := by rw [h]; decide
    have d3 : decide (pKind b = 2) = true := by rw [h]; decide
    clear h
    go_enter Try.func215, Try.ntmps215
    go_wp2_with (first | (go_at_call 216; ((with_reducible refine (isinf_any b _ hb).mono ?_); rintro e w1 ⟨rfl, rfl⟩)) | (go_at_call 223; ((with_reducible refine (isnan_any b _ hb).mono ?_); rintro e w1 ⟨rfl, rfl⟩)))
    go_ret
    exact ⟨rfl, rfl⟩
  · have d1 : (FloatKind.f64.format.order b 0 == some Ordering.eq) = true := by
      show (D64.order b 0 == some Ordering.eq) = true
      rw [ord_zero_eq b hb h.1, h.2]; decide
    clear h
    go_enter Try.func215, Try.ntmps215
    go_wp2
    go_ret
    exact ⟨rfl, rfl⟩
set_option maxRecDepth 100000 in
set_option maxHeartbeats 2000000 in
/-- Of a finite number that isn't 0. -/
theorem ldexp_num (b : Nat) (k : Int) (w : World) (hb : b < 2 ^ 64) (hk : -5000 ≤ k ∧ k ≤ 5000) (h0 : pKind b = 0) (hm : pMag b ≠ 0) :
    Calls Try.prog 215 #[.float .f64 b, .int .i64 k] w (fun e w' => ∃ r, e = .returned (.float .f64 r) ∧ IsF r (D64.nearest (pNeg b) (pMag b) (pExp b + k)) ∧ ∃ o n, w' = ext w o n) := by
  have hI : IR = 9218868437227405312 := by decide +kernel
  obtain ⟨X, f, hX1, hX2, hf, hY, hN⟩ : ∃ X f, 1 ≤ X ∧ X ≤ 2046 ∧ f < BN ∧ nrmF b = D64.word (pNeg b) (X * BN + f) ∧ ∀ k : Int, D64.nearest (pNeg b) (pMag b) (pExp b + k) = D64.nearest (pNeg b) (BN + f) (k + nrmE b + X - 1023 - 52) := by
    by_cases he : expo b = 0
    · obtain ⟨X, f, q1, q2, q3, q4, q5⟩ := normal_sub hb h0 hm he
      exact ⟨X, f, q1, q2, q3, by unfold nrmF; rw [if_pos he, q4], fun k => by unfold nrmE; rw [if_pos he, q5 k]; congr 1⟩
    · obtain ⟨X, f, q1, q2, q3, q4, q5⟩ := normal_of hb h0 hm he
      exact ⟨X, f, q1, q2, q3, by unfold nrmF; rw [if_neg he, ← q4], fun k => by unfold nrmE; rw [if_neg he, q5 k]; congr 1; omega⟩
  rw [hN k]
  have hnE : nrmE b = 0 ∨ nrmE b = -52 := by unfold nrmE; split <;> simp
  obtain ⟨E, hE⟩ : ∃ E, E = nrmE b := ⟨_, rfl⟩
  obtain ⟨s, hs⟩ : ∃ s, s = pNeg b := ⟨_, rfl⟩
  obtain ⟨Y, hYY⟩ : ∃ Y, Y = D64.word s (X * BN + f) := ⟨_, rfl⟩
  have hYf : X * BN + f ≤ IR := by rw [hI]; unfold BN at *; omega
  have hYlt : Y < 2 ^ 64 := by rw [hYY]; exact (isF_word s _ hYf).1
  have hnorm : ∀ w', Calls Try.prog 224 #[.float .f64 b] w' (fun e w2 => e = .returned (.tuple #[.float .f64 Y, .int .i64 E]) ∧ ∃ o n, w2 = ext w' o n) := fun w' => by
    refine (normalize_any b w' hb h0).mono fun e w2 hh => ?_
    obtain ⟨r, rfl, h1, h2⟩ := hh
    rw [hY, ← hs] at h1
    rw [isF_word_eq hYf h1, ← hYY, ← hE]
    exact ⟨rfl, h2⟩
  rw [← hE] at hnE ⊢
  rw [← hs]
  have d1 : (FloatKind.f64.format.order b 0 == some Ordering.eq) = false := by
    show (D64.order b 0 == some Ordering.eq) = false
    rw [ord_zero_eq b hb h0]; simpa using hm
  have d2 : decide (pKind b = 1) = false := by rw [h0]; decide
  have d3 : decide (pKind b = 2) = false := by rw [h0]; decide
  have hB := hid hb
  clear hY hN hE hs h0 hm
  have Hb := hid hYY
  have hYlt' : Y < 18446744073709551616 := hYlt
  have hexp : (Y : Int) / 4503599627370496 % 2048 = X := by
    rw [hYY, word_sN]
    have p63 : (2:Nat) ^ 63 = 9223372036854775808 := by decide
    unfold BN at *
    rcases sN_or s with h | h <;> rw [h] <;> omega
  have hsh := i64_and2047 ((Y : Int) / 4503599627370496)
  rw [hexp] at hsh
  obtain ⟨T, hT⟩ : ∃ T : Int, T = k + E + X - 1023 := ⟨_, rfl⟩
  have r1 : IntKind.i64.wrap ((X : Int) - 1023) = X - 1023 := IntWalk.i64_in _ (by omega)
  have r2 : IntKind.i64.wrap (k + E) = k + E := IntWalk.i64_in _ (by omega)
  have r3 : IntKind.i64.wrap (k + E + ((X : Int) - 1023)) = T := by rw [IntWalk.i64_in _ (by omega)]; omega
  have hpY : pNeg Y = s := by
    have hs : SW = 2 ^ 63 := by decide +kernel
    rw [hYY, word_sN]
    unfold pNeg
    rw [hs]
    have p63 : (2:Nat) ^ 63 = 9223372036854775808 := by decide
    have : (2 ^ 63 * sN s + (X * BN + f)) / 2 ^ 63 = sN s := by
      unfold BN at *
      rcases sN_or s with h | h <;> rw [h] <;> omega
    rw [this]
    cases s <;> decide
  have hkY : pKind Y = 0 ∧ pMag Y ≠ 0 := by
    have hr := read_mid s X f hX1 hX2 hf
    rw [← hYY, read_eq Y hYlt] at hr
    by_cases h : pKind Y = 0
    · rw [if_pos h] at hr
      simp only [Datum.number.injEq] at hr
      exact ⟨h, by rw [hr.2.1]; unfold BN; omega⟩
    · rw [if_neg h] at hr
      split at hr <;> cases hr
  have hlt : (FloatKind.f64.format.order Y 0 == some Ordering.lt) = s := by
    show (D64.order Y 0 == some Ordering.lt) = s
    rw [ord_zero_lt Y hYlt hkY.1 hkY.2, hpY]
  have hTT : k + E + (X : Int) - 1023 - 52 = T - 52 := by omega
  rw [hTT]
  have hcs : ∀ w', Calls Try.prog 225 #[.float .f64 0, .float .f64 Y] w' (fun e w2 => e = .returned (.float .f64 (D64.word s 0)) ∧ w' = w2) := fun w' => by
    have := copysign_any Y w' hYlt; rw [hpY] at this; exact this
  have hin1 : ∀ w', Calls Try.prog 226 #[.int .i64 (-1)] w' (fun e w2 => e = .returned (.float .f64 (D64.word true IR)) ∧ w' = w2) := fun w' => inf_any true w'
  have hin2 : ∀ w', Calls Try.prog 226 #[.int .i64 1] w' (fun e w2 => e = .returned (.float .f64 (D64.word false IR)) ∧ w' = w2) := fun w' => inf_any false w'
  have a1 : bits .andNot .u64 (Y : Int) 9218868437227405312 = ((2 ^ 63 * sN s + f : Nat) : Int) := by
    rw [show bits .andNot .u64 (Y : Int) 9218868437227405312 = ((Y &&& (18446744073709551615 - 9218868437227405312) : Nat) : Int) from u64_andNot_nat Y 9218868437227405312 hYlt' (by decide)]
    rw [hYY, word_sN, show 18446744073709551615 - 9218868437227405312 = 9227875636482146303 by decide]
    exact congrArg _ (strike (sN s) X f (sN_or s) (by omega) hf)
  obtain ⟨G, hG⟩ : ∃ G : Nat, G = 2 ^ 63 * sN s + f := ⟨_, rfl⟩
  rw [← hG] at a1
  have hor : ∀ X' : Nat, 1 ≤ X' → X' ≤ 2046 → bits .or .u64 (G : Int) ((X' * 4503599627370496 : Nat) : Int) = ((D64.word s (X' * BN + f) : Nat) : Int) := fun X' _ q2 => or_word s X' f G hG (Nat.lt_of_le_of_lt q2 (by decide)) hf
  have hZ : ∀ X' : Nat, 1 ≤ X' → X' ≤ 2046 → IsF (D64.word s (X' * BN + f)) (D64.word s (X' * BN + f)) := fun X' _ q2 => isF_word s _ (mid_le X' f q2 hf)
  have hc1 : IsF 4607182418800017408 4607182418800017408 := by decide +kernel
  have hc2 : IsF 4368491638549381120 4368491638549381120 := by decide +kernel
  have HT := hid hT
  clear hYY hpY hkY hG hT hTT hexp
  by_cases c1 : T < -1075
  · have b1 : decide (T < -1075) = true := by simpa using c1
    have q := hid (ld_low s f T hf c1)
    have Q := hid (isF_word s 0 (Nat.zero_le _))
    go_enter Try.func215, Try.ntmps215
    go_wp2_with (first | (go_at_call 216; ((with_reducible refine (isinf_any b _ hB.out).mono ?_); rintro e w1 ⟨rfl, rfl⟩)) | (go_at_call 223; ((with_reducible refine (isnan_any b _ hB.out).mono ?_); rintro e w1 ⟨rfl, rfl⟩)) | (go_at_call 224; ((with_reducible refine (hnorm _).mono ?_); rintro e w1 ⟨rfl, o1, n1, rfl⟩)) | (go_at_call 225; ((with_reducible refine (hcs _).mono ?_); rintro e w1 ⟨rfl, rfl⟩)) | (go_at_call 226; ((with_reducible refine (hin1 _).mono ?_); rintro e w1 ⟨rfl, rfl⟩)) | (go_at_call 226; ((with_reducible refine (hin2 _).mono ?_); rintro e w1 ⟨rfl, rfl⟩)) | ((with_reducible refine upon_id ?_); refine upon_fop rfl (by assumption) (by assumption) ?_; intro rr nn hr))
    go_ret
    exact ⟨_, rfl, by rw [q.out]; exact Q.out, by (show Grew _ _; repeat (first | (with_reducible exact Grew.refl _) | (with_reducible assumption) | (with_reducible exact Grew.same_o) | (with_reducible exact Grew.app_o) | (with_reducible refine Grew.ext ?_ _ _) | (with_reducible refine Grew.alloc ?_ _) | ((with_reducible refine Grew.setCell ?_ ?_ _); rotate_left; (focus (dsimp only; first | omega | (simp only [size_ext, World.size_alloc, Array.size_append]; omega)))) | (with_reducible refine Grew.drewN ?_ _) | (with_reducible refine Grew.drew ?_)))⟩
  · have b1 : decide (T < -1075) = false := by simpa using c1
    by_cases c2 : 1023 < T
    · have b2 : decide (1023 < T) = true := by simpa using c2
      have q := hid (ld_high s f T hf c2)
      have Q := hid (isF_word s IR (Nat.le_refl _))
      cases s
      · go_enter Try.func215, Try.ntmps215
        go_wp2_with (first | (go_at_call 216; ((with_reducible refine (isinf_any b _ hB.out).mono ?_); rintro e w1 ⟨rfl, rfl⟩)) | (go_at_call 223; ((with_reducible refine (isnan_any b _ hB.out).mono ?_); rintro e w1 ⟨rfl, rfl⟩)) | (go_at_call 224; ((with_reducible refine (hnorm _).mono ?_); rintro e w1 ⟨rfl, o1, n1, rfl⟩)) | (go_at_call 225; ((with_reducible refine (hcs _).mono ?_); rintro e w1 ⟨rfl, rfl⟩)) | (go_at_call 226; ((with_reducible refine (hin1 _).mono ?_); rintro e w1 ⟨rfl, rfl⟩)) | (go_at_call 226; ((with_reducible refine (hin2 _).mono ?_); rintro e w1 ⟨rfl, rfl⟩)) | ((with_reducible refine upon_id ?_); refine upon_fop rfl (by assumption) (by assumption) ?_; intro rr nn hr))
        go_ret
        exact ⟨_, rfl, by rw [q.out]; exact Q.out, by (show Grew _ _; repeat (first | (with_reducible exact Grew.refl _) | (with_reducible assumption) | (with_reducible exact Grew.same_o) | (with_reducible exact Grew.app_o) | (with_reducible refine Grew.ext ?_ _ _) | (with_reducible refine Grew.alloc ?_ _) | ((with_reducible refine Grew.setCell ?_ ?_ _); rotate_left; (focus (dsimp only; first | omega | (simp only [size_ext, World.size_alloc, Array.size_append]; omega)))) | (with_reducible refine Grew.drewN ?_ _) | (with_reducible refine Grew.drew ?_)))⟩
      · go_enter Try.func215, Try.ntmps215
        go_wp2_with (first | (go_at_call 216; ((with_reducible refine (isinf_any b _ hB.out).mono ?_); rintro e w1 ⟨rfl, rfl⟩)) | (go_at_call 223; ((with_reducible refine (isnan_any b _ hB.out).mono ?_); rintro e w1 ⟨rfl, rfl⟩)) | (go_at_call 224; ((with_reducible refine (hnorm _).mono ?_); rintro e w1 ⟨rfl, o1, n1, rfl⟩)) | (go_at_call 225; ((with_reducible refine (hcs _).mono ?_); rintro e w1 ⟨rfl, rfl⟩)) | (go_at_call 226; ((with_reducible refine (hin1 _).mono ?_); rintro e w1 ⟨rfl, rfl⟩)) | (go_at_call 226; ((with_reducible refine (hin2 _).mono ?_); rintro e w1 ⟨rfl, rfl⟩)) | ((with_reducible refine upon_id ?_); refine upon_fop rfl (by assumption) (by assumption) ?_; intro rr nn hr))
        go_ret
        exact ⟨_, rfl, by rw [q.out]; exact Q.out, by (show Grew _ _; repeat (first | (with_reducible exact Grew.refl _) | (with_reducible assumption) | (with_reducible exact Grew.same_o) | (with_reducible exact Grew.app_o) | (with_reducible refine Grew.ext ?_ _ _) | (with_reducible refine Grew.alloc ?_ _) | ((with_reducible refine Grew.setCell ?_ ?_ _); rotate_left; (focus (dsimp only; first | omega | (simp only [size_ext, World.size_alloc, Array.size_append]; omega)))) | (with_reducible refine Grew.drewN ?_ _) | (with_reducible refine Grew.drew ?_)))⟩
    · have b2 : decide (1023 < T) = false := by simpa using c2
      by_cases c3 : T < -1022
      · have b3 : decide (T < -1022) = true := by simpa using c3
        obtain ⟨X', hX'⟩ : ∃ X' : Nat, (X' : Int) = T + 53 + 1023 := ⟨(T + 53 + 1023).toNat, by omega⟩
        have q := hid (ld_end2 s X' f T (by omega) (by omega) hf hX')
        have r4 : IntKind.i64.wrap (T + 53) = T + 53 := IntWalk.i64_in _ (by omega)
        have r5 : IntKind.i64.wrap (T + 53 + 1023) = T + 53 + 1023 := IntWalk.i64_in _ (by omega)
        have q := ld_end2 s X' f T (by omega) (by omega) hf hX'
        have r6 : IntKind.u64.wrap (T + 53 + 1023) = (T + 53 + 1023) := IntWalk.u64_in _ (by omega)
        have r7 : IntKind.u64.wrap ((T + 53 + 1023) * 4503599627370496) = (T + 53 + 1023) * 4503599627370496 := IntWalk.u64_in _ (by omega)
        obtain ⟨Z, hZZ⟩ : ∃ Z, Z = D64.word s (X' * BN + f) := ⟨_, rfl⟩
        have ho : bits .or .u64 (G : Int) ((T + 53 + 1023) * 4503599627370496) = (Z : Int) := by
          have := hor X' (by omega) (by omega)
          rw [show ((X' * 4503599627370496 : Nat) : Int) = (T + 53 + 1023) * 4503599627370496 by omega, ← hZZ] at this; exact this
        have hz : IsF Z Z := by have := hZ X' (by omega) (by omega); rwa [← hZZ] at this
        rw [← hZZ] at q
        have Q := hid q
        have X2 := hid hX'
        clear hor hZ q hZZ hX'
        go_enter Try.func215, Try.ntmps215
        go_wp2_with (first | (go_at_call 216; ((with_reducible refine (isinf_any b _ hB.out).mono ?_); rintro e w1 ⟨rfl, rfl⟩)) | (go_at_call 223; ((with_reducible refine (isnan_any b _ hB.out).mono ?_); rintro e w1 ⟨rfl, rfl⟩)) | (go_at_call 224; ((with_reducible refine (hnorm _).mono ?_); rintro e w1 ⟨rfl, o1, n1, rfl⟩)) | (go_at_call 225; ((with_reducible refine (hcs _).mono ?_); rintro e w1 ⟨rfl, rfl⟩)) | (go_at_call 226; ((with_reducible refine (hin1 _).mono ?_); rintro e w1 ⟨rfl, rfl⟩)) | (go_at_call 226; ((with_reducible refine (hin2 _).mono ?_); rintro e w1 ⟨rfl, rfl⟩)) | ((with_reducible refine upon_id ?_); refine upon_fop rfl (by assumption) (by assumption) ?_; intro rr nn hr))
        go_ret
        exact ⟨_, rfl, by rw [← Q.out]; exact hr, by (show Grew _ _; repeat (first | (with_reducible exact Grew.refl _) | (with_reducible assumption) | (with_reducible exact Grew.same_o) | (with_reducible exact Grew.app_o) | (with_reducible refine Grew.ext ?_ _ _) | (with_reducible refine Grew.alloc ?_ _) | ((with_reducible refine Grew.setCell ?_ ?_ _); rotate_left; (focus (dsimp only; first | omega | (simp only [size_ext, World.size_alloc, Array.size_append]; omega)))) | (with_reducible refine Grew.drewN ?_ _) | (with_reducible refine Grew.drew ?_)))⟩
      · have b3 : decide (T < -1022) = false := by simpa using c3
        obtain ⟨X', hX'⟩ : ∃ X' : Nat, (X' : Int) = T + 1023 := ⟨(T + 1023).toNat, by omega⟩
        have r5 : IntKind.i64.wrap (T + 1023) = T + 1023 := IntWalk.i64_in _ (by omega)
        have q := ld_end1 s X' f T (by omega) (by omega) hf hX'
        have r6 : IntKind.u64.wrap (T + 1023) = (T + 1023) := IntWalk.u64_in _ (by omega)
        have r7 : IntKind.u64.wrap ((T + 1023) * 4503599627370496) = (T + 1023) * 4503599627370496 := IntWalk.u64_in _ (by omega)
        obtain ⟨Z, hZZ⟩ : ∃ Z, Z = D64.word s (X' * BN + f) := ⟨_, rfl⟩
        have ho : bits .or .u64 (G : Int) ((T + 1023) * 4503599627370496) = (Z : Int) := by
          have := hor X' (by omega) (by omega)
          rw [show ((X' * 4503599627370496 : Nat) : Int) = (T + 1023) * 4503599627370496 by omega, ← hZZ] at this; exact this
        have hz : IsF Z Z := by have := hZ X' (by omega) (by omega); rwa [← hZZ] at this
        rw [← hZZ] at q
        have Q := hid q
        have X2 := hid hX'
        clear hor hZ q hZZ hX'
        go_enter Try.func215, Try.ntmps215
        go_wp2_with (first | (go_at_call 216; ((with_reducible refine (isinf_any b _ hB.out).mono ?_); rintro e w1 ⟨rfl, rfl⟩)) | (go_at_call 223; ((with_reducible refine (isnan_any b _ hB.out).mono ?_); rintro e w1 ⟨rfl, rfl⟩)) | (go_at_call 224; ((with_reducible refine (hnorm _).mono ?_); rintro e w1 ⟨rfl, o1, n1, rfl⟩)) | (go_at_call 225; ((with_reducible refine (hcs _).mono ?_); rintro e w1 ⟨rfl, rfl⟩)) | (go_at_call 226; ((with_reducible refine (hin1 _).mono ?_); rintro e w1 ⟨rfl, rfl⟩)) | (go_at_call 226; ((with_reducible refine (hin2 _).mono ?_); rintro e w1 ⟨rfl, rfl⟩)) | ((with_reducible refine upon_id ?_); refine upon_fop rfl (by assumption) (by assumption) ?_; intro rr nn hr))
        go_ret
        exact ⟨_, rfl, by rw [← Q.out]; exact hr, by (show Grew _ _; repeat (first | (with_reducible exact Grew.refl _) | (with_reducible assumption) | (with_reducible exact Grew.same_o) | (with_reducible exact Grew.app_o) | (with_reducible refine Grew.ext ?_ _ _) | (with_reducible refine Grew.alloc ?_ _) | ((with_reducible refine Grew.setCell ?_ ?_ _); rotate_left; (focus (dsimp only; first | omega | (simp only [size_ext, World.size_alloc, Array.size_append]; omega)))) | (with_reducible refine Grew.drewN ?_ _) | (with_reducible refine Grew.drew ?_)))⟩
/-- math.Ldexp. -/
theorem ldexp_any (b x : Nat) (k : Int) (w : World) (hx : IsF b x) (hk : -5000 ≤ k ∧ k ≤ 5000) : Calls Try.prog 215 #[.float .f64 b, .int .i64 k] w (fun e w' => ∃ r, e = .returned (.float .f64 r) ∧ IsF r (ldF x k) ∧ ∃ o n, w' = ext w o n) := by
  by_cases h : pKind b = 0 ∧ pMag b ≠ 0
  · have e := isF_of_kind hx (by omega)
    subst e
    have e2 : ldF b k = D64.nearest (pNeg b) (pMag b) (pExp b + k) := by unfold ldF; rw [if_pos h]
    rw [e2]
    exact ldexp_num b k w hx.1 hk h.1 h.2
  · have hk3 := kind_le b
    have e2 : ldF x k = x := by
      unfold ldF
      rw [if_neg]
      intro h2
      rw [← hx.kind] at h2
      have e := isF_of_kind hx (by omega)
      subst e
      exact h h2
    rw [e2]
    refine (ldexp_back b k w hx.1 ?_).mono fun e w' hh => ⟨b, hh.1, hx, #[], w.drawn, by rw [← hh.2]; exact ext_zero.symm⟩
    by_cases h0 : pKind b = 0
    · exact .inr (.inr ⟨h0, Decidable.not_not.1 fun hm => h ⟨h0, hm⟩⟩)
    · rcases hk3 with h3 | h3 | h3
      · exact absurd h3 h0
      · exact .inl h3
      · exact .inr (.inl h3)
/-- math.Ldexp, as it is called. -/
theorem mldexp_any (b x : Nat) (k : Int) (w : World) (hx : IsF b x) (hk : -5000 ≤ k ∧ k ≤ 5000) : Calls Try.prog 197 #[.float .f64 b, .int .i64 k] w (fun e w' => ∃ r, e = .returned (.float .f64 r) ∧ IsF r (ldF x k) ∧ ∃ o n, w' = ext w o n) := by
  go_enter Try.func197, Try.ntmps197
  go_wp2_with (first | (go_at_call 215; ((with_reducible refine (ldexp_any b x k _ hx hk).mono ?_); rintro e w1 ⟨r, rfl, hr, o1, n1, rfl⟩)))
  go_ret
  exact ⟨r, rfl, hr, _, _, rfl⟩
/-- num.Scale. -/
theorem nscale_any (b x : Nat) (k : Int) (w : World) (hx : IsF b x) : Calls Try.prog 162 #[.float .f64 b, .int .i64 k] w (fun e w' => ∃ r, e = .returned (.float .f64 r) ∧ IsF r (fscale x k) ∧ ∃ o n, w' = ext w o n) := by
  have e : fscale x k = ldF x (kcl k) := rfl
  rw [e]
  by_cases c1 : k < -5000
  · have e2 : kcl k = -5000 := by unfold kcl; omega
    have hk : (-5000 : Int) ≤ -5000 ∧ (-5000 : Int) ≤ 5000 := by decide
    rw [e2]
    go_enter Try.func162, Try.ntmps162
    go_wp2_with (first | (go_at_call 197; ((with_reducible refine (mldexp_any b x (-5000) _ hx hk).mono ?_); rintro e w1 ⟨r, rfl, hr, o1, n1, rfl⟩)))
    go_ret
    exact ⟨r, rfl, hr, _, _, rfl⟩
  · by_cases c2 : 5000 < k
    · have e2 : kcl k = 5000 := by unfold kcl; omega
      have hk : (-5000 : Int) ≤ 5000 ∧ (5000 : Int) ≤ 5000 := by decide
      rw [e2]
      go_enter Try.func162, Try.ntmps162
      go_wp2_with (first | (go_at_call 197; ((with_reducible refine (mldexp_any b x 5000 _ hx hk).mono ?_); rintro e w1 ⟨r, rfl, hr, o1, n1, rfl⟩)))
      go_ret
      exact ⟨r, rfl, hr, _, _, rfl⟩
    · have e2 : kcl k = k := by unfold kcl; omega
      have hk : -5000 ≤ k ∧ k ≤ 5000 := by omega
      rw [e2]
      go_enter Try.func162, Try.ntmps162
      go_wp2_with (first | (go_at_call 197; ((with_reducible refine (mldexp_any b x k _ hx hk).mono ?_); rintro e w1 ⟨r, rfl, hr, o1, n1, rfl⟩)))
      go_ret
      exact ⟨r, rfl, hr, _, _, rfl⟩
end Go.Proofs.Ytcmggfpcbijcjaa
end
section
/-
  Contracts: single operations on floats; sums, the greatest, the place of the greatest, products (layer 5 and its reference).
-/
set_option linter.unusedSimpArgs false
set_option linter.unusedVariables false
open Go Go.RowKit Sedge
namespace Go.Proofs.Ytcmggfpcbijcjaa
theorem gt_fact {r s X Y : Nat} (hr : IsF r X) (hs : IsF s Y) {v : Bool} (h : (FloatKind.f64.format.order r s == some .gt) = v) : fgt X Y = v := by
  unfold fgt; rw [← hr.order hs]; exact h
theorem isF_zero : IsF 0 0 := ⟨by decide, by decide +kernel⟩
theorem plus_any (a b x y : Nat) (w : World) (hx : IsF a x) (hy : IsF b y) :
   Calls Try.prog 36 #[.float .f64 a, .float .f64 b] w (fun e w' => ∃ r, e = .returned (.float .f64 r) ∧ IsF r (fadd x y) ∧ ∃ o n, w' = ext w o n) := by
  go_enter Try.func36, Try.ntmps36
  go_wp2_with ((with_reducible refine upon_id ?_); refine upon_fop rfl (by assumption) (by assumption) ?_; intro rr nn hr)
  go_ret
  exact ⟨rr, rfl, hr, _, _, drewN_ext0 _⟩
theorem times_any (a b x y : Nat) (w : World) (hx : IsF a x) (hy : IsF b y) :
   Calls Try.prog 141 #[.float .f64 a, .float .f64 b] w (fun e w' => ∃ r, e = .returned (.float .f64 r) ∧ IsF r (fmul x y) ∧ ∃ o n, w' = ext w o n) := by
  go_enter Try.func141, Try.ntmps141
  go_wp2_with ((with_reducible refine upon_id ?_); refine upon_fop rfl (by assumption) (by assumption) ?_; intro rr nn hr)
  go_ret
  exact ⟨rr, rfl, hr, _, _, drewN_ext0 _⟩
theorem less_any (a b x y : Nat) (w : World) (hx : IsF a x) (hy : IsF b y) :
   Calls Try.prog 183 #[.float .f64 a, .float .f64 b] w (fun e w' => ∃ r, e = .returned (.float .f64 r) ∧ IsF r (fsub x y) ∧ ∃ o n, w' = ext w o n) := by
  go_enter Try.func183, Try.ntmps183
  go_wp2_with ((with_reducible refine upon_id ?_); refine upon_fop rfl (by assumption) (by assumption) ?_; intro rr nn hr)
  go_ret
  exact ⟨rr, rfl, hr, _, _, drewN_ext0 _⟩
theorem over_any (a b x y : Nat) (w : World) (hx : IsF a x) (hy : IsF b y) :
   Calls Try.prog 158 #[.float .f64 a, .float .f64 b] w (fun e w' => ∃ r, e = .returned (.float .f64 r) ∧ IsF r (fdiv x y) ∧ ∃ o n, w' = ext w o n) := by
  go_enter Try.func158, Try.ntmps158
  go_wp2_with ((with_reducible refine upon_id ?_); refine upon_fop rfl (by assumption) (by assumption) ?_; intro rr nn hr)
  go_ret
  exact ⟨rr, rfl, hr, _, _, drewN_ext0 _⟩

/-- A sum in its order. -/
def fsumTo (l : List Nat) : Nat → Nat
  | 0 => 0
  | k + 1 => fadd (fsumTo l k) (l.getD k 0)
set_option maxRecDepth 100000 in
set_option maxHeartbeats 1000000 in
theorem sum_any (D : Value) (ws : List Nat) (w : World) (hD : FS w D ws) :
   Calls Try.prog 38 #[D] w (fun e w' => ∃ r, e = .returned (.float .f64 r) ∧ IsF r (fsumTo ws ws.length) ∧ ∃ o n, w' = ext w o n) := by
  obtain ⟨a, cap, rfl⟩ := hD.shape
  have hl := hD.len
  have HD := hD.at.2
  clear hD
  have hl' : (ws.length : Int) ≤ 9223372036854775807 := by omega
  go_enter Try.func38, Try.ntmps38
  go_wp2
  go_loopw [3, 8] (fun s c wr => ∃ k b : Nat, k ≤ ws.length ∧ c = .int .i64 k ∧ s = .float .f64 b ∧ IsF b (fsumTo ws k) ∧ ∃ o n, wr = ext w o n) (fun _ c _ => ws.length - (intOf c).toNat)
  case atStart => exact ⟨0, 0, Nat.zero_le _, rfl, rfl, isF_zero, _, _, ext_zero.symm⟩
  case round =>
    obtain ⟨k, s, hk, rfl, rfl, hs, oo, nn, hwr⟩ := hrel
    subst hwr
    by_cases hlt : k < ws.length
    · obtain ⟨blk, o, rfl, hblk, hc⟩ := HD (by omega)
      obtain ⟨b, hb, hx⟩ := hc k hlt
      clear hc HD
      go_wp2_with ((with_reducible refine upon_id ?_); refine upon_fop rfl (by assumption) (by assumption) ?_; intro rr nn hr)
      go_roundw
      case rel => exact ⟨k + 1, rr, by omega, by go_num, rfl, hr, _, _, rfl⟩
      case measure => simp [intOf]; omega
    · go_wp2
      go_ret
      have e : ws.length = k := by omega
      exact ⟨s, rfl, by rw [e]; exact hs, _, _, rfl⟩

/-- The greatest of numbers and 0, without NaNs. -/
def fmaxTo (l : List Nat) : Nat → Nat
  | 0 => 0
  | k + 1 => if fgt (l.getD k 0) (fmaxTo l k) = true then l.getD k 0 else fmaxTo l k
def anyNan (l : List Nat) : Bool := l.any isNan
def fgreatest (l : List Nat) : Nat := if anyNan l then QN else fmaxTo l l.length
theorem anyNan_take (l : List Nat) (k : Nat) (h : k < l.length) : anyNan (l.take (k + 1)) = (anyNan (l.take k) || isNan (l.getD k 0)) := by
  unfold anyNan
  have e1 : l.take (k + 1) = l.take k ++ [l[k]] := List.take_succ_eq_append_getElem h
  rw [e1, List.any_append]
  simp [List.getD_eq_getElem?_getD, h]
theorem anyNan_yes (l : List Nat) (k : Nat) (h : k < l.length) (hn : isNan (l.getD k 0) = true) : anyNan l = true := by
  unfold anyNan
  rw [List.any_eq_true]
  refine ⟨l.getD k 0, ?_, hn⟩
  rw [List.getD_eq_getElem?_getD, List.getElem?_eq_getElem h]; exact List.getElem_mem h
set_option maxRecDepth 100000 in
set_option maxHeartbeats 1000000 in
theorem greatest_any (D : Value) (ws : List Nat) (w : World) (hD : FS w D ws) :
   Calls Try.prog 39 #[D] w (fun e w' => ∃ r, e = .returned (.float .f64 r) ∧ IsF r (fgreatest ws) ∧ w = w') := by
  obtain ⟨a, cap, rfl⟩ := hD.shape
  have hl := hD.len
  have HD := hD.at.2
  clear hD
  have hl' : (ws.length : Int) ≤ 9223372036854775807 := by omega
  go_enter Try.func39, Try.ntmps39
  go_wp2
  go_loop [3, 8] (fun s c => ∃ k b : Nat, k ≤ ws.length ∧ c = .int .i64 k ∧ s = .float .f64 b ∧ IsF b (fmaxTo ws k) ∧ anyNan (ws.take k) = false) (fun _ c => ws.length - (intOf c).toNat)
  case atStart => exact ⟨0, 0, Nat.zero_le _, rfl, rfl, isF_zero, rfl⟩
  case round =>
    obtain ⟨k, s, hk, rfl, rfl, hs, hn⟩ := hrel
    have Hn := hid hn
    clear hn
    by_cases hlt : k < ws.length
    · obtain ⟨blk, o, rfl, hblk, hc⟩ := HD (by omega)
      obtain ⟨b, hb, hx⟩ := hc k hlt
      clear hc HD
      have e1 := order_self b
      rw [hx.nan] at e1
      cases hnan : isNan (ws.getD k 0)
      · have q1 : (FloatKind.f64.format.order b b != some .eq) = false := e1.trans hnan
        have e2 : (FloatKind.f64.format.order b s == some .gt) = fgt (ws.getD k 0) (fmaxTo ws k) := by
          unfold fgt; rw [← hx.order hs]; rfl
        have Hnan := hid hnan
        clear hnan e1
        cases hg : fgt (ws.getD k 0) (fmaxTo ws k)
        · have q2 := e2.trans hg
          have Hg := hid hg
          clear hg e2
          go_wp2
          go_round
          case rel => exact ⟨k + 1, s, by omega, by go_num, rfl, by unfold fmaxTo; rw [if_neg (by rw [Hg.out]; decide)]; exact hs, by rw [anyNan_take _ _ hlt, Hn.out, Hnan.out]; rfl⟩
          case measure => simp [intOf]; omega
        · have q2 := e2.trans hg
          have Hg := hid hg
          clear hg e2
          go_wp2
          go_round
          case rel => exact ⟨k + 1, b, by omega, by go_num, rfl, by unfold fmaxTo; rw [if_pos Hg.out]; exact hx, by rw [anyNan_take _ _ hlt, Hn.out, Hnan.out]; rfl⟩
          case measure => simp [intOf]; omega
      · have q1 : (FloatKind.f64.format.order b b != some .eq) = true := e1.trans hnan
        have Hnan := hid hnan
        clear hnan e1
        go_wp2
        go_ret
        refine ⟨b, rfl, ?_, rfl⟩
        unfold fgreatest
        rw [if_pos (anyNan_yes _ _ hlt Hnan.out)]
        exact ⟨hx.1, by rw [hx.2]; exact isNan_can hx.canonical Hnan.out⟩
    · go_wp2
      go_ret
      refine ⟨s, rfl, ?_, rfl⟩
      have e := Hn.out
      rw [List.take_of_length_le (by omega)] at e
      unfold fgreatest
      rw [e]
      have e : ws.length = k := by omega
      rw [e]; exact hs
set_option maxRecDepth 100000 in
set_option maxHeartbeats 1000000 in
theorem rgreatest_any (D : Value) (ws : List Nat) (w : World) (hD : FS w D ws) :
   Calls Try.prog 40 #[D] w (fun e w' => ∃ r, e = .returned (.float .f64 r) ∧ IsF r (fgreatest ws) ∧ ∃ o n, w' = ext w o n) := by
  obtain ⟨a, cap, rfl⟩ := hD.shape
  have hl := hD.len
  have HD := hD.at.2
  clear hD
  have hl' : (ws.length : Int) ≤ 9223372036854775807 := by omega
  go_enter Try.func40, Try.ntmps40
  go_wp2
  go_loopw [4] (fun c wr => ∃ k : Nat, k ≤ ws.length ∧ c = .int .i64 k ∧ anyNan (ws.take k) = false ∧ ∃ o n, wr = ext w o n) (fun c _ => ws.length - (intOf c).toNat)
  case atStart => exact ⟨0, Nat.zero_le _, rfl, rfl, _, _, ext_zero.symm⟩
  case round =>
    obtain ⟨k, hk, rfl, hn, oo, nn, hwr⟩ := hrel
    subst hwr
    have Hn := hid hn
    clear hn
    by_cases hlt : k < ws.length
    · obtain ⟨blk, o, rfl, hblk, hc⟩ := HD (by omega)
      obtain ⟨b, hb, hx⟩ := hc k hlt
      clear hc HD
      have e1 := order_self b
      rw [hx.nan] at e1
      have hi0 : (0 : Int) ≤ (k : Int) := by omega
      have hi1 : (k : Int) < (ws.length : Int) := by omega
      cases hnan : isNan (ws.getD k 0)
      · have q1 : (FloatKind.f64.format.order b b != some .eq) = false := e1.trans hnan
        have Hnan := hid hnan
        clear hnan e1
        go_wp2
        refine wp_region_R (Grew w) [] [(0,0), (0,1), (0,2), (0,3), (0,4), (0,5), (0,6), (0,7), (0,8)] (by kernel_rfl) (by kernel_rfl) (fun _ _ _ _ h _ => h) (by first | exact ⟨_, _, ext_drew⟩ | exact ⟨_, _, drew_ext0⟩ | (show Grew _ _; repeat (first | (with_reducible exact Grew.refl _) | (with_reducible assumption) | (with_reducible exact Grew.same_o) | (with_reducible exact Grew.app_o) | (with_reducible refine Grew.ext ?_ _ _) | (with_reducible refine Grew.alloc ?_ _) | ((with_reducible refine Grew.setCell ?_ ?_ _); rotate_left; (focus (dsimp only; first | omega | (simp only [size_ext, World.size_alloc, Array.size_append]; omega)))) | (with_reducible refine Grew.drewN ?_ _) | (with_reducible refine Grew.drew ?_)))) ?_
        go_wp2_with (first | ((with_reducible refine wpR_id ?_); first | (refine wpR_take (v := ?_) rfl rfl ?_ ?_; rotate_left; (focus (rintro w' ⟨o', n', rfl⟩; go_simp; try with_reducible rfl)); simp only [Act.put, List.setIfInBounds_toArray, List.set_cons_zero, List.set_cons_succ]) | (refine wpR_pure (v := ?_) rfl rfl ?_ ?_; rotate_left; (focus (intro w'; go_simp; try with_reducible rfl)); simp only [Act.put, List.setIfInBounds_toArray, List.set_cons_zero, List.set_cons_succ]) | (refine wpR_takeG (v := ?_) rfl rfl rfl rfl rfl ?_ ?_; rotate_left; (focus (rintro w' ⟨o', n', rfl⟩; go_simp; try with_reducible rfl)); simp only [Act.put, List.setIfInBounds_toArray, List.set_cons_zero, List.set_cons_succ]) | (refine wpR_skip rfl rfl rfl rfl rfl rfl ?_; simp only [Act.put, List.setIfInBounds_toArray, List.set_cons_zero, List.set_cons_succ]) | (refine wpR_skipU rfl rfl rfl rfl rfl ?_; simp only [Act.put, List.setIfInBounds_toArray, List.set_cons_zero, List.set_cons_succ]) | (refine wpR_do rfl rfl (fun K hK => ?_)) | (refine wpR_doG rfl rfl rfl rfl rfl (fun K hK => ?_)) | (refine wpR_last rfl rfl (fun K hK => ?_)) | (refine wpR_nil ?_)) | ((with_reducible refine wpR_go ?_ ?_); (focus exact ⟨_, _, rfl⟩)) | ((with_reducible refine upon_id ?_); refine upon_fop rfl (by assumption) (by assumption) ?_; intro rr nn hr))
        go_roundw
        case rel => exact ⟨k + 1, by omega, by go_num, by rw [anyNan_take _ _ hlt, Hn.out, Hnan.out]; rfl, _, _, rfl⟩
        case measure => simp [intOf]; omega
      · have q1 : (FloatKind.f64.format.order b b != some .eq) = true := e1.trans hnan
        have Hnan := hid hnan
        clear hnan e1
        go_wp2
        refine wp_region_R (Grew w) [] [(0,0), (0,1), (0,2), (0,3), (0,4), (0,5), (0,6), (0,7), (0,8)] (by kernel_rfl) (by kernel_rfl) (fun _ _ _ _ h _ => h) (by first | exact ⟨_, _, ext_drew⟩ | exact ⟨_, _, drew_ext0⟩ | (show Grew _ _; repeat (first | (with_reducible exact Grew.refl _) | (with_reducible assumption) | (with_reducible exact Grew.same_o) | (with_reducible exact Grew.app_o) | (with_reducible refine Grew.ext ?_ _ _) | (with_reducible refine Grew.alloc ?_ _) | ((with_reducible refine Grew.setCell ?_ ?_ _); rotate_left; (focus (dsimp only; first | omega | (simp only [size_ext, World.size_alloc, Array.size_append]; omega)))) | (with_reducible refine Grew.drewN ?_ _) | (with_reducible refine Grew.drew ?_)))) ?_
        go_wp2_with (first | ((with_reducible refine wpR_id ?_); first | (refine wpR_take (v := ?_) rfl rfl ?_ ?_; rotate_left; (focus (rintro w' ⟨o', n', rfl⟩; go_simp; try with_reducible rfl)); simp only [Act.put, List.setIfInBounds_toArray, List.set_cons_zero, List.set_cons_succ]) | (refine wpR_pure (v := ?_) rfl rfl ?_ ?_; rotate_left; (focus (intro w'; go_simp; try with_reducible rfl)); simp only [Act.put, List.setIfInBounds_toArray, List.set_cons_zero, List.set_cons_succ]) | (refine wpR_takeG (v := ?_) rfl rfl rfl rfl rfl ?_ ?_; rotate_left; (focus (rintro w' ⟨o', n', rfl⟩; go_simp; try with_reducible rfl)); simp only [Act.put, List.setIfInBounds_toArray, List.set_cons_zero, List.set_cons_succ]) | (refine wpR_skip rfl rfl rfl rfl rfl rfl ?_; simp only [Act.put, List.setIfInBounds_toArray, List.set_cons_zero, List.set_cons_succ]) | (refine wpR_skipU rfl rfl rfl rfl rfl ?_; simp only [Act.put, List.setIfInBounds_toArray, List.set_cons_zero, List.set_cons_succ]) | (refine wpR_do rfl rfl (fun K hK => ?_)) | (refine wpR_doG rfl rfl rfl rfl rfl (fun K hK => ?_)) | (refine wpR_last rfl rfl (fun K hK => ?_)) | (refine wpR_nil ?_)) | ((with_reducible refine wpR_go ?_ ?_); (focus exact ⟨_, _, rfl⟩)) | ((with_reducible refine upon_id ?_); refine upon_fop rfl (by assumption) (by assumption) ?_; intro rr nn hr))
        go_ret
        refine ⟨b, rfl, ?_, _, _, rfl⟩
        unfold fgreatest
        rw [if_pos (anyNan_yes _ _ hlt Hnan.out)]
        exact ⟨hx.1, by rw [hx.2]; exact isNan_can hx.canonical Hnan.out⟩
    · have hall : anyNan ws = false := by
        have e := Hn.out
        rwa [List.take_of_length_le (by omega)] at e
      have Hall := hid hall
      clear hall
      go_wp2
      go_loopw [3, 5] (fun s c wr => ∃ j b : Nat, j ≤ ws.length ∧ c = .int .i64 j ∧ s = .float .f64 b ∧ IsF b (fmaxTo ws j) ∧ ∃ o n, wr = ext w o n) (fun _ c _ => ws.length - (intOf c).toNat)
      case atStart => exact ⟨0, 0, Nat.zero_le _, rfl, rfl, isF_zero, _, _, rfl⟩
      case round =>
        obtain ⟨j, s, hj, rfl, rfl, hs, oo2, nn2, hwr2⟩ := hrel
        subst hwr2
        by_cases hlt2 : j < ws.length
        · obtain ⟨blk, o, rfl, hblk, hc⟩ := HD (by omega)
          obtain ⟨b, hb, hx⟩ := hc j hlt2
          clear hc HD
          have e2 : (FloatKind.f64.format.order b s == some .gt) = fgt (ws.getD j 0) (fmaxTo ws j) := by
            unfold fgt; rw [← hx.order hs]; rfl
          cases hg : fgt (ws.getD j 0) (fmaxTo ws j)
          · have q2 := e2.trans hg
            have Hg := hid hg
            clear hg e2
            go_wp2
            go_roundw
            case rel => exact ⟨j + 1, s, by omega, by go_num, rfl, by unfold fmaxTo; rw [if_neg (by rw [Hg.out]; decide)]; exact hs, _, _, rfl⟩
            case measure => simp [intOf]; omega
          · have q2 := e2.trans hg
            have Hg := hid hg
            clear hg e2
            go_wp2
            go_roundw
            case rel => exact ⟨j + 1, b, by omega, by go_num, rfl, by unfold fmaxTo; rw [if_pos Hg.out]; exact hx, _, _, rfl⟩
            case measure => simp [intOf]; omega
        · go_wp2
          go_ret
          refine ⟨s, rfl, ?_, _, _, rfl⟩
          unfold fgreatest
          rw [Hall.out]
          have e : ws.length = j := by omega
          rw [e]; exact hs
end Go.Proofs.Ytcmggfpcbijcjaa
end
section
/-
  A region that draws, and where several operations act in no fixed order: a tree of orders.
-/
set_option linter.unusedSimpArgs false
set_option linter.unusedVariables false
namespace Sedge
open Go Go.RowKit
/-- A tree of orders: step k i t (kind 0: the same in every world of the class; 3: in every world); alt i t m: either i acts, then t; or one of m; stop: no more. -/
inductive OT where
  | done
  | step (k i : Nat) (t : OT)
  | alt (i : Nat) (t m : OT)
  | stop
def OT.alts : OT → List Nat
  | .alt i _ m => i :: m.alts
  | _ => []
def OT.fuel : OT → Nat
  | .done => 0
  | .step _ _ t => t.fuel + 1
  | .alt _ t _ => t.fuel + 1
  | .stop => 0
section
variable {P : Program} {ops : Array Oper} {Q : Exit → Act → World → Prop} {S : World → Prop}
def wpF (P : Program) (ops : Array Oper) (Q : Exit → Act → World → Prop) (S : World → Prop) : OT → Act → World → Prop
  | .done, a, w => Q .normal a w
  | .stop, _, _ => True
  | .step k i t, a, w =>
    match ops[i]? with
    | none => False
    | some o =>
      if Region.wanted o (yielded ops a.tmps) = true then
        ∃ v, (∀ w', (k = 0 → S w') → (execOp a.eval o).run P w' = .ok (.value v) w') ∧ wpF P ops Q S t (a.put o.dst v) w
      else wpF P ops Q S t (a.put o.dst undef) w
  | .alt i t m, a, w =>
    (match ops[i]? with
    | none => False
    | some o => o.guard = none ∧ o.wp P a w (fun a' w' => S w' ∧ wpF P ops Q S t a' w') Q) ∧ wpF P ops Q S m a w
def okF (ops : Array Oper) : OT → Array Bool → Bool → Bool
  | .done, listed, _ => (Region.ready .any ops listed).isEmpty
  | .stop, _, inner => inner
  | .step _ i t, listed, inner => !inner && (Region.ready .any ops listed).contains i && Region.free .any ops listed i && okF ops t (listed.setIfInBounds i true) false
  | .alt i t m, listed, inner => (inner || Region.ready .any ops listed == i :: m.alts) && okF ops t (listed.setIfInBounds i true) false && t.fuel == (match m with | .alt _ t' _ => t'.fuel | _ => t.fuel) && okF ops m listed true
theorem wanted_none' {o : Oper} {y : Nat → Option Bool} (hg : o.guard = none) : Region.wanted o y = true := by unfold Region.wanted; rw [hg]
theorem anyF (hsel : Region.noSelect ops = true) (hQ : ∀ c a d v w, Q (.panic c) (Act.put a d v) w → Q (.panic c) a w) : ∀ (t : OT),
    (∀ listed a w, okF ops t listed false = true → S w → wpF P ops Q S t a w → AnyT P .any ops Q S (fun _ => false) t.fuel listed a w) ∧
    (∀ listed a w n, okF ops t listed true = true → S w → wpF P ops Q S t a w → (∀ i t' m, t = .alt i t' m → t'.fuel = n) →
      ∀ j ∈ t.alts, wpOp P ops Q j (fun a' w' => (false = false → S w → S w') ∧ AnyT P .any ops Q S (fun _ => false) n (listed.setIfInBounds j true) a' w') a w)
  | .done => ⟨fun listed a w hok _ h => ⟨by simpa [okF] using hok, h⟩, fun _ _ _ _ _ _ _ _ j hj => by cases hj⟩
  | .stop => ⟨fun listed a w hok _ _ => by simp [okF] at hok, fun _ _ _ _ _ _ _ _ j hj => by cases hj⟩
  | .step k i t => by
    refine ⟨fun listed a w hok hS h => ?_, fun _ _ _ _ _ _ _ _ j hj => by cases hj⟩
    simp only [okF, Bool.and_eq_true, Bool.not_false, true_and] at hok
    obtain ⟨⟨h1, h2⟩, h3⟩ := hok
    unfold wpF at h
    cases ho : ops[i]? with
    | none => rw [ho] at h; exact h.elim
    | some o =>
      rw [ho] at h
      simp only at h
      by_cases hw : Region.wanted o (yielded ops a.tmps) = true
      · rw [if_pos hw] at h
        obtain ⟨v, hv, hn⟩ := h
        exact anyT_first (tail := fun _ => false) ho hsel hQ rfl (fun _ _ _ h => by cases h) t.fuel listed a w (Region.free_spec ho h2) (by simpa using h1) (.inl ⟨hw, fun w' hw' => hv w' fun _ => hw'⟩) hS ((anyF hsel hQ t).1 _ _ _ h3 hS hn)
      · rw [if_neg hw] at h
        exact anyT_first (tail := fun _ => false) ho hsel hQ rfl (fun _ _ _ h => by cases h) t.fuel listed a w (Region.free_spec ho h2) (by simpa using h1) (.inr ⟨by simpa using hw, rfl⟩) hS ((anyF hsel hQ t).1 _ _ _ h3 hS h)
  | .alt i t m => by
    have two : ∀ listed a w n, okF ops t (listed.setIfInBounds i true) false = true → okF ops m listed true = true → t.fuel = (match m with | .alt _ t' _ => t'.fuel | _ => t.fuel) → S w → wpF P ops Q S (.alt i t m) a w → t.fuel = n →
        ∀ j ∈ (OT.alt i t m).alts, wpOp P ops Q j (fun a' w' => (false = false → S w → S w') ∧ AnyT P .any ops Q S (fun _ => false) n (listed.setIfInBounds j true) a' w') a w := by
      intro listed a w n h1 h2 h3 hS h hn j hj
      unfold wpF at h
      obtain ⟨h4, h5⟩ := h
      rcases List.mem_cons.1 hj with rfl | hj
      · cases ho : ops[j]? with
        | none => rw [ho] at h4; exact h4.elim
        | some o =>
          rw [ho] at h4
          obtain ⟨hg, hwp⟩ := h4
          unfold wpOp
          rw [ho]
          simp only [wanted_none' hg, if_true]
          exact .inl (Oper.wp_mono (fun a' w' h' => ⟨fun _ _ => h'.1, by rw [← hn]; exact (anyF hsel hQ t).1 _ _ _ h1 h'.1 h'.2⟩) hwp)
      · refine (anyF hsel hQ m).2 listed a w n h2 hS h5 (fun i' t' m' hm => ?_) j hj
        subst hm
        simp only at h3
        omega
    refine ⟨fun listed a w hok hS h => ?_, fun listed a w n hok hS h hn => ?_⟩
    · simp only [okF, Bool.false_or, Bool.and_eq_true, beq_iff_eq] at hok
      obtain ⟨⟨⟨h1, h2⟩, h3⟩, h4⟩ := hok
      show AnyT P .any ops Q S _ (t.fuel + 1) listed a w
      refine ⟨fun h0 => (by rw [h1] at h0; cases h0), fun j hj => ?_⟩
      rw [h1] at hj
      exact two listed a w t.fuel h2 h4 h3 hS h rfl j hj
    · simp only [okF, Bool.true_or, Bool.true_and, Bool.and_eq_true, beq_iff_eq] at hok
      obtain ⟨⟨h2, h3⟩, h4⟩ := hok
      exact two listed a w n h2 h4 h3 hS h (hn i t m rfl)
theorem wp_region_F {id : Nat} {a : Act} {w : World} {l : List Oper} (S : World → Prop) (t : OT) (hm : P.follows .mixedOrders = true)
    (hB : (Region.noSelect l.toArray && okF l.toArray t (Array.replicate l.length false) false && t.fuel == l.length) = true)
    (hQ : ∀ c t df w, Q (.panic c) ⟨t, df⟩ w → ∀ t', Q (.panic c) ⟨t', df⟩ w) (hS : S w.drew)
    (h : wpF P l.toArray Q S t a w.drew) : (Code.region id l.toArray true).wp P Q a w := by
  simp only [Bool.and_eq_true, beq_iff_eq] at hB
  refine wp_region_any hm (any_of_anyT (S := S) (tail := fun _ => false) _ _ _ _ ?_)
  have hQ' : ∀ c a d v w, Q (.panic c) (Act.put a d v) w → Q (.panic c) a w := fun c a d v w h => by
    cases d with
    | none => exact h
    | some d => exact hQ c _ _ w h _
  have := (anyF (P := P) (Q := Q) (S := S) hB.1.1 hQ' t).1 (Array.replicate l.length false) a w.drew hB.1.2 hS h
  rw [hB.2] at this
  simpa using this
variable {l : List Oper}
theorem wpF_id {r : OT} {a : Act} {w : World} (h : wpF P ops Q S r a w) : wpF P ops Q S r a w := h
theorem wpF_done {a : Act} {w : World} (h : Q .normal a w) : wpF P ops Q S .done a w := h
theorem wpF_stop {a : Act} {w : World} : wpF P ops Q S .stop a w := trivial
theorem wpF_take {i : Nat} {o : Oper} {r : OT} {a : Act} {w : World} {v : Value} (ho : nth l i = some o) (hg : o.guard = none)
    (hv : ∀ w', S w' → (execOp a.eval o).run P w' = .ok (.value v) w')
    (h : wpF P l.toArray Q S r (a.put o.dst v) w) : wpF P l.toArray Q S (.step 0 i r) a w := by
  have hw := wanted_none (y := yielded l.toArray a.tmps) hg
  unfold wpF; rw [← nth_eq, ho]; simp only [hw, if_true]; exact ⟨v, fun w' h0 => hv w' (by simpa using h0), h⟩
theorem wpF_alt {i : Nat} {o : Oper} {r m : OT} {a : Act} {w : World} (ho : nth l i = some o) (hg : o.guard = none)
    (h : ∀ K : Act → World → Prop, (∀ a w, S w ∧ wpF P l.toArray Q S r a w → K a w) → o.wp P a w K Q) (hm : wpF P l.toArray Q S m a w) : wpF P l.toArray Q S (.alt i r m) a w := by
  unfold wpF; rw [← nth_eq, ho]; exact ⟨⟨hg, h _ fun _ _ h => h⟩, hm⟩
theorem wpF_go {r : OT} {a : Act} {w : World} (hS : S w) (h : wpF P ops Q S r a w) : S w ∧ wpF P ops Q S r a w := ⟨hS, h⟩
attribute [irreducible] wpF
end
end Sedge
end
section
/-
  Contracts: ref01.Scale; resid.Bounds and its reference.
-/
set_option linter.unusedSimpArgs false
set_option linter.unusedVariables false
open Go Go.RowKit Sedge Ieee
namespace Go.Proofs.Ytcmggfpcbijcjaa
theorem word_zero_of {b : Nat} (hb : b < 2 ^ 64) (hk : pKind b = 0) (hm : pMag b = 0) : b = D64.word (pNeg b) 0 := by
  have p63 : (2:Nat) ^ 63 = 9223372036854775808 := by decide
  have p64 : (2:Nat) ^ 64 = 18446744073709551616 := by decide
  have hSW : SW = 9223372036854775808 := by decide +kernel
  have hBN : BN = 4503599627370496 := by decide +kernel
  have he : expo b = 0 := by
    by_cases h : expo b = 0
    · exact h
    · exfalso
      unfold pMag at hm
      unfold pKind at hk
      rw [hBN] at hm
      by_cases h2 : expo b = 2047
      · rw [if_pos h2] at hk
        split at hk <;> simp at hk
      · simp [h, h2] at hm
  have hf : frac b = 0 := by
    unfold pMag at hm
    simp [he] at hm
    exact hm
  rw [word_sN, p63]
  unfold pNeg sN
  unfold expo frac at *
  rw [hBN] at *
  rw [hSW]
  rw [p64] at hb
  by_cases h : b / 9223372036854775808 = 1
  · simp [h]; omega
  · simp [h]; omega
set_option maxRecDepth 100000 in
set_option maxHeartbeats 1000000 in
/-- straightedgeref01.Scale. -/
theorem rscale_any (b x : Nat) (k : Int) (w : World) (hx : IsF b x) : Calls Try.prog 165 #[.float .f64 b, .int .i64 k] w (fun e w' => ∃ r, e = .returned (.float .f64 r) ∧ IsF r (fscale x k) ∧ w = w') := by
  have hb : b < 18446744073709551616 := hx.1
  by_cases hk : pKind b = 0
  · have e := isF_of_kind hx (by omega)
    subst e
    have hm := pMag_lt b
    have he := pExp_ge b hk
    have hmk : ∀ w', Calls Try.prog 199 #[.bool (pNeg b), .int .u64 (pMag b), .int .i64 (pExp b + kcl k)] w' (fun e w2 => ∃ r, e = .returned (.float .f64 r) ∧ IsF r (fscale b k) ∧ w' = w2) := fun w' => by
      refine (make_any (pNeg b) (pMag b) _ w' hm (by unfold kcl; omega)).mono fun e w2 hh => ?_
      obtain ⟨r, rfl, h1, h2⟩ := hh
      refine ⟨r, rfl, ?_, h2⟩
      have e : mkF (pNeg b) (pMag b) (pExp b + kcl k) = fscale b k := by
        unfold mkF fscale
        by_cases h0 : pMag b = 0
        · rw [if_pos h0, if_neg (by simp [h0])]; exact (word_zero_of hx.1 hk h0).symm
        · rw [if_neg h0, if_pos ⟨hk, h0⟩]
      rwa [e] at h1
    have d0 : ((pKind b : Int) == 0) = true := by rw [hk]; rfl
    have d0' : decide ((pKind b : Int) = 0) = true := by rw [hk]; rfl
    clear hm
    have Hk := hid hk
    clear hk hx
    by_cases c1 : k < -5000
    · have e2 : kcl k = -5000 := by unfold kcl; omega
      have d1 : decide (5000 < k) = false := by simp; omega
      have d2 : decide (k < -5000) = true := by simpa using c1
      rw [e2] at hmk
      have r1 : IntKind.i64.wrap (pExp b + (-5000)) = pExp b + (-5000) := IntWalk.i64_in _ (by omega)
      go_enter Try.func165, Try.ntmps165
      go_wp2_with (first | (go_at_call 116; ((with_reducible refine (parts_any b _ hb).mono ?_); rintro e w1 ⟨rfl, rfl⟩)) | (go_at_call 199; ((with_reducible refine (hmk _).mono ?_); rintro e w1 ⟨r, rfl, hr, rfl⟩)))
      go_ret
      exact ⟨r, rfl, hr, rfl⟩
    · by_cases c2 : 5000 < k
      · have e2 : kcl k = 5000 := by unfold kcl; omega
        have d1 : decide (5000 < k) = true := by simpa using c2
        rw [e2] at hmk
        have r1 : IntKind.i64.wrap (pExp b + 5000) = pExp b + 5000 := IntWalk.i64_in _ (by omega)
        go_enter Try.func165, Try.ntmps165
        go_wp2_with (first | (go_at_call 116; ((with_reducible refine (parts_any b _ hb).mono ?_); rintro e w1 ⟨rfl, rfl⟩)) | (go_at_call 199; ((with_reducible refine (hmk _).mono ?_); rintro e w1 ⟨r, rfl, hr, rfl⟩)))
        go_ret
        exact ⟨r, rfl, hr, rfl⟩
      · have e2 : kcl k = k := by unfold kcl; omega
        have d1 : decide (5000 < k) = false := by simpa using c2
        have d2 : decide (k < -5000) = false := by simpa using c1
        rw [e2] at hmk
        have r1 : IntKind.i64.wrap (pExp b + k) = pExp b + k := IntWalk.i64_in _ (by omega)
        go_enter Try.func165, Try.ntmps165
        go_wp2_with (first | (go_at_call 116; ((with_reducible refine (parts_any b _ hb).mono ?_); rintro e w1 ⟨rfl, rfl⟩)) | (go_at_call 199; ((with_reducible refine (hmk _).mono ?_); rintro e w1 ⟨r, rfl, hr, rfl⟩)))
        go_ret
        exact ⟨r, rfl, hr, rfl⟩
  · have d0 : ((pKind b : Int) == 0) = false := by simp; omega
    have d0' : decide ((pKind b : Int) = 0) = false := by simp; omega
    have e2 : fscale x k = x := by
      unfold fscale
      rw [if_neg]
      intro h2
      rw [← hx.kind] at h2
      exact hk h2.1
    rw [e2]
    have HX := hid hx
    clear hk hx e2
    go_enter Try.func165, Try.ntmps165
    go_wp2_with (first | (go_at_call 116; ((with_reducible refine (parts_any b _ hb).mono ?_); rintro e w1 ⟨rfl, rfl⟩)))
    go_ret
    exact ⟨b, rfl, HX.out, rfl⟩
/-- float64(n + 3). -/
def gF (n : Nat) : Nat := floatOfInt .f64 ((n : Int) + 3)
theorem gF_isF (n : Nat) : IsF (gF n) (gF n) := by
  unfold gF floatOfInt FloatKind.nearest FloatKind.encode FloatKind.format Format.write
  exact nearest_isF _ _ _
def bndAt (n x b : Nat) : Nat := fadd (fadd (fabs x) (fmul (fscale (gF n) (-52)) b)) (fscale (gF n) (-1070))
def bndTo (L M : List Nat) (i : Nat) : List Nat := (List.range i).map fun j => bndAt L.length (L.getD j 0) (M.getD j 0)
def bndL (L M : List Nat) : List Nat := bndTo L M L.length
theorem bndTo_succ (L M : List Nat) (i : Nat) : bndTo L M (i + 1) = bndTo L M i ++ [bndAt L.length (L.getD i 0) (M.getD i 0)] := by unfold bndTo; rw [List.range_succ, List.map_append]; rfl
theorem bndTo_length (L M : List Nat) (i : Nat) : (bndTo L M i).length = i := by simp [bndTo]
theorem bndL_length (L M : List Nat) : (bndL L M).length = L.length := bndTo_length _ _ _
set_option maxRecDepth 100000 in
set_option maxHeartbeats 1000000 in
/-- resid.Bounds, where the lists are not of one length. -/
theorem bounds_no (X Y : Value) (L M : List Nat) (w : World) (hX : FS w X L) (hY : FS w Y M) (hne : M.length ≠ L.length) :
   Calls Try.prog 92 #[X, Y] w (fun e w' => e = .returned (.tuple #[.slice none 0 0, .int .i64 3]) ∧ ∃ o n, w' = ext w o n) := by
  obtain ⟨aX, cX, rfl⟩ := hX.shape
  obtain ⟨aY, cY, rfl⟩ := hY.shape
  have d1 : ((M.length : Int) == (L.length : Int)) = false := by simp; omega
  go_enter Try.func92, Try.ntmps92
  go_wp2
  refine bodyPost_ret (v := .tuple #[.slice none 0 0, .int .i64 3]) (by simp [results, Try.results92, go_sem, *]) rfl ?_
  exact ⟨rfl, #[], w.drawn, ext_zero.symm⟩
set_option maxRecDepth 100000 in
set_option maxHeartbeats 2000000 in
/-- resid.Bounds. -/
theorem bounds_any (X Y : Value) (L M : List Nat) (w : World) (hX : FS w X L) (hY : FS w Y M) (hl : L.length ≤ 1000000) (hlm : M.length = L.length) :
   Calls Try.prog 92 #[X, Y] w (fun e w' => ∃ v, e = .returned (.tuple #[v, .int .i64 0]) ∧ OwnF 22 w' w.heap.size v (bndL L M) ∧ ∃ o n, w' = ext w o n) := by
  obtain ⟨aX, cX, rfl⟩ := hX.shape
  obtain ⟨aY, cY, rfl⟩ := hY.shape
  obtain ⟨N, hN⟩ : ∃ N, N = L.length := ⟨_, rfl⟩
  rw [hlm] at hY ⊢
  rw [← hN] at hX hY hl ⊢
  have r1 : IntKind.i64.wrap ((N : Int) + 3) = N + 3 := IntWalk.i64_in _ (by omega)
  obtain ⟨g, hg⟩ : ∃ g, g = gF N := ⟨_, rfl⟩
  have g1 : floatOfInt .f64 ((N : Int) + 3) = g := hg.symm
  have hgF : IsF g g := by rw [hg]; exact gF_isF N
  have HG := hid hg
  have HLM := hid hlm
  have HNN := hid hN
  clear hg hlm hN
  go_enter Try.func92, Try.ntmps92
  go_wp2_with (first | (go_at_call 162; ((with_reducible refine (nscale_any g g (-52) _ hgF).mono ?_); rintro e w1 ⟨s, rfl, hs, o1, n1, rfl⟩)) | (go_at_call 162; ((with_reducible refine (nscale_any g g (-1070) _ hgF).mono ?_); rintro e w1 ⟨t, rfl, ht, o2, n2, rfl⟩)))
  go_loopw [9, 28] (fun v c wr => ∃ (i : Nat) (o : Array Obj) (n : Nat), i ≤ N ∧ c = .int .i64 i ∧ wr = ext w o n ∧ OwnF 22 wr w.heap.size v (bndTo L M i)) (fun _ c _ => N - (intOf c).toNat)
  case atStart => exact ⟨0, _, _, Nat.zero_le _, rfl, rfl, by simpa [bndTo] using OwnF.nil _ _ _⟩
  case round =>
    obtain ⟨i, o3, n3, hi, rfl, hwr, hown⟩ := hrel
    have gw : Grew w wr := ⟨_, _, hwr⟩
    clear hwr
    by_cases hlt : i < N
    · obtain ⟨blk, o, cap', ex, hblk, hc⟩ := (hX.grew gw).open (by rw [← HNN.out]; omega)
      simp only [Value.slice.injEq] at ex
      obtain ⟨rfl, -, rfl⟩ := ex
      obtain ⟨b, hb, hf⟩ := hc i (by rw [← HNN.out]; omega)
      obtain ⟨blk2, o', cap2, ex, hblk2, hc2⟩ := (hY.grew gw).open (by rw [HLM.out, ← HNN.out]; omega)
      simp only [Value.slice.injEq] at ex
      obtain ⟨rfl, -, rfl⟩ := ex
      obtain ⟨b2, hb2, hf2⟩ := hc2 i (by rw [HLM.out, ← HNN.out]; omega)
      have hll : (bndTo L M i).length = i := bndTo_length _ _ _
      clear hc hc2
      go_wp2
      refine wp_region_F (Grew wr) (.step 0 0 (.step 0 2 (.step 0 3 (.step 0 4 (.step 0 5 (.step 0 6 (.alt 1 (.alt 7 (.alt 8 (.step 0 9 .done) .stop) .stop) (.alt 7 (.alt 1 (.alt 8 (.step 0 9 .done) .stop) .stop) .stop)))))))) (by kernel_rfl) (by kernel_rfl) (fun _ _ _ _ h _ => h) (by first | exact ⟨_, _, ext_drew⟩ | exact ⟨_, _, drew_ext0⟩ | (show Grew _ _; repeat (first | (with_reducible exact Grew.refl _) | (with_reducible assumption) | (with_reducible exact Grew.same_o) | (with_reducible exact Grew.app_o) | (with_reducible refine Grew.ext ?_ _ _) | (with_reducible refine Grew.alloc ?_ _) | ((with_reducible refine Grew.setCell ?_ ?_ _); rotate_left; (focus (dsimp only; first | omega | (simp only [size_ext, World.size_alloc, Array.size_append]; omega)))) | (with_reducible refine Grew.drewN ?_ _) | (with_reducible refine Grew.drew ?_)))) ?_
      go_wp2_with (first | ((with_reducible refine wpF_id ?_); first | (refine wpF_take (v := ?_) rfl rfl ?_ ?_; rotate_left; (focus (rintro w' ⟨o', n', rfl⟩; go_simp; try with_reducible rfl)); simp only [Act.put, List.setIfInBounds_toArray, List.set_cons_zero, List.set_cons_succ]) | (refine wpF_alt rfl rfl (fun K hK => ?_) ?_) | (exact wpF_stop) | (refine wpF_done ?_)) | ((with_reducible refine wpF_go ?_ ?_); (focus (show Grew _ _; repeat (first | (with_reducible exact Grew.refl _) | (with_reducible assumption) | (with_reducible exact Grew.same_o) | (with_reducible exact Grew.app_o) | (with_reducible refine Grew.ext ?_ _ _) | (with_reducible refine Grew.alloc ?_ _) | ((with_reducible refine Grew.setCell ?_ ?_ _); rotate_left; (focus (dsimp only; omega))) | (with_reducible refine Grew.drewN ?_ _) | (with_reducible refine Grew.drew ?_))))) | ((with_reducible refine upon_id ?_); refine upon_fop rfl (by assumption) (by assumption) ?_; intro rr nn hr) | (go_at_call 164; ((with_reducible refine (mabs_any b _ _ hf).mono ?_); rintro e w1 ⟨ra, rfl, hra, rfl⟩)) | (at_builtin; refine append1_f (W := w) (v := u9) (xs := bndTo L M i) (y := bndAt L.length (L.getD i 0) (M.getD i 0)) finfo ?_ ?_ ?_ ((by rw [hll]; omega)) _ _ rfl rfl rfl ?_ rfl ?_; (focus (refine Grew.trans gw ?_; (show Grew _ _; repeat (first | (with_reducible exact Grew.refl _) | (with_reducible assumption) | (with_reducible exact Grew.same_o) | (with_reducible exact Grew.app_o) | (with_reducible refine Grew.ext ?_ _ _) | (with_reducible refine Grew.alloc ?_ _) | ((with_reducible refine Grew.setCell ?_ ?_ _); rotate_left; (focus (dsimp only; first | omega | (simp only [size_ext, World.size_alloc, Array.size_append]; omega)))) | (with_reducible refine Grew.drewN ?_ _) | (with_reducible refine Grew.drew ?_))))); (focus (refine OwnF.grew (w := wr) ?_ ?_; (focus (with_reducible assumption)); (focus (show Grew _ _; repeat (first | (with_reducible exact Grew.refl _) | (with_reducible assumption) | (with_reducible exact Grew.same_o) | (with_reducible exact Grew.app_o) | (with_reducible refine Grew.ext ?_ _ _) | (with_reducible refine Grew.alloc ?_ _) | ((with_reducible refine Grew.setCell ?_ ?_ _); rotate_left; (focus (dsimp only; first | omega | (simp only [size_ext, World.size_alloc, Array.size_append]; omega)))) | (with_reducible refine Grew.drewN ?_ _) | (with_reducible refine Grew.drew ?_)))))); (focus (unfold bndAt; rw [← HNN.out, ← HG.out]; exact hr)); (focus (first | rfl | (simp only [size_ext, World.size_alloc, Array.size_append]; done) | (simp only [size_ext, World.size_alloc, Array.size_append]; omega))); intro v oo nn ho hn))
      all_goals (
        go_roundw
        case rel => exact ⟨i + 1, oo, nn, by omega, by go_num, rfl, by rw [bndTo_succ]; exact ho⟩
        case measure => simp [intOf]; omega)
    · have e : i = N := by omega
      subst e
      go_wp2
      refine bodyPost_ret (v := .tuple #[u9, .int .i64 0]) (by simp [results, Try.results92, go_sem, *]) rfl ?_
      exact ⟨_, rfl, by unfold bndL; rw [← HNN.out]; exact hown, by (show Grew _ _; repeat (first | (with_reducible exact Grew.refl _) | (with_reducible assumption) | (with_reducible exact Grew.same_o) | (with_reducible exact Grew.app_o) | (with_reducible refine Grew.ext ?_ _ _) | (with_reducible refine Grew.alloc ?_ _) | ((with_reducible refine Grew.setCell ?_ ?_ _); rotate_left; (focus (dsimp only; first | omega | (simp only [size_ext, World.size_alloc, Array.size_append]; omega)))) | (with_reducible refine Grew.drewN ?_ _) | (with_reducible refine Grew.drew ?_)))⟩
end Go.Proofs.Ytcmggfpcbijcjaa
end
section
/-
  Contracts: math.Frexp, num.Exp, straightedgeref01.Exp.
-/
set_option linter.unusedSimpArgs false
set_option linter.unusedVariables false
open Go Go.RowKit Sedge
namespace Go.Proofs.Ytcmggfpcbijcjaa
/-- A number below the normal ones, made normal. -/
theorem normal_sub2 {x : Nat} (hx : x < 2 ^ 64) (hk : pKind x = 0) (h0 : pMag x ≠ 0) (he : expo x = 0) :
    ∃ f, (frac x).log2 ≤ 51 ∧ f < BN ∧ fmul x 4841369599423283200 = D64.word (pNeg x) (((frac x).log2 + 1) * BN + f) := by
  have e1 : pMag x = frac x := by unfold pMag; rw [if_neg (by omega), if_pos he]
  have e2 : pExp x = -1074 := by unfold pExp; rw [if_neg (by omega), if_pos he]
  have hr : D64.read x = .number (pNeg x) (frac x) (-1074) := by rw [read_eq x hx, if_pos hk, e1, e2]
  obtain ⟨m, hm⟩ : ∃ m, m = frac x := ⟨_, rfl⟩
  have hm0 : m ≠ 0 := by rw [hm, ← e1]; exact h0
  have hmb : m < BN := by rw [hm]; exact frac_lt x
  rw [fmul_num hr read_p52, ← hm, Bool.xor_false]
  obtain ⟨a, b⟩ := log2_spec m hm0
  obtain ⟨L, hL⟩ : ∃ L, L = m.log2 := ⟨_, rfl⟩
  have hL51 : L ≤ 51 := by
    have : m < 2 ^ 52 := by rw [← BN_eq']; exact hmb
    have := (Nat.log2_lt hm0).2 this; omega
  rw [← hL] at a b ⊢
  have hp : 2 ^ L * 2 ^ (52 - L) = 2 ^ 52 := by rw [← Nat.pow_add]; congr 1; omega
  have hM1 : 2 ^ 52 ≤ m * 2 ^ (52 - L) := by rw [← hp]; exact Nat.mul_le_mul_right _ a
  have hM2 : m * 2 ^ (52 - L) < 2 ^ 53 := by
    have : m * 2 ^ (52 - L) < 2 ^ (L + 1) * 2 ^ (52 - L) := Nat.mul_lt_mul_of_pos_right b (Nat.two_pow_pos _)
    rw [← Nat.pow_add, show L + 1 + (52 - L) = 53 by omega] at this; exact this
  obtain ⟨f, hf⟩ : ∃ f, m * 2 ^ (52 - L) = BN + f := ⟨m * 2 ^ (52 - L) - BN, by rw [BN_eq']; omega⟩
  have hfb : f < BN := by rw [BN_eq'] at *; omega
  refine ⟨f, hL51, hfb, ?_⟩
  rw [Int.add_zero]
  have e3 : m * 4503599627370496 = m * 2 ^ 52 := by rw [show (2 : Nat) ^ 52 = 4503599627370496 from by decide]
  obtain ⟨A, hA⟩ : ∃ A, A = m * 4503599627370496 := ⟨_, rfl⟩
  have hA0 : A ≠ 0 := by omega
  have hA2 : A = (BN + f) * 2 ^ L := by rw [hA, e3, ← hf, Nat.mul_assoc, ← Nat.pow_add, show 52 - L + L = 52 by omega]
  have hAl : A.log2 = L + 52 := by rw [hA, e3, log2_mul_pow m 52 hm0, hL]
  rw [← hA]
  clear hA e3
  have hl : lastP A (-1074) = -1074 + L := by unfold lastP; rw [hAl]; push_cast; omega
  rw [nearest_eq _ _ _ hA0, kept_of hl, hl, hA2, rne_exact]
  have h3 : (-1074 + (L : Int) + 1074).toNat = L := by omega
  rw [h3]
  have h4 : L * BN + (BN + f) ≤ IR := by unfold IR BN at *; omega
  rw [Nat.min_eq_left h4]
  have h5 : (L + 1) * BN = L * BN + BN := Nat.succ_mul L BN
  rw [h5, Nat.add_assoc]
/-- A finite number that isn't 0, made normal: its exponent. -/
theorem norm_exp {x : Nat} (hx : x < 2 ^ 64) (hk : pKind x = 0) (h0 : pMag x ≠ 0) : ∃ X f, 1 ≤ X ∧ X ≤ 2046 ∧ f < BN ∧ nrmF x = D64.word (pNeg x) (X * BN + f) ∧ nrmE x + X - 1023 = fexp x := by
  have h2 : expo x ≠ 2047 := by
    intro h; unfold pKind at hk; rw [if_pos h] at hk; split at hk <;> cases hk
  have hf0 : fexp x = pExp x + (pMag x).log2 := by unfold fexp; rw [if_pos ⟨hk, h0⟩]
  by_cases he : expo x = 0
  · have e1 : pMag x = frac x := by unfold pMag; rw [if_neg (by omega), if_pos he]
    have e2 : pExp x = -1074 := by unfold pExp; rw [if_neg (by omega), if_pos he]
    obtain ⟨f, q1, q2, q3⟩ := normal_sub2 hx hk h0 he
    refine ⟨(frac x).log2 + 1, f, by omega, by omega, q2, by unfold nrmF; rw [if_pos he, q3], ?_⟩
    rw [hf0, e1, e2]
    unfold nrmE; rw [if_pos he]; omega
  · refine ⟨expo x, frac x, by omega, ?_, frac_lt x, ?_, ?_⟩
    · have := expo_lt x; omega
    · obtain ⟨X, f, q1, q2, q3, q4, _⟩ := normal_of hx hk h0 he
      unfold nrmF; rw [if_neg he]
      have e : X * BN + f = expo x * BN + frac x := by
        have h3 : x % SW = X * BN + f := by
          rw [q4]
          have hs : SW = 2 ^ 63 := by decide +kernel
          rw [hs, word_sN, Nat.mul_add_mod]
          have p63 : (2:Nat) ^ 63 = 9223372036854775808 := by decide
          rw [Nat.mod_eq_of_lt (by unfold BN at *; omega)]
        rw [← h3, rung_eq]
      rw [← e]; exact q4
    · have e1 : pMag x = frac x + BN := by unfold pMag; rw [if_neg h2, if_neg he]
      have e2 : pExp x = (expo x : Int) - 1075 := by unfold pExp; rw [if_neg h2, if_neg he]
      have hb : frac x < 4503599627370496 := frac_lt x
      have hl : (frac x + BN).log2 = 52 := by
        refine (Nat.log2_eq_iff (by unfold BN; omega)).2 ⟨?_, ?_⟩
        · unfold BN; omega
        · unfold BN; omega
      rw [hf0, e1, e2, hl]
      unfold nrmE; rw [if_neg he]; omega
theorem u64_and2047 (n : Nat) (h : n < 18446744073709551616) : bits .and .u64 (n : Int) 2047 = ((n % 2048 : Nat) : Int) := by
  rw [show bits .and .u64 (n : Int) 2047 = ((n &&& 2047 : Nat) : Int) from u64_and_nat n 2047 h (by decide)]
  rw [show (2047 : Nat) = 2 ^ 11 - 1 by decide, Nat.and_two_pow_sub_one_eq_mod]
set_option maxRecDepth 100000 in
set_option maxHeartbeats 2000000 in
/-- math.frexp: the exponent. -/
theorem frexp_any (b : Nat) (w : World) (hb : b < 2 ^ 64) (h0 : pKind b = 0) (hm : pMag b ≠ 0) :
    Calls Try.prog 218 #[.float .f64 b] w (fun e w' => ∃ r, e = .returned (.tuple #[.float .f64 r, .int .i64 (fexp b + 1)]) ∧ ∃ o n, w' = ext w o n) := by
  obtain ⟨X, f, hX1, hX2, hf, hY, hE⟩ := norm_exp hb h0 hm
  have hI : IR = 9218868437227405312 := by decide +kernel
  have hnE : nrmE b = 0 ∨ nrmE b = -52 := by unfold nrmE; split <;> simp
  obtain ⟨E, hEE⟩ : ∃ E, E = nrmE b := ⟨_, rfl⟩
  obtain ⟨s, hs⟩ : ∃ s, s = pNeg b := ⟨_, rfl⟩
  obtain ⟨Y, hYY⟩ : ∃ Y, Y = D64.word s (X * BN + f) := ⟨_, rfl⟩
  have hYf : X * BN + f ≤ IR := by rw [hI]; unfold BN at *; omega
  have hYlt : Y < 2 ^ 64 := by rw [hYY]; exact (isF_word s _ hYf).1
  have hYlt' : Y < 18446744073709551616 := hYlt
  have hnorm : ∀ w', Calls Try.prog 224 #[.float .f64 b] w' (fun e w2 => e = .returned (.tuple #[.float .f64 Y, .int .i64 E]) ∧ ∃ o n, w2 = ext w' o n) := fun w' => by
    refine (normalize_any b w' hb h0).mono fun e w2 hh => ?_
    obtain ⟨r, rfl, h1, h2⟩ := hh
    rw [hY, ← hs] at h1
    rw [isF_word_eq hYf h1, ← hYY, ← hEE]
    exact ⟨rfl, h2⟩
  rw [← hEE] at hnE hE
  have d1 : (FloatKind.f64.format.order b 0 == some Ordering.eq) = false := by
    show (D64.order b 0 == some Ordering.eq) = false
    rw [ord_zero_eq b hb h0]; simpa using hm
  have d2 : decide (pKind b = 1) = false := by rw [h0]; decide
  have d3 : decide (pKind b = 2) = false := by rw [h0]; decide
  have hexp : Y / 4503599627370496 % 2048 = X := by
    rw [hYY, word_sN]
    have p63 : (2:Nat) ^ 63 = 9223372036854775808 := by decide
    unfold BN at *
    rcases sN_or s with h | h <;> rw [h] <;> omega
  have a1 : bits .and .u64 ((Y : Int) / 4503599627370496) 2047 = (X : Int) := by
    rw [show (Y : Int) / 4503599627370496 = ((Y / 4503599627370496 : Nat) : Int) by omega, u64_and2047 _ (by omega), hexp]
  have e52 : (2:Int) ^ 52 = 4503599627370496 := by decide
  have r0 : IntKind.i64.wrap (X : Int) = X := IntWalk.i64_in _ (by omega)
  have r1 : IntKind.i64.wrap ((X : Int) - 1023) = X - 1023 := IntWalk.i64_in _ (by omega)
  have r2 : IntKind.i64.wrap ((X : Int) - 1023 + 1) = X - 1023 + 1 := IntWalk.i64_in _ (by omega)
  have r3 : IntKind.i64.wrap (E + ((X : Int) - 1023 + 1)) = fexp b + 1 := by rw [IntWalk.i64_in _ (by omega)]; omega
  have hB := hid hb
  clear hY hE hs hEE h0 hm hb hexp hYY
  go_enter Try.func218, Try.ntmps218
  go_wp2_with (first | (go_at_call 216; ((with_reducible refine (isinf_any b _ hB.out).mono ?_); rintro e w1 ⟨rfl, rfl⟩)) | (go_at_call 223; ((with_reducible refine (isnan_any b _ hB.out).mono ?_); rintro e w1 ⟨rfl, rfl⟩)) | (go_at_call 224; ((with_reducible refine (hnorm _).mono ?_); rintro e w1 ⟨rfl, o1, n1, rfl⟩)))
  refine bodyPost_ret (by simp [results, Try.results218, go_sem, *]; rfl) rfl ?_
  exact ⟨_, rfl, by (show Grew _ _; repeat (first | (with_reducible exact Grew.refl _) | (with_reducible assumption) | (with_reducible exact Grew.same_o) | (with_reducible exact Grew.app_o) | (with_reducible refine Grew.ext ?_ _ _) | (with_reducible refine Grew.alloc ?_ _) | ((with_reducible refine Grew.setCell ?_ ?_ _); rotate_left; (focus (dsimp only; first | omega | (simp only [size_ext, World.size_alloc, Array.size_append]; omega)))) | (with_reducible refine Grew.drewN ?_ _) | (with_reducible refine Grew.drew ?_)))⟩
set_option maxRecDepth 100000 in
/-- math.Frexp: the exponent. -/
theorem mfrexp_any (b : Nat) (w : World) (hb : b < 2 ^ 64) (h0 : pKind b = 0) (hm : pMag b ≠ 0) :
    Calls Try.prog 201 #[.float .f64 b] w (fun e w' => ∃ r, e = .returned (.tuple #[.float .f64 r, .int .i64 (fexp b + 1)]) ∧ ∃ o n, w' = ext w o n) := by
  have h := fun w' => frexp_any b w' hb h0 hm
  clear hb h0 hm
  go_enter Try.func201, Try.ntmps201
  go_wp2_with (first | (go_at_call 218; ((with_reducible refine (h _).mono ?_); rintro e w1 ⟨r, rfl, o1, n1, rfl⟩)))
  go_ret2
  exact ⟨_, rfl, by (show Grew _ _; repeat (first | (with_reducible exact Grew.refl _) | (with_reducible assumption) | (with_reducible exact Grew.same_o) | (with_reducible exact Grew.app_o) | (with_reducible refine Grew.ext ?_ _ _) | (with_reducible refine Grew.alloc ?_ _) | ((with_reducible refine Grew.setCell ?_ ?_ _); rotate_left; (focus (dsimp only; first | omega | (simp only [size_ext, World.size_alloc, Array.size_append]; omega)))) | (with_reducible refine Grew.drewN ?_ _) | (with_reducible refine Grew.drew ?_)))⟩
end Go.Proofs.Ytcmggfpcbijcjaa
end
section
/-
  Contracts: num.Finite, num.Exp, straightedgeref01.Exp.
-/
set_option linter.unusedSimpArgs false
set_option linter.unusedVariables false
open Go Go.RowKit Sedge
namespace Go.Proofs.Ytcmggfpcbijcjaa
theorem kind3 (b : Nat) : pKind b = 0 ∨ pKind b = 1 ∨ pKind b = 2 := by
  unfold pKind
  by_cases h : expo b = 2047
  · rw [if_pos h]
    by_cases h2 : frac b = 0
    · rw [if_pos h2]; simp
    · rw [if_neg h2]; simp
  · rw [if_neg h]; simp
theorem finL_no (ws : List Nat) (k : Nat) (hlt : k < ws.length) (h : finB (ws.getD k 0) = false) : finL ws = false := by
  unfold finL
  have hm : ws.getD k 0 ∈ ws := by rw [List.getD_eq_getElem?_getD, List.getElem?_eq_getElem hlt]; exact List.getElem_mem hlt
  rw [List.all_eq_false]
  exact ⟨_, hm, by simpa using h⟩
set_option maxRecDepth 100000 in
set_option maxHeartbeats 1000000 in
/-- num.Finite. -/
theorem nfin_any (D : Value) (ws : List Nat) (w : World) (hD : FS w D ws) :
   Calls Try.prog 200 #[D] w (fun e w' => e = .returned (.bool (finL ws)) ∧ w = w') := by
  obtain ⟨a, cap, rfl⟩ := hD.shape
  have hl := hD.len
  have HD := hD.at.2
  clear hD
  have hl' : (ws.length : Int) ≤ 9223372036854775807 := by omega
  go_enter Try.func200, Try.ntmps200
  go_wp2
  go_loop [7] (fun c => ∃ k : Nat, k ≤ ws.length ∧ c = .int .i64 k ∧ finL (ws.take k) = true) (fun c => ws.length - (intOf c).toNat)
  case atStart => exact ⟨0, Nat.zero_le _, rfl, rfl⟩
  case round =>
    obtain ⟨k, hk, rfl, hf⟩ := hrel
    have Hf := hid hf
    clear hf
    by_cases hlt : k < ws.length
    · obtain ⟨blk, o, rfl, hblk, hc⟩ := HD (by omega)
      obtain ⟨b, hb, hx⟩ := hc k hlt
      clear hc
      have hb1 := hx.1
      have hkd := hx.kind
      have e0 := finL_take ws k hlt
      have h1 : (FloatKind.f64.format.order b b != some Ordering.eq) = decide (pKind b = 2) := (order_self b).trans (isNan_kind b hb1)
      rcases kind3 b with hf2 | hf2 | hf2
      · have q1 : (FloatKind.f64.format.order b b != some Ordering.eq) = false := by rw [h1, hf2]; decide
        have q2 : decide (pKind b = 1) = false := by rw [hf2]; decide
        have Hq := hid hf2
        have Hkd := hid hkd
        have He0 := hid e0
        clear hf2 hkd e0 h1
        go_wp2_with (first | (go_at_call 216; ((with_reducible refine (isinf_any _ _ hb1).mono ?_); rintro e w1 ⟨rfl, rfl⟩)))
        go_round
        case rel => exact ⟨k + 1, by omega, by go_num, by rw [He0.out, Hf.out, finB, ← Hkd.out, Hq.out]; rfl⟩
        case measure => simp [intOf]; omega
      · have q1 : (FloatKind.f64.format.order b b != some Ordering.eq) = false := by rw [h1, hf2]; decide
        have q2 : decide (pKind b = 1) = true := by rw [hf2]; decide
        have Hq := hid hf2
        have Hkd := hid hkd
        clear hf2 hkd e0 h1
        go_wp2_with (first | (go_at_call 216; ((with_reducible refine (isinf_any _ _ hb1).mono ?_); rintro e w1 ⟨rfl, rfl⟩)))
        go_ret
        refine ⟨ret_bool ?_, rfl⟩
        have : finB (ws.getD k 0) = false := by unfold finB; rw [← Hkd.out, Hq.out]; decide
        exact (finL_no ws k hlt this).symm
      · have q1 : (FloatKind.f64.format.order b b != some Ordering.eq) = true := by rw [h1, hf2]; decide
        have Hq := hid hf2
        have Hkd := hid hkd
        clear hf2 hkd e0 h1
        go_wp2
        go_ret
        refine ⟨ret_bool ?_, rfl⟩
        have : finB (ws.getD k 0) = false := by unfold finB; rw [← Hkd.out, Hq.out]; decide
        exact (finL_no ws k hlt this).symm
    · go_wp2
      go_ret
      refine ⟨ret_bool ?_, rfl⟩
      have := Hf.out
      rw [show k = ws.length by omega, List.take_length] at this
      exact this.symm
theorem fexp_not {b : Nat} (h : pKind b ≠ 0 ∨ pMag b = 0) : fexp b = 0 := by
  unfold fexp; rw [if_neg]; rintro ⟨h1, h2⟩; rcases h with h | h
  · exact h h1
  · exact h2 h
theorem fexp_canon {b x : Nat} (h : IsF b x) : fexp b = fexp x := by
  by_cases hk : pKind b = 0
  · have hn : isNan b = false := by rw [isNan_kind b h.1, hk]; decide
    rw [← h.2, canon_not hn]
  · rw [fexp_not (.inl hk), fexp_not (.inl (by rw [← h.kind]; exact hk))]
theorem order_nan_none {b : Nat} (hb : b < 2 ^ 64) (h : pKind b = 2) : (D64.order b 0 == some Ordering.eq) = false := by
  rw [order_none b 0 hb h]; rfl
theorem fexp_range {b : Nat} (hk : pKind b = 0) (hm : pMag b ≠ 0) : -1074 ≤ fexp b ∧ fexp b ≤ 1023 := by
  have h1 := pExp_ge b hk
  have h2 := log2_le_52 hm (pMag_lt b)
  unfold fexp; rw [if_pos ⟨hk, hm⟩]; omega
theorem fexp_range' (b : Nat) : -1074 ≤ fexp b ∧ fexp b ≤ 1023 := by
  by_cases h : pKind b = 0 ∧ pMag b ≠ 0
  · exact fexp_range h.1 h.2
  · unfold fexp; rw [if_neg h]; decide
theorem finL_one (x : Nat) : finL [x] = finB x := by simp [finL]
set_option maxRecDepth 100000 in
set_option maxHeartbeats 1000000 in
/-- num.Exp. -/
theorem nexp_any (b x : Nat) (w : World) (hb : IsF b x) : Calls Try.prog 178 #[.float .f64 b] w (fun e w' => e = .returned (.int .i64 (fexp x)) ∧ ∃ o n, w' = ext w o n) := by
  rw [← fexp_canon hb]
  have hfin : ∀ w' blk, w'.cell? ⟨blk, 0, none⟩ = some (.float .f64 b) → Calls Try.prog 200 #[.slice (some ⟨blk, 0, none⟩) 1 1] w' (fun e w2 => e = .returned (.bool (finB x)) ∧ w' = w2) := fun w' blk h1 => by
    have := nfin_any (.slice (some ⟨blk, 0, none⟩) 1 1) [x] w' ⟨by simp, some ⟨blk, 0, none⟩, 1, rfl, by simp, fun i hi => by
      have : i = 0 := by simpa using hi
      subst this
      exact ⟨blk, 0, b, rfl, h1, hb⟩⟩
    rw [finL_one] at this
    exact this
  have hlt := hb.1
  by_cases hk : pKind b = 0
  · by_cases hm : pMag b = 0
    · have d1 : (FloatKind.f64.format.order b 0 == some Ordering.eq) = true := by
        show (D64.order b 0 == some Ordering.eq) = true
        rw [ord_zero_eq b hlt hk, hm]; decide
      have q := fexp_not (b := b) (.inr hm)
      rw [q]
      clear hm hk q
      go_enter Try.func178, Try.ntmps178
      go_wp2
      go_ret
      exact ⟨rfl, by (show Grew _ _; repeat (first | (with_reducible exact Grew.refl _) | (with_reducible assumption) | (with_reducible exact Grew.same_o) | (with_reducible exact Grew.app_o) | (with_reducible refine Grew.ext ?_ _ _) | (with_reducible refine Grew.alloc ?_ _) | ((with_reducible refine Grew.setCell ?_ ?_ _); rotate_left; (focus (dsimp only; first | omega | (simp only [size_ext, World.size_alloc, Array.size_append]; omega)))) | (with_reducible refine Grew.drewN ?_ _) | (with_reducible refine Grew.drew ?_)))⟩
    · have d1 : (FloatKind.f64.format.order b 0 == some Ordering.eq) = false := by
        show (D64.order b 0 == some Ordering.eq) = false
        rw [ord_zero_eq b hlt hk]; simpa using hm
      have hf : finB x = true := by unfold finB; rw [← hb.kind, hk]; decide
      rw [hf] at hfin
      have hfr := fun w' => mfrexp_any b w' hlt hk hm
      have hr := fexp_range hk hm
      have r1 : IntKind.i64.wrap (fexp b) = fexp b := IntWalk.i64_in _ (by omega)
      clear hm hk hf hr
      go_enter Try.func178, Try.ntmps178
      go_wp2_with (first | (go_at_call 200; ((with_reducible refine (hfin _ _ (by go_simp)).mono ?_); rintro e w1 ⟨rfl, rfl⟩)) | (go_at_call 201; ((with_reducible refine (hfr _).mono ?_); rintro e w1 ⟨r, rfl, o1, n1, rfl⟩)))
      go_ret
      exact ⟨rfl, by (show Grew _ _; repeat (first | (with_reducible exact Grew.refl _) | (with_reducible assumption) | (with_reducible exact Grew.same_o) | (with_reducible exact Grew.app_o) | (with_reducible refine Grew.ext ?_ _ _) | (with_reducible refine Grew.alloc ?_ _) | ((with_reducible refine Grew.setCell ?_ ?_ _); rotate_left; (focus (dsimp only; first | omega | (simp only [size_ext, World.size_alloc, Array.size_append]; omega)))) | (with_reducible refine Grew.drewN ?_ _) | (with_reducible refine Grew.drew ?_)))⟩
  · have hf : finB x = false := by unfold finB; rw [← hb.kind]; simpa using hk
    have q := fexp_not (b := b) (.inl hk)
    rw [q]
    rw [hf] at hfin
    clear hk hf q
    cases d1 : (FloatKind.f64.format.order b 0 == some Ordering.eq)
    · go_enter Try.func178, Try.ntmps178
      go_wp2_with (first | (go_at_call 200; ((with_reducible refine (hfin _ _ (by go_simp)).mono ?_); rintro e w1 ⟨rfl, rfl⟩)))
      go_ret
      exact ⟨rfl, by (show Grew _ _; repeat (first | (with_reducible exact Grew.refl _) | (with_reducible assumption) | (with_reducible exact Grew.same_o) | (with_reducible exact Grew.app_o) | (with_reducible refine Grew.ext ?_ _ _) | (with_reducible refine Grew.alloc ?_ _) | ((with_reducible refine Grew.setCell ?_ ?_ _); rotate_left; (focus (dsimp only; first | omega | (simp only [size_ext, World.size_alloc, Array.size_append]; omega)))) | (with_reducible refine Grew.drewN ?_ _) | (with_reducible refine Grew.drew ?_)))⟩
    · go_enter Try.func178, Try.ntmps178
      go_wp2_with (first | (go_at_call 200; ((with_reducible refine (hfin _ _ (by go_simp)).mono ?_); rintro e w1 ⟨rfl, rfl⟩)))
      go_ret
      exact ⟨rfl, by (show Grew _ _; repeat (first | (with_reducible exact Grew.refl _) | (with_reducible assumption) | (with_reducible exact Grew.same_o) | (with_reducible exact Grew.app_o) | (with_reducible refine Grew.ext ?_ _ _) | (with_reducible refine Grew.alloc ?_ _) | ((with_reducible refine Grew.setCell ?_ ?_ _); rotate_left; (focus (dsimp only; first | omega | (simp only [size_ext, World.size_alloc, Array.size_append]; omega)))) | (with_reducible refine Grew.drewN ?_ _) | (with_reducible refine Grew.drew ?_)))⟩
theorem rexp_step {m : Nat} (h : 1 < m) : (m / 2).log2 + 1 = m.log2 := by
  rw [Nat.log2_def m, if_pos (by omega)]
set_option maxRecDepth 100000 in
set_option maxHeartbeats 1000000 in
/-- straightedgeref01.Exp. -/
theorem rexp_any (b x : Nat) (w : World) (hb : IsF b x) : Calls Try.prog 180 #[.float .f64 b] w (fun e w' => e = .returned (.int .i64 (fexp x)) ∧ w = w') := by
  rw [← fexp_canon hb]
  have hlt := hb.1
  by_cases hk : pKind b = 0
  · have q1 : ((pKind b : Int) != 0) = false := by simp [hk]
    by_cases hm : pMag b = 0
    · have q2 : ((pMag b : Int) == 0) = true := by simp [hm]
      have q := fexp_not (b := b) (.inr hm)
      rw [q]
      clear hm hk q
      go_enter Try.func180, Try.ntmps180
      go_wp2_with (first | (go_at_call 116; ((with_reducible refine (parts_any _ _ hlt).mono ?_); rintro e w1 ⟨rfl, rfl⟩)))
      go_ret
      exact ⟨rfl, rfl⟩
    · have q2 : ((pMag b : Int) == 0) = false := by simp [hm]
      have ef : fexp b = pExp b + (pMag b).log2 := by unfold fexp; rw [if_pos ⟨hk, hm⟩]
      have hr := fexp_range hk hm
      have hr2 := pExp_ge b hk
      have hml := pMag_lt b
      rw [ef] at hr ⊢
      obtain ⟨TT, hT⟩ : ∃ TT, TT = pExp b + (pMag b).log2 := ⟨_, rfl⟩
      rw [← hT] at hr ⊢
      have HT := hid hT
      have Hm := hid hm
      clear hm hk ef hT
      go_enter Try.func180, Try.ntmps180
      go_wp2_with (first | (go_at_call 116; ((with_reducible refine (parts_any _ _ hlt).mono ?_); rintro e w1 ⟨rfl, rfl⟩)))
      go_loop [4, 5] (fun m e => ∃ (M : Nat) (E : Int), m = .int .u64 M ∧ e = .int .i64 E ∧ M ≠ 0 ∧ M < 9007199254740992 ∧ E + M.log2 = TT ∧ -1074 ≤ E) (fun m _ => (intOf m).toNat)
      case atStart => exact ⟨_, _, rfl, rfl, Hm.out, hml, HT.out.symm, hr2.1⟩
      case round =>
        obtain ⟨M, E, rfl, rfl, h0, hM, hE, hE2⟩ := hrel
        by_cases h1 : 1 < M
        · have e1 := rexp_step h1
          have d1 : decide ((1 : Int) < (M : Int)) = true := by simp; omega
          have r1 : IntKind.i64.wrap (E + 1) = E + 1 := IntWalk.i64_in _ (by omega)
          have HE := hid hE
          have E1 := hid e1
          clear hE e1
          go_wp2
          go_round
          case rel => exact ⟨M / 2, E + 1, by go_num, rfl, by omega, by omega, by have := HE.out; have := E1.out; omega, by omega⟩
          case measure => simp [intOf]; omega
        · have e1 : M = 1 := by omega
          subst e1
          have e2 : E = TT := by rw [show (1 : Nat).log2 = 0 by decide] at hE; omega
          subst e2
          go_wp2
          go_ret
          exact ⟨rfl, rfl⟩
  · have q1 : ((pKind b : Int) != 0) = true := by simp [hk]
    have q := fexp_not (b := b) (.inl hk)
    rw [q]
    clear hk q
    go_enter Try.func180, Try.ntmps180
    go_wp2_with (first | (go_at_call 116; ((with_reducible refine (parts_any _ _ hlt).mono ?_); rintro e w1 ⟨rfl, rfl⟩)))
    go_ret
    exact ⟨rfl, rfl⟩
end Go.Proofs.Ytcmggfpcbijcjaa
end
section
/-
  Contracts: view.place, view.At; trsv.square, zero; the system's num, at, less.
-/
set_option linter.unusedSimpArgs false
set_option linter.unusedVariables false
open Go Go.RowKit Sedge
namespace Go.Proofs.Ytcmggfpcbijcjaa
set_option maxRecDepth 100000 in
set_option maxHeartbeats 1000000 in
/-- view.place, within. -/
theorem place_any (x : MatM) (D : Value) (i j : Nat) (w : World) (hD : FS w D x.ws) (hx : x.good = true) (hwf : x.wf) (hi : (i : Int) < x.rows) (hj : (j : Int) < x.cols) (hl : x.ws.length ≤ 1000000) :
   Calls Try.prog 159 #[.agg #[D, .int .i64 x.off, .int .i64 x.rows, .int .i64 x.cols, .int .i64 x.ld], .int .i64 i, .int .i64 j] w (fun e w' => e = .returned (.int .i64 (x.off + i + j * x.ld)) ∧ ∃ o n, w' = ext w o n) := by
  have Hw := hid hwf
  have hp := MatM.good_place hx hi hj
  have hn := x.good_n hx
  have r1 : IntKind.i64.wrap (x.off + i) = x.off + i := IntWalk.i64_in _ (by omega)
  have r2 : IntKind.i64.wrap (j * x.ld) = j * x.ld := IntWalk.i64_in _ (by omega)
  have r3 : IntKind.i64.wrap (x.off + i + j * x.ld) = x.off + i + j * x.ld := IntWalk.i64_in _ (by omega)
  have d1 : decide ((i : Int) < 0) = false := by simp
  have d2 : decide ((j : Int) < 0) = false := by simp
  have d3 : decide (x.rows ≤ (i : Int)) = false := by simp; omega
  have d4 : decide (x.cols ≤ (j : Int)) = false := by simp; omega
  clear hwf
  go_enter Try.func159, Try.ntmps159
  refine seq_stop ?_
  go_wp2
  refine stop_go (fun W hW => ?_)
  have s1 : w.heap.size < W.heap.size := by rw [hW]; simp only [World.size_alloc]; omega
  have b1 : ∀ i, W.cell? ⟨w.heap.size, i, none⟩ = (#[D, .int .i64 x.off, .int .i64 x.rows, .int .i64 x.cols, .int .i64 x.ld] : Array Value)[i]? := by intro i; rw [hW]; go_simp
  have g0 : Grew w W := by rw [hW]; exact (Grew.refl _).alloc _
  clear hW
  have hDW := hD.grew g0
  go_wp2_with (first | (go_at_call 130; ((with_reducible refine (good_any x _ _ ?_ Hw.out).mono ?_); (focus (first | (with_reducible assumption) | (with_reducible refine FS.ext ?_ _ _; with_reducible assumption) | (with_reducible refine IS.ext ?_ _ _; with_reducible assumption) | (refine hDu _ ?_; with_reducible assumption) | (refine hOu _ ?_; with_reducible assumption) | (refine hDa _ ?_; with_reducible assumption) | (refine hDb _ ?_; with_reducible assumption) | (refine hDc _ ?_; with_reducible assumption) | (refine hDd _ ?_; with_reducible assumption) | (refine FW.fs ?_ (by omega) _; with_reducible assumption) | (refine WS.fs ?_; with_reducible assumption) | (refine FW.fs ?_ (by omega) _; assumption) | omega | assumption)); rintro e w1 ⟨rfl, o1, n1, rfl⟩)))
  go_ret
  exact ⟨rfl, by (show Grew _ _; repeat (first | (with_reducible exact Grew.refl _) | (with_reducible assumption) | (with_reducible exact Grew.same_o) | (with_reducible exact Grew.app_o) | (with_reducible refine Grew.ext ?_ _ _) | (with_reducible refine Grew.alloc ?_ _) | ((with_reducible refine Grew.setCell ?_ ?_ _); rotate_left; (focus (dsimp only; first | omega | (simp only [size_ext, World.size_alloc, Array.size_append]; omega)))) | (with_reducible refine Grew.drewN ?_ _) | (with_reducible refine Grew.drew ?_)))⟩
set_option maxRecDepth 100000 in
set_option maxHeartbeats 1000000 in
/-- view.At, within. -/
theorem vat_any (x : MatM) (D : Value) (i j : Nat) (w : World) (hD : FS w D x.ws) (hx : x.good = true) (hwf : x.wf) (hi : (i : Int) < x.rows) (hj : (j : Int) < x.cols) (hl : x.ws.length ≤ 1000000) :
   Calls Try.prog 186 #[.agg #[D, .int .i64 x.off, .int .i64 x.rows, .int .i64 x.cols, .int .i64 x.ld], .int .i64 i, .int .i64 j] w (fun e w' => ∃ b, e = .returned (.float .f64 b) ∧ IsF b (x.num i j) ∧ ∃ o n, w' = ext w o n) := by
  have hp := MatM.good_place hx hi hj
  obtain ⟨blk, o, cap, rfl, hblk, hc⟩ := hD.open (by omega)
  have hpl : ∀ w', FS w' (.slice (some ⟨blk, o, none⟩) x.ws.length cap) x.ws → Calls Try.prog 159 #[.agg #[.slice (some ⟨blk, o, none⟩) x.ws.length cap, .int .i64 x.off, .int .i64 x.rows, .int .i64 x.cols, .int .i64 x.ld], .int .i64 i, .int .i64 j] w' (fun e w2 => e = .returned (.int .i64 (x.off + i + j * x.ld)) ∧ ∃ o n, w2 = ext w' o n) := fun w' h => place_any x _ i j w' h hx hwf hi hj hl
  obtain ⟨b, hb0, hf⟩ := hc (x.place i j) (by unfold MatM.place; omega)
  have hf' : IsF b (x.num i j) := hf
  unfold MatM.place at hb0
  have d0 : decide (0 ≤ x.off + i + j * x.ld) = true := by simp; omega
  clear hx hwf hc
  go_enter Try.func186, Try.ntmps186
  refine seq_stop ?_
  go_wp2
  refine stop_go (fun W hW => ?_)
  have s1 : w.heap.size < W.heap.size := by rw [hW]; simp only [World.size_alloc]; omega
  have b1 : ∀ i, W.cell? ⟨w.heap.size, i, none⟩ = (#[.slice (some ⟨blk, o, none⟩) x.ws.length cap, .int .i64 x.off, .int .i64 x.rows, .int .i64 x.cols, .int .i64 x.ld] : Array Value)[i]? := by intro i; rw [hW]; go_simp
  have g0 : Grew w W := by rw [hW]; exact (Grew.refl _).alloc _
  clear hW
  have hDW := hD.grew g0
  have hb := (g0.cell hblk).trans hb0
  have kb : blk < W.heap.size := by omega
  go_wp2_with (first | (go_at_call 159; ((with_reducible refine (hpl _ ?_).mono ?_); (focus (first | (with_reducible assumption) | (with_reducible refine FS.ext ?_ _ _; with_reducible assumption) | (with_reducible refine IS.ext ?_ _ _; with_reducible assumption) | (refine hDu _ ?_; with_reducible assumption) | (refine hOu _ ?_; with_reducible assumption) | (refine hDa _ ?_; with_reducible assumption) | (refine hDb _ ?_; with_reducible assumption) | (refine hDc _ ?_; with_reducible assumption) | (refine hDd _ ?_; with_reducible assumption) | (refine FW.fs ?_ (by omega) _; with_reducible assumption) | (refine WS.fs ?_; with_reducible assumption) | (refine FW.fs ?_ (by omega) _; assumption) | omega | assumption)); rintro e w1 ⟨rfl, o1, n1, rfl⟩)))
  go_ret
  exact ⟨b, rfl, hf', by (show Grew _ _; repeat (first | (with_reducible exact Grew.refl _) | (with_reducible assumption) | (with_reducible exact Grew.same_o) | (with_reducible exact Grew.app_o) | (with_reducible refine Grew.ext ?_ _ _) | (with_reducible refine Grew.alloc ?_ _) | ((with_reducible refine Grew.setCell ?_ ?_ _); rotate_left; (focus (dsimp only; first | omega | (simp only [size_ext, World.size_alloc, Array.size_append]; omega)))) | (with_reducible refine Grew.drewN ?_ _) | (with_reducible refine Grew.drew ?_)))⟩
def sqE (k : Int) (x : MatM) (n : Int) : Int := if k < 1 ∨ 4 < k ∨ x.good = false then 1 else if x.rows = x.cols ∧ x.rows = n then 0 else 3
set_option maxRecDepth 100000 in
set_option maxHeartbeats 1000000 in
/-- trsv.square. -/
theorem square_any (k : Int) (x : MatM) (D : Value) (n : Int) (w : World) (hD : FS w D x.ws) (hwf : x.wf) :
   Calls Try.prog 151 #[.int .i64 k, .agg #[D, .int .i64 x.off, .int .i64 x.rows, .int .i64 x.cols, .int .i64 x.ld], .int .i64 n] w (fun e w' => e = .returned (.int .i64 (sqE k x n)) ∧ ∃ o n, w' = ext w o n) := by
  have Hw := hid hwf
  clear hwf
  by_cases k1 : k < 1
  · have q := hid (show sqE k x n = 1 by unfold sqE; rw [if_pos (.inl k1)])
    have d1 : decide (k < 1) = true := by simpa using k1
    go_enter Try.func151, Try.ntmps151
    refine seq_stop ?_
    go_wp2
    refine stop_go (fun W hW => ?_)
    have s1 : w.heap.size < W.heap.size := by rw [hW]; simp only [World.size_alloc]; omega
    have b1 : ∀ i, W.cell? ⟨w.heap.size, i, none⟩ = (#[D, .int .i64 x.off, .int .i64 x.rows, .int .i64 x.cols, .int .i64 x.ld] : Array Value)[i]? := by intro i; rw [hW]; go_simp
    have g0 : Grew w W := by rw [hW]; exact (Grew.refl _).alloc _
    clear hW
    have hDW := hD.grew g0
    go_wp2_with (first | (go_at_call 130; ((with_reducible refine (good_any x _ _ ?_ Hw.out).mono ?_); (focus (first | (with_reducible assumption) | (with_reducible refine FS.ext ?_ _ _; with_reducible assumption) | (with_reducible refine IS.ext ?_ _ _; with_reducible assumption) | (refine hDu _ ?_; with_reducible assumption) | (refine hOu _ ?_; with_reducible assumption) | (refine hDa _ ?_; with_reducible assumption) | (refine hDb _ ?_; with_reducible assumption) | (refine hDc _ ?_; with_reducible assumption) | (refine hDd _ ?_; with_reducible assumption) | (refine FW.fs ?_ (by omega) _; with_reducible assumption) | (refine WS.fs ?_; with_reducible assumption) | (refine FW.fs ?_ (by omega) _; assumption) | omega | assumption)); rintro e w1 ⟨rfl, o1, n1, rfl⟩)))
    go_ret
    exact ⟨ret_int q.out.symm, by (show Grew _ _; repeat (first | (with_reducible exact Grew.refl _) | (with_reducible assumption) | (with_reducible exact Grew.same_o) | (with_reducible exact Grew.app_o) | (with_reducible refine Grew.ext ?_ _ _) | (with_reducible refine Grew.alloc ?_ _) | ((with_reducible refine Grew.setCell ?_ ?_ _); rotate_left; (focus (dsimp only; first | omega | (simp only [size_ext, World.size_alloc, Array.size_append]; omega)))) | (with_reducible refine Grew.drewN ?_ _) | (with_reducible refine Grew.drew ?_)))⟩
  · have d1 : decide (k < 1) = false := by simpa using k1
    by_cases k2 : 4 < k
    · have q := hid (show sqE k x n = 1 by unfold sqE; rw [if_pos (.inr (.inl k2))])
      have d2 : decide (4 < k) = true := by simpa using k2
      go_enter Try.func151, Try.ntmps151
      refine seq_stop ?_
      go_wp2
      refine stop_go (fun W hW => ?_)
      have s1 : w.heap.size < W.heap.size := by rw [hW]; simp only [World.size_alloc]; omega
      have b1 : ∀ i, W.cell? ⟨w.heap.size, i, none⟩ = (#[D, .int .i64 x.off, .int .i64 x.rows, .int .i64 x.cols, .int .i64 x.ld] : Array Value)[i]? := by intro i; rw [hW]; go_simp
      have g0 : Grew w W := by rw [hW]; exact (Grew.refl _).alloc _
      clear hW
      have hDW := hD.grew g0
      go_wp2_with (first | (go_at_call 130; ((with_reducible refine (good_any x _ _ ?_ Hw.out).mono ?_); (focus (first | (with_reducible assumption) | (with_reducible refine FS.ext ?_ _ _; with_reducible assumption) | (with_reducible refine IS.ext ?_ _ _; with_reducible assumption) | (refine hDu _ ?_; with_reducible assumption) | (refine hOu _ ?_; with_reducible assumption) | (refine hDa _ ?_; with_reducible assumption) | (refine hDb _ ?_; with_reducible assumption) | (refine hDc _ ?_; with_reducible assumption) | (refine hDd _ ?_; with_reducible assumption) | (refine FW.fs ?_ (by omega) _; with_reducible assumption) | (refine WS.fs ?_; with_reducible assumption) | (refine FW.fs ?_ (by omega) _; assumption) | omega | assumption)); rintro e w1 ⟨rfl, o1, n1, rfl⟩)))
      go_ret
      exact ⟨ret_int q.out.symm, by (show Grew _ _; repeat (first | (with_reducible exact Grew.refl _) | (with_reducible assumption) | (with_reducible exact Grew.same_o) | (with_reducible exact Grew.app_o) | (with_reducible refine Grew.ext ?_ _ _) | (with_reducible refine Grew.alloc ?_ _) | ((with_reducible refine Grew.setCell ?_ ?_ _); rotate_left; (focus (dsimp only; first | omega | (simp only [size_ext, World.size_alloc, Array.size_append]; omega)))) | (with_reducible refine Grew.drewN ?_ _) | (with_reducible refine Grew.drew ?_)))⟩
    · have d2 : decide (4 < k) = false := by simpa using k2
      cases hg : x.good
      · have q := hid (show sqE k x n = 1 by unfold sqE; rw [if_pos (.inr (.inr hg))])
        go_enter Try.func151, Try.ntmps151
        refine seq_stop ?_
        go_wp2
        refine stop_go (fun W hW => ?_)
        have s1 : w.heap.size < W.heap.size := by rw [hW]; simp only [World.size_alloc]; omega
        have b1 : ∀ i, W.cell? ⟨w.heap.size, i, none⟩ = (#[D, .int .i64 x.off, .int .i64 x.rows, .int .i64 x.cols, .int .i64 x.ld] : Array Value)[i]? := by intro i; rw [hW]; go_simp
        have g0 : Grew w W := by rw [hW]; exact (Grew.refl _).alloc _
        clear hW
        have hDW := hD.grew g0
        go_wp2_with (first | (go_at_call 130; ((with_reducible refine (good_any x _ _ ?_ Hw.out).mono ?_); (focus (first | (with_reducible assumption) | (with_reducible refine FS.ext ?_ _ _; with_reducible assumption) | (with_reducible refine IS.ext ?_ _ _; with_reducible assumption) | (refine hDu _ ?_; with_reducible assumption) | (refine hOu _ ?_; with_reducible assumption) | (refine hDa _ ?_; with_reducible assumption) | (refine hDb _ ?_; with_reducible assumption) | (refine hDc _ ?_; with_reducible assumption) | (refine hDd _ ?_; with_reducible assumption) | (refine FW.fs ?_ (by omega) _; with_reducible assumption) | (refine WS.fs ?_; with_reducible assumption) | (refine FW.fs ?_ (by omega) _; assumption) | omega | assumption)); rintro e w1 ⟨rfl, o1, n1, rfl⟩)))
        go_ret
        exact ⟨ret_int q.out.symm, by (show Grew _ _; repeat (first | (with_reducible exact Grew.refl _) | (with_reducible assumption) | (with_reducible exact Grew.same_o) | (with_reducible exact Grew.app_o) | (with_reducible refine Grew.ext ?_ _ _) | (with_reducible refine Grew.alloc ?_ _) | ((with_reducible refine Grew.setCell ?_ ?_ _); rotate_left; (focus (dsimp only; first | omega | (simp only [size_ext, World.size_alloc, Array.size_append]; omega)))) | (with_reducible refine Grew.drewN ?_ _) | (with_reducible refine Grew.drew ?_)))⟩
      · have h3 : ¬ (k < 1 ∨ 4 < k ∨ x.good = false) := fun h => h.elim k1 (fun h => h.elim k2 (fun h => by rw [hg] at h; cases h))
        by_cases r1 : x.rows = x.cols
        · have e1 : (x.rows != x.cols) = false := by simpa using r1
          by_cases r2 : x.rows = n
          · have e2 : (x.rows != n) = false := by simpa using r2
            have q := hid (show sqE k x n = 0 by unfold sqE; rw [if_neg h3, if_pos ⟨r1, r2⟩])
            clear h3 r1 r2
            go_enter Try.func151, Try.ntmps151
            refine seq_stop ?_
            go_wp2
            refine stop_go (fun W hW => ?_)
            have s1 : w.heap.size < W.heap.size := by rw [hW]; simp only [World.size_alloc]; omega
            have b1 : ∀ i, W.cell? ⟨w.heap.size, i, none⟩ = (#[D, .int .i64 x.off, .int .i64 x.rows, .int .i64 x.cols, .int .i64 x.ld] : Array Value)[i]? := by intro i; rw [hW]; go_simp
            have g0 : Grew w W := by rw [hW]; exact (Grew.refl _).alloc _
            clear hW
            have hDW := hD.grew g0
            go_wp2_with (first | (go_at_call 130; ((with_reducible refine (good_any x _ _ ?_ Hw.out).mono ?_); (focus (first | (with_reducible assumption) | (with_reducible refine FS.ext ?_ _ _; with_reducible assumption) | (with_reducible refine IS.ext ?_ _ _; with_reducible assumption) | (refine hDu _ ?_; with_reducible assumption) | (refine hOu _ ?_; with_reducible assumption) | (refine hDa _ ?_; with_reducible assumption) | (refine hDb _ ?_; with_reducible assumption) | (refine hDc _ ?_; with_reducible assumption) | (refine hDd _ ?_; with_reducible assumption) | (refine FW.fs ?_ (by omega) _; with_reducible assumption) | (refine WS.fs ?_; with_reducible assumption) | (refine FW.fs ?_ (by omega) _; assumption) | omega | assumption)); rintro e w1 ⟨rfl, o1, n1, rfl⟩)))
            go_ret
            exact ⟨ret_int q.out.symm, by (show Grew _ _; repeat (first | (with_reducible exact Grew.refl _) | (with_reducible assumption) | (with_reducible exact Grew.same_o) | (with_reducible exact Grew.app_o) | (with_reducible refine Grew.ext ?_ _ _) | (with_reducible refine Grew.alloc ?_ _) | ((with_reducible refine Grew.setCell ?_ ?_ _); rotate_left; (focus (dsimp only; first | omega | (simp only [size_ext, World.size_alloc, Array.size_append]; omega)))) | (with_reducible refine Grew.drewN ?_ _) | (with_reducible refine Grew.drew ?_)))⟩
          · have e2 : (x.rows != n) = true := by simpa using r2
            have q := hid (show sqE k x n = 3 by unfold sqE; rw [if_neg h3, if_neg (fun h => r2 h.2)])
            clear h3 r1 r2
            go_enter Try.func151, Try.ntmps151
            refine seq_stop ?_
            go_wp2
            refine stop_go (fun W hW => ?_)
            have s1 : w.heap.size < W.heap.size := by rw [hW]; simp only [World.size_alloc]; omega
            have b1 : ∀ i, W.cell? ⟨w.heap.size, i, none⟩ = (#[D, .int .i64 x.off, .int .i64 x.rows, .int .i64 x.cols, .int .i64 x.ld] : Array Value)[i]? := by intro i; rw [hW]; go_simp
            have g0 : Grew w W := by rw [hW]; exact (Grew.refl _).alloc _
            clear hW
            have hDW := hD.grew g0
            go_wp2_with (first | (go_at_call 130; ((with_reducible refine (good_any x _ _ ?_ Hw.out).mono ?_); (focus (first | (with_reducible assumption) | (with_reducible refine FS.ext ?_ _ _; with_reducible assumption) | (with_reducible refine IS.ext ?_ _ _; with_reducible assumption) | (refine hDu _ ?_; with_reducible assumption) | (refine hOu _ ?_; with_reducible assumption) | (refine hDa _ ?_; with_reducible assumption) | (refine hDb _ ?_; with_reducible assumption) | (refine hDc _ ?_; with_reducible assumption) | (refine hDd _ ?_; with_reducible assumption) | (refine FW.fs ?_ (by omega) _; with_reducible assumption) | (refine WS.fs ?_; with_reducible assumption) | (refine FW.fs ?_ (by omega) _; assumption) | omega | assumption)); rintro e w1 ⟨rfl, o1, n1, rfl⟩)))
            go_ret
            exact ⟨ret_int q.out.symm, by (show Grew _ _; repeat (first | (with_reducible exact Grew.refl _) | (with_reducible assumption) | (with_reducible exact Grew.same_o) | (with_reducible exact Grew.app_o) | (with_reducible refine Grew.ext ?_ _ _) | (with_reducible refine Grew.alloc ?_ _) | ((with_reducible refine Grew.setCell ?_ ?_ _); rotate_left; (focus (dsimp only; first | omega | (simp only [size_ext, World.size_alloc, Array.size_append]; omega)))) | (with_reducible refine Grew.drewN ?_ _) | (with_reducible refine Grew.drew ?_)))⟩
        · have e1 : (x.rows != x.cols) = true := by simpa using r1
          have q := hid (show sqE k x n = 3 by unfold sqE; rw [if_neg h3, if_neg (fun h => r1 h.1)])
          clear h3 r1
          go_enter Try.func151, Try.ntmps151
          refine seq_stop ?_
          go_wp2
          refine stop_go (fun W hW => ?_)
          have s1 : w.heap.size < W.heap.size := by rw [hW]; simp only [World.size_alloc]; omega
          have b1 : ∀ i, W.cell? ⟨w.heap.size, i, none⟩ = (#[D, .int .i64 x.off, .int .i64 x.rows, .int .i64 x.cols, .int .i64 x.ld] : Array Value)[i]? := by intro i; rw [hW]; go_simp
          have g0 : Grew w W := by rw [hW]; exact (Grew.refl _).alloc _
          clear hW
          have hDW := hD.grew g0
          go_wp2_with (first | (go_at_call 130; ((with_reducible refine (good_any x _ _ ?_ Hw.out).mono ?_); (focus (first | (with_reducible assumption) | (with_reducible refine FS.ext ?_ _ _; with_reducible assumption) | (with_reducible refine IS.ext ?_ _ _; with_reducible assumption) | (refine hDu _ ?_; with_reducible assumption) | (refine hOu _ ?_; with_reducible assumption) | (refine hDa _ ?_; with_reducible assumption) | (refine hDb _ ?_; with_reducible assumption) | (refine hDc _ ?_; with_reducible assumption) | (refine hDd _ ?_; with_reducible assumption) | (refine FW.fs ?_ (by omega) _; with_reducible assumption) | (refine WS.fs ?_; with_reducible assumption) | (refine FW.fs ?_ (by omega) _; assumption) | omega | assumption)); rintro e w1 ⟨rfl, o1, n1, rfl⟩)))
          go_ret
          exact ⟨ret_int q.out.symm, by (show Grew _ _; repeat (first | (with_reducible exact Grew.refl _) | (with_reducible assumption) | (with_reducible exact Grew.same_o) | (with_reducible exact Grew.app_o) | (with_reducible refine Grew.ext ?_ _ _) | (with_reducible refine Grew.alloc ?_ _) | ((with_reducible refine Grew.setCell ?_ ?_ _); rotate_left; (focus (dsimp only; first | omega | (simp only [size_ext, World.size_alloc, Array.size_append]; omega)))) | (with_reducible refine Grew.drewN ?_ _) | (with_reducible refine Grew.drew ?_)))⟩
end Go.Proofs.Ytcmggfpcbijcjaa
end
section
/-
  Contracts: trsv.zero; the system's num, at, less.
-/
set_option linter.unusedSimpArgs false
set_option linter.unusedVariables false
open Go Go.RowKit Sedge
namespace Go.Proofs.Ytcmggfpcbijcjaa
def feq0 (x : Nat) : Bool := D64.order x 0 == some .eq
def zeroTo (k : Int) (x : MatM) (n : Nat) : Bool := (decide (k = 2) || decide (k = 4)) && (List.range n).any fun i => feq0 (x.num i i)
theorem zeroTo_succ (k : Int) (x : MatM) (n : Nat) : zeroTo k x (n + 1) = (zeroTo k x n || ((decide (k = 2) || decide (k = 4)) && feq0 (x.num n n))) := by
  unfold zeroTo; rw [List.range_succ, List.any_append]
  cases (decide (k = 2) || decide (k = 4)) <;> simp
theorem zeroTo_mono {k : Int} {x : MatM} {m n : Nat} (h : zeroTo k x m = true) (hmn : m ≤ n) : zeroTo k x n = true := by
  unfold zeroTo at *
  simp only [Bool.and_eq_true, List.any_eq_true, List.mem_range] at *
  obtain ⟨h1, t, h2, h3⟩ := h
  exact ⟨h1, t, by omega, h3⟩
set_option maxRecDepth 100000 in
set_option maxHeartbeats 1000000 in
/-- trsv.zero. -/
theorem zero_any (k : Int) (x : MatM) (D : Value) (w : World) (hD : FS w D x.ws) (hx : x.good = true) (hwf : x.wf) (hsq : x.rows = x.cols) (hr : x.rows ≤ 1000) (hl : x.ws.length ≤ 1000000) :
   Calls Try.prog 153 #[.int .i64 k, .agg #[D, .int .i64 x.off, .int .i64 x.rows, .int .i64 x.cols, .int .i64 x.ld]] w (fun e w' => e = .returned (.bool (zeroTo k x x.rows.toNat)) ∧ ∃ o n, w' = ext w o n) := by
  have hn := x.good_n hx
  have Hsq := hid hsq
  have hat : ∀ i : Nat, (i : Int) < x.rows → ∀ w', FS w' D x.ws → Calls Try.prog 186 #[.agg #[D, .int .i64 x.off, .int .i64 x.rows, .int .i64 x.cols, .int .i64 x.ld], .int .i64 i, .int .i64 i] w' (fun e w2 => ∃ b, e = .returned (.float .f64 b) ∧ IsF b (x.num i i) ∧ ∃ o n, w2 = ext w' o n) := fun i hi w' h => vat_any x D i i w' h hx hwf hi (by have := Hsq.out; omega) hl
  clear hx hwf hsq
  by_cases hk : k = 2 ∨ k = 4
  · have hkk : (decide (k = 2) || decide (k = 4)) = true := by simpa using hk
    have Hk := hid hkk
    go_enter Try.func153, Try.ntmps153
    refine seq_stop ?_
    go_wp2
    refine stop_go (fun W hW => ?_)
    have s1 : w.heap.size < W.heap.size := by rw [hW]; simp only [World.size_alloc]; omega
    have b1 : ∀ i, W.cell? ⟨w.heap.size, i, none⟩ = (#[D, .int .i64 x.off, .int .i64 x.rows, .int .i64 x.cols, .int .i64 x.ld] : Array Value)[i]? := by intro i; rw [hW]; go_simp
    have g0 : Grew w W := by rw [hW]; exact (Grew.refl _).alloc _
    clear hW
    have hDW := hD.grew g0
    go_wp2
    go_loopw [8] (fun c wr => ∃ (i : Nat) (o : Array Obj) (n : Nat), (i : Int) ≤ x.rows ∧ c = .int .i64 i ∧ wr = ext W o n ∧ zeroTo k x i = false) (fun c _ => x.rows.toNat - (intOf c).toNat)
    case atStart => exact ⟨0, #[], _, hn.1, rfl, ext_zero.symm, by simp [zeroTo]⟩
    case round =>
      obtain ⟨i, o2, n2, hi, rfl, hwr, hz⟩ := hrel
      subst hwr
      have Hz := hid hz
      clear hz
      by_cases hlt : (i : Int) < x.rows
      · have hS := hid (zeroTo_succ k x i)
        have hlt' := hid hlt
        have hati := hat i hlt
        clear hat
        cases hz : feq0 (x.num i i)
        · have h1 : zeroTo k x (i + 1) = false := by rw [hS.out, Hz.out, hz]; simp
          have H1 := hid h1
          clear h1
          rcases hk with hk2 | hk4
          · have d1 : (k == 2) = true := by simpa using hk2
            clear hk2 hkk
            go_wp2_with (first | (go_at_call 186; ((with_reducible refine (hati _ ?_).mono ?_); (focus (first | (with_reducible assumption) | (with_reducible refine FS.ext ?_ _ _; with_reducible assumption) | (with_reducible refine IS.ext ?_ _ _; with_reducible assumption) | (refine hDu _ ?_; with_reducible assumption) | (refine hOu _ ?_; with_reducible assumption) | (refine hDa _ ?_; with_reducible assumption) | (refine hDb _ ?_; with_reducible assumption) | (refine hDc _ ?_; with_reducible assumption) | (refine hDd _ ?_; with_reducible assumption) | (refine FW.fs ?_ (by omega) _; with_reducible assumption) | (refine WS.fs ?_; with_reducible assumption) | (refine FW.fs ?_ (by omega) _; assumption) | omega | assumption)); rintro e w1 ⟨b, rfl, hf, o3, n3, rfl⟩; (have hz' : (FloatKind.f64.format.order b 0 == some Ordering.eq) = false := by rw [← hz]; unfold feq0; rw [← hf.order isF_zero]; rfl))))
            go_roundw
            case rel => exact ⟨i + 1, _, _, by have := hlt'.out; omega, by go_num, rfl, H1.out⟩
            case measure => (have := hlt'.out; simp [intOf]; omega)
          · have d1 : (k == 2) = false := by rw [beq_eq_false_iff_ne]; omega
            have d2 : (k == 4) = true := by simpa using hk4
            clear hk4 hkk
            go_wp2_with (first | (go_at_call 186; ((with_reducible refine (hati _ ?_).mono ?_); (focus (first | (with_reducible assumption) | (with_reducible refine FS.ext ?_ _ _; with_reducible assumption) | (with_reducible refine IS.ext ?_ _ _; with_reducible assumption) | (refine hDu _ ?_; with_reducible assumption) | (refine hOu _ ?_; with_reducible assumption) | (refine hDa _ ?_; with_reducible assumption) | (refine hDb _ ?_; with_reducible assumption) | (refine hDc _ ?_; with_reducible assumption) | (refine hDd _ ?_; with_reducible assumption) | (refine FW.fs ?_ (by omega) _; with_reducible assumption) | (refine WS.fs ?_; with_reducible assumption) | (refine FW.fs ?_ (by omega) _; assumption) | omega | assumption)); rintro e w1 ⟨b, rfl, hf, o3, n3, rfl⟩; (have hz' : (FloatKind.f64.format.order b 0 == some Ordering.eq) = false := by rw [← hz]; unfold feq0; rw [← hf.order isF_zero]; rfl))))
            go_roundw
            case rel => exact ⟨i + 1, _, _, by have := hlt'.out; omega, by go_num, rfl, H1.out⟩
            case measure => (have := hlt'.out; simp [intOf]; omega)
        · have h1 : zeroTo k x (i + 1) = true := by rw [hS.out, Hk.out, hz]; simp
          have q := hid (zeroTo_mono h1 (show i + 1 ≤ x.rows.toNat by omega))
          clear h1
          rcases hk with hk2 | hk4
          · have d1 : (k == 2) = true := by simpa using hk2
            clear hk2 hkk
            go_wp2_with (first | (go_at_call 186; ((with_reducible refine (hati _ ?_).mono ?_); (focus (first | (with_reducible assumption) | (with_reducible refine FS.ext ?_ _ _; with_reducible assumption) | (with_reducible refine IS.ext ?_ _ _; with_reducible assumption) | (refine hDu _ ?_; with_reducible assumption) | (refine hOu _ ?_; with_reducible assumption) | (refine hDa _ ?_; with_reducible assumption) | (refine hDb _ ?_; with_reducible assumption) | (refine hDc _ ?_; with_reducible assumption) | (refine hDd _ ?_; with_reducible assumption) | (refine FW.fs ?_ (by omega) _; with_reducible assumption) | (refine WS.fs ?_; with_reducible assumption) | (refine FW.fs ?_ (by omega) _; assumption) | omega | assumption)); rintro e w1 ⟨b, rfl, hf, o3, n3, rfl⟩; (have hz' : (FloatKind.f64.format.order b 0 == some Ordering.eq) = true := by rw [← hz]; unfold feq0; rw [← hf.order isF_zero]; rfl))))
            go_ret
            exact ⟨ret_bool q.out.symm, by (show Grew _ _; repeat (first | (with_reducible exact Grew.refl _) | (with_reducible assumption) | (with_reducible exact Grew.same_o) | (with_reducible exact Grew.app_o) | (with_reducible refine Grew.ext ?_ _ _) | (with_reducible refine Grew.alloc ?_ _) | ((with_reducible refine Grew.setCell ?_ ?_ _); rotate_left; (focus (dsimp only; first | omega | (simp only [size_ext, World.size_alloc, Array.size_append]; omega)))) | (with_reducible refine Grew.drewN ?_ _) | (with_reducible refine Grew.drew ?_)))⟩
          · have d1 : (k == 2) = false := by rw [beq_eq_false_iff_ne]; omega
            have d2 : (k == 4) = true := by simpa using hk4
            clear hk4 hkk
            go_wp2_with (first | (go_at_call 186; ((with_reducible refine (hati _ ?_).mono ?_); (focus (first | (with_reducible assumption) | (with_reducible refine FS.ext ?_ _ _; with_reducible assumption) | (with_reducible refine IS.ext ?_ _ _; with_reducible assumption) | (refine hDu _ ?_; with_reducible assumption) | (refine hOu _ ?_; with_reducible assumption) | (refine hDa _ ?_; with_reducible assumption) | (refine hDb _ ?_; with_reducible assumption) | (refine hDc _ ?_; with_reducible assumption) | (refine hDd _ ?_; with_reducible assumption) | (refine FW.fs ?_ (by omega) _; with_reducible assumption) | (refine WS.fs ?_; with_reducible assumption) | (refine FW.fs ?_ (by omega) _; assumption) | omega | assumption)); rintro e w1 ⟨b, rfl, hf, o3, n3, rfl⟩; (have hz' : (FloatKind.f64.format.order b 0 == some Ordering.eq) = true := by rw [← hz]; unfold feq0; rw [← hf.order isF_zero]; rfl))))
            go_ret
            exact ⟨ret_bool q.out.symm, by (show Grew _ _; repeat (first | (with_reducible exact Grew.refl _) | (with_reducible assumption) | (with_reducible exact Grew.same_o) | (with_reducible exact Grew.app_o) | (with_reducible refine Grew.ext ?_ _ _) | (with_reducible refine Grew.alloc ?_ _) | ((with_reducible refine Grew.setCell ?_ ?_ _); rotate_left; (focus (dsimp only; first | omega | (simp only [size_ext, World.size_alloc, Array.size_append]; omega)))) | (with_reducible refine Grew.drewN ?_ _) | (with_reducible refine Grew.drew ?_)))⟩
      · have q := hid (show zeroTo k x x.rows.toNat = false by rw [show x.rows.toNat = i by omega]; exact Hz.out)
        clear hk hkk
        go_wp2
        go_ret
        exact ⟨ret_bool q.out.symm, by (show Grew _ _; repeat (first | (with_reducible exact Grew.refl _) | (with_reducible assumption) | (with_reducible exact Grew.same_o) | (with_reducible exact Grew.app_o) | (with_reducible refine Grew.ext ?_ _ _) | (with_reducible refine Grew.alloc ?_ _) | ((with_reducible refine Grew.setCell ?_ ?_ _); rotate_left; (focus (dsimp only; first | omega | (simp only [size_ext, World.size_alloc, Array.size_append]; omega)))) | (with_reducible refine Grew.drewN ?_ _) | (with_reducible refine Grew.drew ?_)))⟩
  · have q := hid (show zeroTo k x x.rows.toNat = false by unfold zeroTo; rw [show (decide (k = 2) || decide (k = 4)) = false by simpa using hk]; rfl)
    have d1 : (k == 2) = false := by rw [beq_eq_false_iff_ne]; omega
    have d2 : (k == 4) = false := by rw [beq_eq_false_iff_ne]; omega
    clear hk hat
    go_enter Try.func153, Try.ntmps153
    refine seq_stop ?_
    go_wp2
    refine stop_go (fun W hW => ?_)
    have s1 : w.heap.size < W.heap.size := by rw [hW]; simp only [World.size_alloc]; omega
    have b1 : ∀ i, W.cell? ⟨w.heap.size, i, none⟩ = (#[D, .int .i64 x.off, .int .i64 x.rows, .int .i64 x.cols, .int .i64 x.ld] : Array Value)[i]? := by intro i; rw [hW]; go_simp
    have g0 : Grew w W := by rw [hW]; exact (Grew.refl _).alloc _
    clear hW
    go_wp2
    go_loopw [8] (fun c wr => ∃ (i : Nat) (o : Array Obj) (n : Nat), (i : Int) ≤ x.rows ∧ c = .int .i64 i ∧ wr = ext W o n) (fun c _ => x.rows.toNat - (intOf c).toNat)
    case atStart => exact ⟨0, #[], _, hn.1, rfl, ext_zero.symm⟩
    case round =>
      obtain ⟨i, o2, n2, hi, rfl, hwr⟩ := hrel
      subst hwr
      by_cases hlt : (i : Int) < x.rows
      · go_wp2
        go_roundw
        case rel => exact ⟨i + 1, _, _, by omega, by go_num, rfl⟩
        case measure => simp [intOf]; omega
      · go_wp2
        go_ret
        exact ⟨ret_bool q.out.symm, by (show Grew _ _; repeat (first | (with_reducible exact Grew.refl _) | (with_reducible assumption) | (with_reducible exact Grew.same_o) | (with_reducible exact Grew.app_o) | (with_reducible refine Grew.ext ?_ _ _) | (with_reducible refine Grew.alloc ?_ _) | ((with_reducible refine Grew.setCell ?_ ?_ _); rotate_left; (focus (dsimp only; first | omega | (simp only [size_ext, World.size_alloc, Array.size_append]; omega)))) | (with_reducible refine Grew.drewN ?_ _) | (with_reducible refine Grew.drew ?_)))⟩
end Go.Proofs.Ytcmggfpcbijcjaa
end
