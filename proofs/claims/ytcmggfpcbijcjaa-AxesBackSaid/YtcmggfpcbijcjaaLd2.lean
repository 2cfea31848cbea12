/-
  Contract: math.Ldexp.
-/
import Derived.Test.YtcmggfpcbijcjaaLd
set_option linter.unusedSimpArgs false
set_option linter.unusedVariables false
open Go Go.RowKit Sedge Ieee
namespace Go.Proofs.Ytcmggfpcbijcjaa
/-- x times 2^k. -/
def ldF (x : Nat) (k : Int) : Nat := if pKind x = 0 ∧ pMag x ≠ 0 then D64.nearest (pNeg x) (pMag x) (pExp x + k) else x
theorem isF_word_eq {r : Nat} {s : Bool} {n : Nat} (hn : n ≤ IR) (h : IsF r (D64.word s n)) : r = D64.word s n := by
  have h2 := h.2
  have : isNan r = false := by rw [← isNan_canon, h2]; exact read_word_notnan s n hn
  rw [canon_not this] at h2
  exact h2
theorem isF_of_kind {b x : Nat} (h : IsF b x) (hk : pKind b ≠ 2) : b = x := by
  have : isNan b = false := by rw [isNan_kind b h.1]; simpa using hk
  rw [← h.2, canon_not this]
theorem order_none (b c : Nat) (hb : b < 2 ^ 64) (hk : pKind b = 2) : D64.order b c = none := by
  unfold Format.order
  refine order_nan_left ?_
  rw [read_eq b hb, if_neg (by omega), if_neg (by omega)]; rfl
theorem order_inf0 (b : Nat) (hb : b < 2 ^ 64) (hk : pKind b = 1) : (D64.order b 0 == some .eq) = false := by
  unfold Format.order
  rw [read_eq b hb, if_neg (by omega), if_pos hk, read_zero]
  cases pNeg b <;> rfl
theorem nearest_isF (s : Bool) (m : Nat) (e : Int) : IsF (D64.nearest s m e) (D64.nearest s m e) := by
  have hn := nearest_notnan s m e
  refine ⟨?_, canon_not hn⟩
  by_cases hm : m = 0
  · have : D64.nearest s m e = D64.word s 0 := by unfold Format.nearest; rw [if_pos (by simpa using hm)]
    rw [this]; exact (isF_word s 0 (Nat.zero_le _)).1
  · rw [nearest_eq s m e hm]; exact (isF_word s _ (Nat.min_le_right _ _)).1
theorem or_word (s : Bool) (X' f G : Nat) (hG : G = 2 ^ 63 * sN s + f) (hX : X' < 2048) (hf : f < BN) : bits .or .u64 (G : Int) ((X' * 4503599627370496 : Nat) : Int) = ((D64.word s (X' * BN + f) : Nat) : Int) := by
  have hf' : f < 4503599627370496 := hf
  have p52 : (2:Nat) ^ 52 = 4503599627370496 := by decide
  have hl := lay_in (sN s) X' f (sN_or s) hX (by rw [p52]; exact hf')
  rw [p52, ← hG] at hl
  have hG2 : G < 18446744073709551616 := by
    have p63 : (2:Nat) ^ 63 = 9223372036854775808 := by decide
    rw [p63] at hG
    rcases sN_or s with h | h <;> rw [h] at hG <;> omega
  rw [u64_or_nat G _ hG2 (by omega), hl, word_sN, show BN = 4503599627370496 from by decide +kernel]
theorem mid_le (X f : Nat) (h : X ≤ 2046) (hf : f < BN) : X * BN + f ≤ IR := by
  have hI : IR = 9218868437227405312 := by decide +kernel
  rw [hI]
  unfold BN at *
  omega
set_option maxRecDepth 100000 in
set_option maxHeartbeats 1000000 in
theorem ldexp_back (b : Nat) (k : Int) (w : World) (hb : b < 2 ^ 64) (h : pKind b = 1 ∨ pKind b = 2 ∨ (pKind b = 0 ∧ pMag b = 0)) : Calls Try.prog 215 #[.float .f64 b, .int .i64 k] w (fun e w' => e = .returned (.float .f64 b) ∧ w = w') := by
  rcases h with h | h | h
  · have d1 : (FloatKind.f64.format.order b 0 == some Ordering.eq) = false := order_inf0 b hb h
    have d2 : decide (pKind b = 1) = true := by simpa using h
    clear h
    go_enter Try.func215, Try.ntmps215
    go_wp2_with (first | (go_at_call 216; ((with_reducible refine (isinf_any b _ hb).mono ?_); rintro e w1 ⟨rfl, rfl⟩)) | (go_at_call 223; ((with_reducible refine (isnan_any b _ hb).mono ?_); rintro e w1 ⟨rfl, rfl⟩)))
    go_ret
    exact ⟨rfl, rfl⟩
  · have d1 : (FloatKind.f64.format.order b 0 == some Ordering.eq) = false := by
      show (D64.order b 0 == some Ordering.eq) = false
      rw [order_none b 0 hb h]; rfl
    have d2 : decide (pKind b = 1) = false := by rw [h]; decide
    have d3 : decide (pKind b = 2) = true := by rw [h]; decide
    clear h
    go_enter Try.func215, Try.ntmps215
    go_wp2_with (first | (go_at_call 216; ((with_reducible refine (isinf_any b _ hb).mono ?_); rintro e w1 ⟨rfl, rfl⟩)) | (go_at_call 223; ((with_reducible refine (isnan_any b _ hb).mono ?_); rintro e w1 ⟨rfl, rfl⟩)))
    go_ret
    exact ⟨rfl, rfl⟩
  · have d1 : (FloatKind.f64.format.order b 0 == some Ordering.eq) = true := by
      show (D64.order b 0 == some Ordering.eq) = true
      rw [ord_zero_eq b hb h.1, h.2]; decide
    clear h
    go_enter Try.func215, Try.ntmps215
    go_wp2
    go_ret
    exact ⟨rfl, rfl⟩
set_option maxRecDepth 100000 in
set_option maxHeartbeats 2000000 in
/-- Of a finite number that isn't 0. -/
theorem ldexp_num (b : Nat) (k : Int) (w : World) (hb : b < 2 ^ 64) (hk : -5000 ≤ k ∧ k ≤ 5000) (h0 : pKind b = 0) (hm : pMag b ≠ 0) :
    Calls Try.prog 215 #[.float .f64 b, .int .i64 k] w (fun e w' => ∃ r, e = .returned (.float .f64 r) ∧ IsF r (D64.nearest (pNeg b) (pMag b) (pExp b + k)) ∧ ∃ o n, w' = ext w o n) := by
  have hI : IR = 9218868437227405312 := by decide +kernel
  obtain ⟨X, f, hX1, hX2, hf, hY, hN⟩ : ∃ X f, 1 ≤ X ∧ X ≤ 2046 ∧ f < BN ∧ nrmF b = D64.word (pNeg b) (X * BN + f) ∧ ∀ k : Int, D64.nearest (pNeg b) (pMag b) (pExp b + k) = D64.nearest (pNeg b) (BN + f) (k + nrmE b + X - 1023 - 52) := by
    by_cases he : expo b = 0
    · obtain ⟨X, f, q1, q2, q3, q4, q5⟩ := normal_sub hb h0 hm he
      exact ⟨X, f, q1, q2, q3, by unfold nrmF; rw [if_pos he, q4], fun k => by unfold nrmE; rw [if_pos he, q5 k]; congr 1⟩
    · obtain ⟨X, f, q1, q2, q3, q4, q5⟩ := normal_of hb h0 hm he
      exact ⟨X, f, q1, q2, q3, by unfold nrmF; rw [if_neg he, ← q4], fun k => by unfold nrmE; rw [if_neg he, q5 k]; congr 1; omega⟩
  rw [hN k]
  have hnE : nrmE b = 0 ∨ nrmE b = -52 := by unfold nrmE; split <;> simp
  obtain ⟨E, hE⟩ : ∃ E, E = nrmE b := ⟨_, rfl⟩
  obtain ⟨s, hs⟩ : ∃ s, s = pNeg b := ⟨_, rfl⟩
  obtain ⟨Y, hYY⟩ : ∃ Y, Y = D64.word s (X * BN + f) := ⟨_, rfl⟩
  have hYf : X * BN + f ≤ IR := by rw [hI]; unfold BN at *; omega
  have hYlt : Y < 2 ^ 64 := by rw [hYY]; exact (isF_word s _ hYf).1
  have hnorm : ∀ w', Calls Try.prog 224 #[.float .f64 b] w' (fun e w2 => e = .returned (.tuple #[.float .f64 Y, .int .i64 E]) ∧ ∃ o n, w2 = ext w' o n) := fun w' => by
    refine (normalize_any b w' hb h0).mono fun e w2 hh => ?_
    obtain ⟨r, rfl, h1, h2⟩ := hh
    rw [hY, ← hs] at h1
    rw [isF_word_eq hYf h1, ← hYY, ← hE]
    exact ⟨rfl, h2⟩
  rw [← hE] at hnE ⊢
  rw [← hs]
  have d1 : (FloatKind.f64.format.order b 0 == some Ordering.eq) = false := by
    show (D64.order b 0 == some Ordering.eq) = false
    rw [ord_zero_eq b hb h0]; simpa using hm
  have d2 : decide (pKind b = 1) = false := by rw [h0]; decide
  have d3 : decide (pKind b = 2) = false := by rw [h0]; decide
  have hB := hid hb
  clear hY hN hE hs h0 hm
  have Hb := hid hYY
  have hYlt' : Y < 18446744073709551616 := hYlt
  have hexp : (Y : Int) / 4503599627370496 % 2048 = X := by
    rw [hYY, word_sN]
    have p63 : (2:Nat) ^ 63 = 9223372036854775808 := by decide
    unfold BN at *
    rcases sN_or s with h | h <;> rw [h] <;> omega
  have hsh := i64_and2047 ((Y : Int) / 4503599627370496)
  rw [hexp] at hsh
  obtain ⟨T, hT⟩ : ∃ T : Int, T = k + E + X - 1023 := ⟨_, rfl⟩
  have r1 : IntKind.i64.wrap ((X : Int) - 1023) = X - 1023 := IntWalk.i64_in _ (by omega)
  have r2 : IntKind.i64.wrap (k + E) = k + E := IntWalk.i64_in _ (by omega)
  have r3 : IntKind.i64.wrap (k + E + ((X : Int) - 1023)) = T := by rw [IntWalk.i64_in _ (by omega)]; omega
  have hpY : pNeg Y = s := by
    have hs : SW = 2 ^ 63 := by decide +kernel
    rw [hYY, word_sN]
    unfold pNeg
    rw [hs]
    have p63 : (2:Nat) ^ 63 = 9223372036854775808 := by decide
    have : (2 ^ 63 * sN s + (X * BN + f)) / 2 ^ 63 = sN s := by
      unfold BN at *
      rcases sN_or s with h | h <;> rw [h] <;> omega
    rw [this]
    cases s <;> decide
  have hkY : pKind Y = 0 ∧ pMag Y ≠ 0 := by
    have hr := read_mid s X f hX1 hX2 hf
    rw [← hYY, read_eq Y hYlt] at hr
    by_cases h : pKind Y = 0
    · rw [if_pos h] at hr
      simp only [Datum.number.injEq] at hr
      exact ⟨h, by rw [hr.2.1]; unfold BN; omega⟩
    · rw [if_neg h] at hr
      split at hr <;> cases hr
  have hlt : (FloatKind.f64.format.order Y 0 == some Ordering.lt) = s := by
    show (D64.order Y 0 == some Ordering.lt) = s
    rw [ord_zero_lt Y hYlt hkY.1 hkY.2, hpY]
  have hTT : k + E + (X : Int) - 1023 - 52 = T - 52 := by omega
  rw [hTT]
  have hcs : ∀ w', Calls Try.prog 225 #[.float .f64 0, .float .f64 Y] w' (fun e w2 => e = .returned (.float .f64 (D64.word s 0)) ∧ w' = w2) := fun w' => by
    have := copysign_any Y w' hYlt; rw [hpY] at this; exact this
  have hin1 : ∀ w', Calls Try.prog 226 #[.int .i64 (-1)] w' (fun e w2 => e = .returned (.float .f64 (D64.word true IR)) ∧ w' = w2) := fun w' => inf_any true w'
  have hin2 : ∀ w', Calls Try.prog 226 #[.int .i64 1] w' (fun e w2 => e = .returned (.float .f64 (D64.word false IR)) ∧ w' = w2) := fun w' => inf_any false w'
  have a1 : bits .andNot .u64 (Y : Int) 9218868437227405312 = ((2 ^ 63 * sN s + f : Nat) : Int) := by
    rw [show bits .andNot .u64 (Y : Int) 9218868437227405312 = ((Y &&& (18446744073709551615 - 9218868437227405312) : Nat) : Int) from u64_andNot_nat Y 9218868437227405312 hYlt' (by decide)]
    rw [hYY, word_sN, show 18446744073709551615 - 9218868437227405312 = 9227875636482146303 by decide]
    exact congrArg _ (strike (sN s) X f (sN_or s) (by omega) hf)
  obtain ⟨G, hG⟩ : ∃ G : Nat, G = 2 ^ 63 * sN s + f := ⟨_, rfl⟩
  rw [← hG] at a1
  have hor : ∀ X' : Nat, 1 ≤ X' → X' ≤ 2046 → bits .or .u64 (G : Int) ((X' * 4503599627370496 : Nat) : Int) = ((D64.word s (X' * BN + f) : Nat) : Int) := fun X' _ q2 => or_word s X' f G hG (Nat.lt_of_le_of_lt q2 (by decide)) hf
  have hZ : ∀ X' : Nat, 1 ≤ X' → X' ≤ 2046 → IsF (D64.word s (X' * BN + f)) (D64.word s (X' * BN + f)) := fun X' _ q2 => isF_word s _ (mid_le X' f q2 hf)
  have hc1 : IsF 4607182418800017408 4607182418800017408 := by decide +kernel
  have hc2 : IsF 4368491638549381120 4368491638549381120 := by decide +kernel
  have HT := hid hT
  clear hYY hpY hkY hG hT hTT hexp
  by_cases c1 : T < -1075
  · have b1 : decide (T < -1075) = true := by simpa using c1
    have q := hid (ld_low s f T hf c1)
    have Q := hid (isF_word s 0 (Nat.zero_le _))
    go_enter Try.func215, Try.ntmps215
    go_wp2_with (first | (go_at_call 216; ((with_reducible refine (isinf_any b _ hB.out).mono ?_); rintro e w1 ⟨rfl, rfl⟩)) | (go_at_call 223; ((with_reducible refine (isnan_any b _ hB.out).mono ?_); rintro e w1 ⟨rfl, rfl⟩)) | (go_at_call 224; ((with_reducible refine (hnorm _).mono ?_); rintro e w1 ⟨rfl, o1, n1, rfl⟩)) | (go_at_call 225; ((with_reducible refine (hcs _).mono ?_); rintro e w1 ⟨rfl, rfl⟩)) | (go_at_call 226; ((with_reducible refine (hin1 _).mono ?_); rintro e w1 ⟨rfl, rfl⟩)) | (go_at_call 226; ((with_reducible refine (hin2 _).mono ?_); rintro e w1 ⟨rfl, rfl⟩)) | ((with_reducible refine upon_id ?_); refine upon_fop rfl (by assumption) (by assumption) ?_; intro rr nn hr))
    go_ret
    exact ⟨_, rfl, by rw [q.out]; exact Q.out, by (show Grew _ _; repeat (first | (with_reducible exact Grew.refl _) | (with_reducible assumption) | (with_reducible refine Grew.ext ?_ _ _) | (with_reducible refine Grew.alloc ?_ _) | ((with_reducible refine Grew.setCell ?_ ?_ _); rotate_left; (focus (dsimp only; first | omega | (simp only [size_ext, World.size_alloc, Array.size_append]; omega)))) | (with_reducible refine Grew.drewN ?_ _) | (with_reducible refine Grew.drew ?_)))⟩
  · have b1 : decide (T < -1075) = false := by simpa using c1
    by_cases c2 : 1023 < T
    · have b2 : decide (1023 < T) = true := by simpa using c2
      have q := hid (ld_high s f T hf c2)
      have Q := hid (isF_word s IR (Nat.le_refl _))
      cases s
      · go_enter Try.func215, Try.ntmps215
        go_wp2_with (first | (go_at_call 216; ((with_reducible refine (isinf_any b _ hB.out).mono ?_); rintro e w1 ⟨rfl, rfl⟩)) | (go_at_call 223; ((with_reducible refine (isnan_any b _ hB.out).mono ?_); rintro e w1 ⟨rfl, rfl⟩)) | (go_at_call 224; ((with_reducible refine (hnorm _).mono ?_); rintro e w1 ⟨rfl, o1, n1, rfl⟩)) | (go_at_call 225; ((with_reducible refine (hcs _).mono ?_); rintro e w1 ⟨rfl, rfl⟩)) | (go_at_call 226; ((with_reducible refine (hin1 _).mono ?_); rintro e w1 ⟨rfl, rfl⟩)) | (go_at_call 226; ((with_reducible refine (hin2 _).mono ?_); rintro e w1 ⟨rfl, rfl⟩)) | ((with_reducible refine upon_id ?_); refine upon_fop rfl (by assumption) (by assumption) ?_; intro rr nn hr))
        go_ret
        exact ⟨_, rfl, by rw [q.out]; exact Q.out, by (show Grew _ _; repeat (first | (with_reducible exact Grew.refl _) | (with_reducible assumption) | (with_reducible refine Grew.ext ?_ _ _) | (with_reducible refine Grew.alloc ?_ _) | ((with_reducible refine Grew.setCell ?_ ?_ _); rotate_left; (focus (dsimp only; first | omega | (simp only [size_ext, World.size_alloc, Array.size_append]; omega)))) | (with_reducible refine Grew.drewN ?_ _) | (with_reducible refine Grew.drew ?_)))⟩
      · go_enter Try.func215, Try.ntmps215
        go_wp2_with (first | (go_at_call 216; ((with_reducible refine (isinf_any b _ hB.out).mono ?_); rintro e w1 ⟨rfl, rfl⟩)) | (go_at_call 223; ((with_reducible refine (isnan_any b _ hB.out).mono ?_); rintro e w1 ⟨rfl, rfl⟩)) | (go_at_call 224; ((with_reducible refine (hnorm _).mono ?_); rintro e w1 ⟨rfl, o1, n1, rfl⟩)) | (go_at_call 225; ((with_reducible refine (hcs _).mono ?_); rintro e w1 ⟨rfl, rfl⟩)) | (go_at_call 226; ((with_reducible refine (hin1 _).mono ?_); rintro e w1 ⟨rfl, rfl⟩)) | (go_at_call 226; ((with_reducible refine (hin2 _).mono ?_); rintro e w1 ⟨rfl, rfl⟩)) | ((with_reducible refine upon_id ?_); refine upon_fop rfl (by assumption) (by assumption) ?_; intro rr nn hr))
        go_ret
        exact ⟨_, rfl, by rw [q.out]; exact Q.out, by (show Grew _ _; repeat (first | (with_reducible exact Grew.refl _) | (with_reducible assumption) | (with_reducible refine Grew.ext ?_ _ _) | (with_reducible refine Grew.alloc ?_ _) | ((with_reducible refine Grew.setCell ?_ ?_ _); rotate_left; (focus (dsimp only; first | omega | (simp only [size_ext, World.size_alloc, Array.size_append]; omega)))) | (with_reducible refine Grew.drewN ?_ _) | (with_reducible refine Grew.drew ?_)))⟩
    · have b2 : decide (1023 < T) = false := by simpa using c2
      by_cases c3 : T < -1022
      · have b3 : decide (T < -1022) = true := by simpa using c3
        obtain ⟨X', hX'⟩ : ∃ X' : Nat, (X' : Int) = T + 53 + 1023 := ⟨(T + 53 + 1023).toNat, by omega⟩
        have q := hid (ld_end2 s X' f T (by omega) (by omega) hf hX')
        have r4 : IntKind.i64.wrap (T + 53) = T + 53 := IntWalk.i64_in _ (by omega)
        have r5 : IntKind.i64.wrap (T + 53 + 1023) = T + 53 + 1023 := IntWalk.i64_in _ (by omega)
        have q := ld_end2 s X' f T (by omega) (by omega) hf hX'
        have r6 : IntKind.u64.wrap (T + 53 + 1023) = (T + 53 + 1023) := IntWalk.u64_in _ (by omega)
        have r7 : IntKind.u64.wrap ((T + 53 + 1023) * 4503599627370496) = (T + 53 + 1023) * 4503599627370496 := IntWalk.u64_in _ (by omega)
        obtain ⟨Z, hZZ⟩ : ∃ Z, Z = D64.word s (X' * BN + f) := ⟨_, rfl⟩
        have ho : bits .or .u64 (G : Int) ((T + 53 + 1023) * 4503599627370496) = (Z : Int) := by
          have := hor X' (by omega) (by omega)
          rw [show ((X' * 4503599627370496 : Nat) : Int) = (T + 53 + 1023) * 4503599627370496 by omega, ← hZZ] at this; exact this
        have hz : IsF Z Z := by have := hZ X' (by omega) (by omega); rwa [← hZZ] at this
        rw [← hZZ] at q
        have Q := hid q
        have X2 := hid hX'
        clear hor hZ q hZZ hX'
        go_enter Try.func215, Try.ntmps215
        go_wp2_with (first | (go_at_call 216; ((with_reducible refine (isinf_any b _ hB.out).mono ?_); rintro e w1 ⟨rfl, rfl⟩)) | (go_at_call 223; ((with_reducible refine (isnan_any b _ hB.out).mono ?_); rintro e w1 ⟨rfl, rfl⟩)) | (go_at_call 224; ((with_reducible refine (hnorm _).mono ?_); rintro e w1 ⟨rfl, o1, n1, rfl⟩)) | (go_at_call 225; ((with_reducible refine (hcs _).mono ?_); rintro e w1 ⟨rfl, rfl⟩)) | (go_at_call 226; ((with_reducible refine (hin1 _).mono ?_); rintro e w1 ⟨rfl, rfl⟩)) | (go_at_call 226; ((with_reducible refine (hin2 _).mono ?_); rintro e w1 ⟨rfl, rfl⟩)) | ((with_reducible refine upon_id ?_); refine upon_fop rfl (by assumption) (by assumption) ?_; intro rr nn hr))
        go_ret
        exact ⟨_, rfl, by rw [← Q.out]; exact hr, by (show Grew _ _; repeat (first | (with_reducible exact Grew.refl _) | (with_reducible assumption) | (with_reducible refine Grew.ext ?_ _ _) | (with_reducible refine Grew.alloc ?_ _) | ((with_reducible refine Grew.setCell ?_ ?_ _); rotate_left; (focus (dsimp only; first | omega | (simp only [size_ext, World.size_alloc, Array.size_append]; omega)))) | (with_reducible refine Grew.drewN ?_ _) | (with_reducible refine Grew.drew ?_)))⟩
      · have b3 : decide (T < -1022) = false := by simpa using c3
        obtain ⟨X', hX'⟩ : ∃ X' : Nat, (X' : Int) = T + 1023 := ⟨(T + 1023).toNat, by omega⟩
        have r5 : IntKind.i64.wrap (T + 1023) = T + 1023 := IntWalk.i64_in _ (by omega)
        have q := ld_end1 s X' f T (by omega) (by omega) hf hX'
        have r6 : IntKind.u64.wrap (T + 1023) = (T + 1023) := IntWalk.u64_in _ (by omega)
        have r7 : IntKind.u64.wrap ((T + 1023) * 4503599627370496) = (T + 1023) * 4503599627370496 := IntWalk.u64_in _ (by omega)
        obtain ⟨Z, hZZ⟩ : ∃ Z, Z = D64.word s (X' * BN + f) := ⟨_, rfl⟩
        have ho : bits .or .u64 (G : Int) ((T + 1023) * 4503599627370496) = (Z : Int) := by
          have := hor X' (by omega) (by omega)
          rw [show ((X' * 4503599627370496 : Nat) : Int) = (T + 1023) * 4503599627370496 by omega, ← hZZ] at this; exact this
        have hz : IsF Z Z := by have := hZ X' (by omega) (by omega); rwa [← hZZ] at this
        rw [← hZZ] at q
        have Q := hid q
        have X2 := hid hX'
        clear hor hZ q hZZ hX'
        go_enter Try.func215, Try.ntmps215
        go_wp2_with (first | (go_at_call 216; ((with_reducible refine (isinf_any b _ hB.out).mono ?_); rintro e w1 ⟨rfl, rfl⟩)) | (go_at_call 223; ((with_reducible refine (isnan_any b _ hB.out).mono ?_); rintro e w1 ⟨rfl, rfl⟩)) | (go_at_call 224; ((with_reducible refine (hnorm _).mono ?_); rintro e w1 ⟨rfl, o1, n1, rfl⟩)) | (go_at_call 225; ((with_reducible refine (hcs _).mono ?_); rintro e w1 ⟨rfl, rfl⟩)) | (go_at_call 226; ((with_reducible refine (hin1 _).mono ?_); rintro e w1 ⟨rfl, rfl⟩)) | (go_at_call 226; ((with_reducible refine (hin2 _).mono ?_); rintro e w1 ⟨rfl, rfl⟩)) | ((with_reducible refine upon_id ?_); refine upon_fop rfl (by assumption) (by assumption) ?_; intro rr nn hr))
        go_ret
        exact ⟨_, rfl, by rw [← Q.out]; exact hr, by (show Grew _ _; repeat (first | (with_reducible exact Grew.refl _) | (with_reducible assumption) | (with_reducible refine Grew.ext ?_ _ _) | (with_reducible refine Grew.alloc ?_ _) | ((with_reducible refine Grew.setCell ?_ ?_ _); rotate_left; (focus (dsimp only; first | omega | (simp only [size_ext, World.size_alloc, Array.size_append]; omega)))) | (with_reducible refine Grew.drewN ?_ _) | (with_reducible refine Grew.drew ?_)))⟩
/-- math.Ldexp. -/
theorem ldexp_any (b x : Nat) (k : Int) (w : World) (hx : IsF b x) (hk : -5000 ≤ k ∧ k ≤ 5000) : Calls Try.prog 215 #[.float .f64 b, .int .i64 k] w (fun e w' => ∃ r, e = .returned (.float .f64 r) ∧ IsF r (ldF x k) ∧ ∃ o n, w' = ext w o n) := by
  by_cases h : pKind b = 0 ∧ pMag b ≠ 0
  · have e := isF_of_kind hx (by omega)
    subst e
    have e2 : ldF b k = D64.nearest (pNeg b) (pMag b) (pExp b + k) := by unfold ldF; rw [if_pos h]
    rw [e2]
    exact ldexp_num b k w hx.1 hk h.1 h.2
  · have hk3 := kind_le b
    have e2 : ldF x k = x := by
      unfold ldF
      rw [if_neg]
      intro h2
      rw [← hx.kind] at h2
      have e := isF_of_kind hx (by omega)
      subst e
      exact h h2
    rw [e2]
    refine (ldexp_back b k w hx.1 ?_).mono fun e w' hh => ⟨b, hh.1, hx, #[], w.drawn, by rw [← hh.2]; exact ext_zero.symm⟩
    by_cases h0 : pKind b = 0
    · exact .inr (.inr ⟨h0, Decidable.not_not.1 fun hm => h ⟨h0, hm⟩⟩)
    · rcases hk3 with h3 | h3 | h3
      · exact absurd h3 h0
      · exact .inl h3
      · exact .inr (.inl h3)
/-- math.Ldexp, as it is called. -/
theorem mldexp_any (b x : Nat) (k : Int) (w : World) (hx : IsF b x) (hk : -5000 ≤ k ∧ k ≤ 5000) : Calls Try.prog 197 #[.float .f64 b, .int .i64 k] w (fun e w' => ∃ r, e = .returned (.float .f64 r) ∧ IsF r (ldF x k) ∧ ∃ o n, w' = ext w o n) := by
  go_enter Try.func197, Try.ntmps197
  go_wp2_with (first | (go_at_call 215; ((with_reducible refine (ldexp_any b x k _ hx hk).mono ?_); rintro e w1 ⟨r, rfl, hr, o1, n1, rfl⟩)))
  go_ret
  exact ⟨r, rfl, hr, _, _, rfl⟩
/-- num.Scale. -/
theorem nscale_any (b x : Nat) (k : Int) (w : World) (hx : IsF b x) : Calls Try.prog 162 #[.float .f64 b, .int .i64 k] w (fun e w' => ∃ r, e = .returned (.float .f64 r) ∧ IsF r (fscale x k) ∧ ∃ o n, w' = ext w o n) := by
  have e : fscale x k = ldF x (kcl k) := rfl
  rw [e]
  by_cases c1 : k < -5000
  · have e2 : kcl k = -5000 := by unfold kcl; omega
    have hk : (-5000 : Int) ≤ -5000 ∧ (-5000 : Int) ≤ 5000 := by decide
    rw [e2]
    go_enter Try.func162, Try.ntmps162
    go_wp2_with (first | (go_at_call 197; ((with_reducible refine (mldexp_any b x (-5000) _ hx hk).mono ?_); rintro e w1 ⟨r, rfl, hr, o1, n1, rfl⟩)))
    go_ret
    exact ⟨r, rfl, hr, _, _, rfl⟩
  · by_cases c2 : 5000 < k
    · have e2 : kcl k = 5000 := by unfold kcl; omega
      have hk : (-5000 : Int) ≤ 5000 ∧ (5000 : Int) ≤ 5000 := by decide
      rw [e2]
      go_enter Try.func162, Try.ntmps162
      go_wp2_with (first | (go_at_call 197; ((with_reducible refine (mldexp_any b x 5000 _ hx hk).mono ?_); rintro e w1 ⟨r, rfl, hr, o1, n1, rfl⟩)))
      go_ret
      exact ⟨r, rfl, hr, _, _, rfl⟩
    · have e2 : kcl k = k := by unfold kcl; omega
      have hk : -5000 ≤ k ∧ k ≤ 5000 := by omega
      rw [e2]
      go_enter Try.func162, Try.ntmps162
      go_wp2_with (first | (go_at_call 197; ((with_reducible refine (mldexp_any b x k _ hx hk).mono ?_); rintro e w1 ⟨r, rfl, hr, o1, n1, rfl⟩)))
      go_ret
      exact ⟨r, rfl, hr, _, _, rfl⟩
end Go.Proofs.Ytcmggfpcbijcjaa
