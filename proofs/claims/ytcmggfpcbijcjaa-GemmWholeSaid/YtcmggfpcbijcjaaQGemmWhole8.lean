/-
  Texts laid one behind the other (a claim has at most 60 files): Ld2, Exp1, Exp2, Ger3, OwnB, Equil1, Cpy, Clone.
-/
import Derived.Laws.CopyOwn
import Derived.Deep.CutBlock
import Derived.Deep.DeepCutAuto
import Derived.Test.YtcmggfpcbijcjaaQGemmWhole1
import Derived.Test.YtcmggfpcbijcjaaQGemmWhole2
import Derived.Test.YtcmggfpcbijcjaaQGemmWhole3
import Derived.Test.YtcmggfpcbijcjaaQGemmWhole4
import Derived.Test.YtcmggfpcbijcjaaQGemmWhole5
import Derived.Test.YtcmggfpcbijcjaaQGemmWhole6
import Derived.Test.YtcmggfpcbijcjaaQGemmWhole7
section
/-
  Contract: math.Ldexp.
-/
set_option linter.unusedSimpArgs false
set_option linter.unusedVariables false
open Go Go.RowKit Sedge Ieee
namespace Go.Proofs.Ytcmggfpcbijcjaa
/-- x times 2^k. -/
def ldF (x : Nat) (k : Int) : Nat := if pKind x = 0 ∧ pMag x ≠ 0 then D64.nearest (pNeg x) (pMag x) (pExp x + k) else x
theorem isF_word_eq {r : Nat} {s : Bool} {n : Nat} (hn : n ≤ IR) (h : IsF r (D64.word s n)) : r = D64.word s n := by
  have h2 := h.2
  have : isNan r = false := by rw [← isNan_canon, h2]; exact read_word_notnan s n hn
  rw [canon_not this] at h2
  exact h2
theorem isF_of_kind {b x : Nat} (h : IsF b x) (hk : pKind b ≠ 2) : b = x := by
  have : isNan b = false := by rw [isNan_kind b h.1]; simpa using hk
  rw [← h.2, canon_not this]
theorem order_none (b c : Nat) (hb : b < 2 ^ 64) (hk : pKind b = 2) : D64.order b c = none := by
  unfold Format.order
  refine order_nan_left ?_
  rw [read_eq b hb, if_neg (by omega), if_neg (by omega)]; rfl
theorem order_inf0 (b : Nat) (hb : b < 2 ^ 64) (hk : pKind b = 1) : (D64.order b 0 == some .eq) = false := by
  unfold Format.order
  rw [read_eq b hb, if_neg (by omega), if_pos hk, read_zero]
  cases pNeg b <;> rfl
theorem nearest_isF (s : Bool) (m : Nat) (e : Int) : IsF (D64.nearest s m e) (D64.nearest s m e) := by
  have hn := nearest_notnan s m e
  refine ⟨?_, canon_not hn⟩
  by_cases hm : m = 0
  · have : D64.nearest s m e = D64.word s 0 := by unfold Format.nearest; rw [if_pos (by simpa using hm)]
    rw [this]; exact (isF_word s 0 (Nat.zero_le _)).1
  · rw [nearest_eq s m e hm]; exact (isF_word s _ (Nat.min_le_right _ _)).1
theorem or_word (s : Bool) (X' f G : Nat) (hG : G = 2 ^ 63 * sN s + f) (hX : X' < 2048) (hf : f < BN) : bits .or .u64 (G : Int) ((X' * 4503599627370496 : Nat) : Int) = ((D64.word s (X' * BN + f) : Nat) : Int) := by
  have hf' : f < 4503599627370496 := hf
  have p52 : (2:Nat) ^ 52 = 4503599627370496 := by decide
  have hl := lay_in (sN s) X' f (sN_or s) hX (by rw [p52]; exact hf')
  rw [p52, ← hG] at hl
  have hG2 : G < 18446744073709551616 := by
    have p63 : (2:Nat) ^ 63 = 9223372036854775808 := by decide
    rw [p63] at hG
    rcases sN_or s with h | h <;> rw [h] at hG <;> omega
  rw [u64_or_nat G _ hG2 (by omega), hl, word_sN, show BN = 4503599627370496 from by decide +kernel]
theorem mid_le (X f : Nat) (h : X ≤ 2046) (hf : f < BN) : X * BN + f ≤ IR := by
  have hI : IR = 9218868437227405312 := by decide +kernel
  rw [hI]
  unfold BN at *
  omega
set_option maxRecDepth 100000 in
set_option maxHeartbeats 1000000 in
theorem ldexp_back (b : Nat) (k : Int) (w : World) (hb : b < 2 ^ 64) (h : pKind b = 1 ∨ pKind b = 2 ∨ (pKind b = 0 ∧ pMag b = 0)) : Calls Try.prog 215 #[.float .f64 b, .int .i64 k] w (fun e w' => e = .returned (.float .f64 b) ∧ w = w') := by
  rcases h with h | h | h
  · have d1 : (FloatKind.f64.format.order b 0 == some Ordering.eq) = false := order_inf0 b hb h
    have d2 : decide (pKind b = 1) = true := by simpa using h
    clear h
    go_enter Try.func215, Try.ntmps215
    go_wp2_with (first | (go_at_call 216; ((with_reducible refine (isinf_any b _ hb).mono ?_); rintro e w1 ⟨rfl, rfl⟩)) | (go_at_call 223; ((with_reducible refine (isnan_any b _ hb).mono ?_); rintro e w1 ⟨rfl, rfl⟩)))
    go_ret
    exact ⟨rfl, rfl⟩
  · have d1 : (FloatKind.f64.format.order b 0 == some Ordering.eq) = false := by
      show (D64.order b 0 == some Ordering.eq) = false
      rw [order_none b 0 hb h]; rfl
    have d2 : decide (pKind b = 1) = false := by rw [h]; decide
    have d3 : decide (pKind b = 2) = true := by rw [h]; decide
    clear h
    go_enter Try.func215, Try.ntmps215
    go_wp2_with (first | (go_at_call 216; ((with_reducible refine (isinf_any b _ hb).mono ?_); rintro e w1 ⟨rfl, rfl⟩)) | (go_at_call 223; ((with_reducible refine (isnan_any b _ hb).mono ?_); rintro e w1 ⟨rfl, rfl⟩)))
    go_ret
    exact ⟨rfl, rfl⟩
  · have d1 : (FloatKind.f64.format.order b 0 == some Ordering.eq) = true := by
      show (D64.order b 0 == some Ordering.eq) = true
      rw [ord_zero_eq b hb h.1, h.2]; decide
    clear h
    go_enter Try.func215, Try.ntmps215
    go_wp2
    go_ret
    exact ⟨rfl, rfl⟩
set_option maxRecDepth 100000 in
set_option maxHeartbeats 2000000 in
/-- Of a finite number that isn't 0. -/
theorem ldexp_num (b : Nat) (k : Int) (w : World) (hb : b < 2 ^ 64) (hk : -5000 ≤ k ∧ k ≤ 5000) (h0 : pKind b = 0) (hm : pMag b ≠ 0) :
    Calls Try.prog 215 #[.float .f64 b, .int .i64 k] w (fun e w' => ∃ r, e = .returned (.float .f64 r) ∧ IsF r (D64.nearest (pNeg b) (pMag b) (pExp b + k)) ∧ ∃ o n, w' = ext w o n) := by
  have hI : IR = 9218868437227405312 := by decide +kernel
  obtain ⟨X, f, hX1, hX2, hf, hY, hN⟩ : ∃ X f, 1 ≤ X ∧ X ≤ 2046 ∧ f < BN ∧ nrmF b = D64.word (pNeg b) (X * BN + f) ∧ ∀ k : Int, D64.nearest (pNeg b) (pMag b) (pExp b + k) = D64.nearest (pNeg b) (BN + f) (k + nrmE b + X - 1023 - 52) := by
    by_cases he : expo b = 0
    · obtain ⟨X, f, q1, q2, q3, q4, q5⟩ := normal_sub hb h0 hm he
      exact ⟨X, f, q1, q2, q3, by unfold nrmF; rw [if_pos he, q4], fun k => by unfold nrmE; rw [if_pos he, q5 k]; congr 1⟩
    · obtain ⟨X, f, q1, q2, q3, q4, q5⟩ := normal_of hb h0 hm he
      exact ⟨X, f, q1, q2, q3, by unfold nrmF; rw [if_neg he, ← q4], fun k => by unfold nrmE; rw [if_neg he, q5 k]; congr 1; omega⟩
  rw [hN k]
  have hnE : nrmE b = 0 ∨ nrmE b = -52 := by unfold nrmE; split <;> simp
  obtain ⟨E, hE⟩ : ∃ E, E = nrmE b := ⟨_, rfl⟩
  obtain ⟨s, hs⟩ : ∃ s, s = pNeg b := ⟨_, rfl⟩
  obtain ⟨Y, hYY⟩ : ∃ Y, Y = D64.word s (X * BN + f) := ⟨_, rfl⟩
  have hYf : X * BN + f ≤ IR := by rw [hI]; unfold BN at *; omega
  have hYlt : Y < 2 ^ 64 := by rw [hYY]; exact (isF_word s _ hYf).1
  have hnorm : ∀ w', Calls Try.prog 224 #[.float .f64 b] w' (fun e w2 => e = .returned (.tuple #[.float .f64 Y, .int .i64 E]) ∧ ∃ o n, w2 = ext w' o n) := fun w' => by
    refine (normalize_any b w' hb h0).mono fun e w2 hh => ?_
    obtain ⟨r, rfl, h1, h2⟩ := hh
    rw [hY, ← hs] at h1
    rw [isF_word_eq hYf h1, ← hYY, ← hE]
    exact ⟨rfl, h2⟩
  rw [← hE] at hnE ⊢
  rw [← hs]
  have d1 : (FloatKind.f64.format.order b 0 == some Ordering.eq) = false := by
    show (D64.order b 0 == some Ordering.eq) = false
    rw [ord_zero_eq b hb h0]; simpa using hm
  have d2 : decide (pKind b = 1) = false := by rw [h0]; decide
  have d3 : decide (pKind b = 2) = false := by rw [h0]; decide
  have hB := hid hb
  clear hY hN hE hs h0 hm
  have Hb := hid hYY
  have hYlt' : Y < 18446744073709551616 := hYlt
  have hexp : (Y : Int) / 4503599627370496 % 2048 = X := by
    rw [hYY, word_sN]
    have p63 : (2:Nat) ^ 63 = 9223372036854775808 := by decide
    unfold BN at *
    rcases sN_or s with h | h <;> rw [h] <;> omega
  have hsh := i64_and2047 ((Y : Int) / 4503599627370496)
  rw [hexp] at hsh
  obtain ⟨T, hT⟩ : ∃ T : Int, T = k + E + X - 1023 := ⟨_, rfl⟩
  have r1 : IntKind.i64.wrap ((X : Int) - 1023) = X - 1023 := IntWalk.i64_in _ (by omega)
  have r2 : IntKind.i64.wrap (k + E) = k + E := IntWalk.i64_in _ (by omega)
  have r3 : IntKind.i64.wrap (k + E + ((X : Int) - 1023)) = T := by rw [IntWalk.i64_in _ (by omega)]; omega
  have hpY : pNeg Y = s := by
    have hs : SW = 2 ^ 63 := by decide +kernel
    rw [hYY, word_sN]
    unfold pNeg
    rw [hs]
    have p63 : (2:Nat) ^ 63 = 9223372036854775808 := by decide
    have : (2 ^ 63 * sN s + (X * BN + f)) / 2 ^ 63 = sN s := by
      unfold BN at *
      rcases sN_or s with h | h <;> rw [h] <;> omega
    rw [this]
    cases s <;> decide
  have hkY : pKind Y = 0 ∧ pMag Y ≠ 0 := by
    have hr := read_mid s X f hX1 hX2 hf
    rw [← hYY, read_eq Y hYlt] at hr
    by_cases h : pKind Y = 0
    · rw [if_pos h] at hr
      simp only [Datum.number.injEq] at hr
      exact ⟨h, by rw [hr.2.1]; unfold BN; omega⟩
    · rw [if_neg h] at hr
      split at hr <;> cases hr
  have hlt : (FloatKind.f64.format.order Y 0 == some Ordering.lt) = s := by
    show (D64.order Y 0 == some Ordering.lt) = s
    rw [ord_zero_lt Y hYlt hkY.1 hkY.2, hpY]
  have hTT : k + E + (X : Int) - 1023 - 52 = T - 52 := by omega
  rw [hTT]
  have hcs : ∀ w', Calls Try.prog 225 #[.float .f64 0, .float .f64 Y] w' (fun e w2 => e = .returned (.float .f64 (D64.word s 0)) ∧ w' = w2) := fun w' => by
    have := copysign_any Y w' hYlt; rw [hpY] at this; exact this
  have hin1 : ∀ w', Calls Try.prog 226 #[.int .i64 (-1)] w' (fun e w2 => e = .returned (.float .f64 (D64.word true IR)) ∧ w' = w2) := fun w' => inf_any true w'
  have hin2 : ∀ w', Calls Try.prog 226 #[.int .i64 1] w' (fun e w2 => e = .returned (.float .f64 (D64.word false IR)) ∧ w' = w2) := fun w' => inf_any false w'
  have a1 : bits .andNot .u64 (Y : Int) 9218868437227405312 = ((2 ^ 63 * sN s + f : Nat) : Int) := by
    rw [show bits .andNot .u64 (Y : Int) 9218868437227405312 = ((Y &&& (18446744073709551615 - 9218868437227405312) : Nat) : Int) from u64_andNot_nat Y 9218868437227405312 hYlt' (by decide)]
    rw [hYY, word_sN, show 18446744073709551615 - 9218868437227405312 = 9227875636482146303 by decide]
    exact congrArg _ (strike (sN s) X f (sN_or s) (by omega) hf)
  obtain ⟨G, hG⟩ : ∃ G : Nat, G = 2 ^ 63 * sN s + f := ⟨_, rfl⟩
  rw [← hG] at a1
  have hor : ∀ X' : Nat, 1 ≤ X' → X' ≤ 2046 → bits .or .u64 (G : Int) ((X' * 4503599627370496 : Nat) : Int) = ((D64.word s (X' * BN + f) : Nat) : Int) := fun X' _ q2 => or_word s X' f G hG (Nat.lt_of_le_of_lt q2 (by decide)) hf
  have hZ : ∀ X' : Nat, 1 ≤ X' → X' ≤ 2046 → IsF (D64.word s (X' * BN + f)) (D64.word s (X' * BN + f)) := fun X' _ q2 => isF_word s _ (mid_le X' f q2 hf)
  have hc1 : IsF 4607182418800017408 4607182418800017408 := by decide +kernel
  have hc2 : IsF 4368491638549381120 4368491638549381120 := by decide +kernel
  have HT := hid hT
  clear hYY hpY hkY hG hT hTT hexp
  by_cases c1 : T < -1075
  · have b1 : decide (T < -1075) = true := by simpa using c1
    have q := hid (ld_low s f T hf c1)
    have Q := hid (isF_word s 0 (Nat.zero_le _))
    go_enter Try.func215, Try.ntmps215
    go_wp2_with (first | (go_at_call 216; ((with_reducible refine (isinf_any b _ hB.out).mono ?_); rintro e w1 ⟨rfl, rfl⟩)) | (go_at_call 223; ((with_reducible refine (isnan_any b _ hB.out).mono ?_); rintro e w1 ⟨rfl, rfl⟩)) | (go_at_call 224; ((with_reducible refine (hnorm _).mono ?_); rintro e w1 ⟨rfl, o1, n1, rfl⟩)) | (go_at_call 225; ((with_reducible refine (hcs _).mono ?_); rintro e w1 ⟨rfl, rfl⟩)) | (go_at_call 226; ((with_reducible refine (hin1 _).mono ?_); rintro e w1 ⟨rfl, rfl⟩)) | (go_at_call 226; ((with_reducible refine (hin2 _).mono ?_); rintro e w1 ⟨rfl, rfl⟩)) | ((with_reducible refine upon_id ?_); refine upon_fop rfl (by assumption) (by assumption) ?_; intro rr nn hr))
    go_ret
    exact ⟨_, rfl, by rw [q.out]; exact Q.out, by (show Grew _ _; repeat (first | (with_reducible exact Grew.refl _) | (with_reducible assumption) | (with_reducible exact Grew.same_o) | (with_reducible exact Grew.app_o) | (with_reducible refine Grew.ext ?_ _ _) | (with_reducible refine Grew.alloc ?_ _) | ((with_reducible refine Grew.setCell ?_ ?_ _); rotate_left; (focus (dsimp only; first | omega | (simp only [size_ext, World.size_alloc, Array.size_append]; omega)))) | (with_reducible refine Grew.drewN ?_ _) | (with_reducible refine Grew.drew ?_)))⟩
  · have b1 : decide (T < -1075) = false := by simpa using c1
    by_cases c2 : 1023 < T
    · have b2 : decide (1023 < T) = true := by simpa using c2
      have q := hid (ld_high s f T hf c2)
      have Q := hid (isF_word s IR (Nat.le_refl _))
      cases s
      · go_enter Try.func215, Try.ntmps215
        go_wp2_with (first | (go_at_call 216; ((with_reducible refine (isinf_any b _ hB.out).mono ?_); rintro e w1 ⟨rfl, rfl⟩)) | (go_at_call 223; ((with_reducible refine (isnan_any b _ hB.out).mono ?_); rintro e w1 ⟨rfl, rfl⟩)) | (go_at_call 224; ((with_reducible refine (hnorm _).mono ?_); rintro e w1 ⟨rfl, o1, n1, rfl⟩)) | (go_at_call 225; ((with_reducible refine (hcs _).mono ?_); rintro e w1 ⟨rfl, rfl⟩)) | (go_at_call 226; ((with_reducible refine (hin1 _).mono ?_); rintro e w1 ⟨rfl, rfl⟩)) | (go_at_call 226; ((with_reducible refine (hin2 _).mono ?_); rintro e w1 ⟨rfl, rfl⟩)) | ((with_reducible refine upon_id ?_); refine upon_fop rfl (by assumption) (by assumption) ?_; intro rr nn hr))
        go_ret
        exact ⟨_, rfl, by rw [q.out]; exact Q.out, by (show Grew _ _; repeat (first | (with_reducible exact Grew.refl _) | (with_reducible assumption) | (with_reducible exact Grew.same_o) | (with_reducible exact Grew.app_o) | (with_reducible refine Grew.ext ?_ _ _) | (with_reducible refine Grew.alloc ?_ _) | ((with_reducible refine Grew.setCell ?_ ?_ _); rotate_left; (focus (dsimp only; first | omega | (simp only [size_ext, World.size_alloc, Array.size_append]; omega)))) | (with_reducible refine Grew.drewN ?_ _) | (with_reducible refine Grew.drew ?_)))⟩
      · go_enter Try.func215, Try.ntmps215
        go_wp2_with (first | (go_at_call 216; ((with_reducible refine (isinf_any b _ hB.out).mono ?_); rintro e w1 ⟨rfl, rfl⟩)) | (go_at_call 223; ((with_reducible refine (isnan_any b _ hB.out).mono ?_); rintro e w1 ⟨rfl, rfl⟩)) | (go_at_call 224; ((with_reducible refine (hnorm _).mono ?_); rintro e w1 ⟨rfl, o1, n1, rfl⟩)) | (go_at_call 225; ((with_reducible refine (hcs _).mono ?_); rintro e w1 ⟨rfl, rfl⟩)) | (go_at_call 226; ((with_reducible refine (hin1 _).mono ?_); rintro e w1 ⟨rfl, rfl⟩)) | (go_at_call 226; ((with_reducible refine (hin2 _).mono ?_); rintro e w1 ⟨rfl, rfl⟩)) | ((with_reducible refine upon_id ?_); refine upon_fop rfl (by assumption) (by assumption) ?_; intro rr nn hr))
        go_ret
        exact ⟨_, rfl, by rw [q.out]; exact Q.out, by (show Grew _ _; repeat (first | (with_reducible exact Grew.refl _) | (with_reducible assumption) | (with_reducible exact Grew.same_o) | (with_reducible exact Grew.app_o) | (with_reducible refine Grew.ext ?_ _ _) | (with_reducible refine Grew.alloc ?_ _) | ((with_reducible refine Grew.setCell ?_ ?_ _); rotate_left; (focus (dsimp only; first | omega | (simp only [size_ext, World.size_alloc, Array.size_append]; omega)))) | (with_reducible refine Grew.drewN ?_ _) | (with_reducible refine Grew.drew ?_)))⟩
    · have b2 : decide (1023 < T) = false := by simpa using c2
      by_cases c3 : T < -1022
      · have b3 : decide (T < -1022) = true := by simpa using c3
        obtain ⟨X', hX'⟩ : ∃ X' : Nat, (X' : Int) = T + 53 + 1023 := ⟨(T + 53 + 1023).toNat, by omega⟩
        have q := hid (ld_end2 s X' f T (by omega) (by omega) hf hX')
        have r4 : IntKind.i64.wrap (T + 53) = T + 53 := IntWalk.i64_in _ (by omega)
        have r5 : IntKind.i64.wrap (T + 53 + 1023) = T + 53 + 1023 := IntWalk.i64_in _ (by omega)
        have q := ld_end2 s X' f T (by omega) (by omega) hf hX'
        have r6 : IntKind.u64.wrap (T + 53 + 1023) = (T + 53 + 1023) := IntWalk.u64_in _ (by omega)
        have r7 : IntKind.u64.wrap ((T + 53 + 1023) * 4503599627370496) = (T + 53 + 1023) * 4503599627370496 := IntWalk.u64_in _ (by omega)
        obtain ⟨Z, hZZ⟩ : ∃ Z, Z = D64.word s (X' * BN + f) := ⟨_, rfl⟩
        have ho : bits .or .u64 (G : Int) ((T + 53 + 1023) * 4503599627370496) = (Z : Int) := by
          have := hor X' (by omega) (by omega)
          rw [show ((X' * 4503599627370496 : Nat) : Int) = (T + 53 + 1023) * 4503599627370496 by omega, ← hZZ] at this; exact this
        have hz : IsF Z Z := by have := hZ X' (by omega) (by omega); rwa [← hZZ] at this
        rw [← hZZ] at q
        have Q := hid q
        have X2 := hid hX'
        clear hor hZ q hZZ hX'
        go_enter Try.func215, Try.ntmps215
        go_wp2_with (first | (go_at_call 216; ((with_reducible refine (isinf_any b _ hB.out).mono ?_); rintro e w1 ⟨rfl, rfl⟩)) | (go_at_call 223; ((with_reducible refine (isnan_any b _ hB.out).mono ?_); rintro e w1 ⟨rfl, rfl⟩)) | (go_at_call 224; ((with_reducible refine (hnorm _).mono ?_); rintro e w1 ⟨rfl, o1, n1, rfl⟩)) | (go_at_call 225; ((with_reducible refine (hcs _).mono ?_); rintro e w1 ⟨rfl, rfl⟩)) | (go_at_call 226; ((with_reducible refine (hin1 _).mono ?_); rintro e w1 ⟨rfl, rfl⟩)) | (go_at_call 226; ((with_reducible refine (hin2 _).mono ?_); rintro e w1 ⟨rfl, rfl⟩)) | ((with_reducible refine upon_id ?_); refine upon_fop rfl (by assumption) (by assumption) ?_; intro rr nn hr))
        go_ret
        exact ⟨_, rfl, by rw [← Q.out]; exact hr, by (show Grew _ _; repeat (first | (with_reducible exact Grew.refl _) | (with_reducible assumption) | (with_reducible exact Grew.same_o) | (with_reducible exact Grew.app_o) | (with_reducible refine Grew.ext ?_ _ _) | (with_reducible refine Grew.alloc ?_ _) | ((with_reducible refine Grew.setCell ?_ ?_ _); rotate_left; (focus (dsimp only; first | omega | (simp only [size_ext, World.size_alloc, Array.size_append]; omega)))) | (with_reducible refine Grew.drewN ?_ _) | (with_reducible refine Grew.drew ?_)))⟩
      · have b3 : decide (T < -1022) = false := by simpa using c3
        obtain ⟨X', hX'⟩ : ∃ X' : Nat, (X' : Int) = T + 1023 := ⟨(T + 1023).toNat, by omega⟩
        have r5 : IntKind.i64.wrap (T + 1023) = T + 1023 := IntWalk.i64_in _ (by omega)
        have q := ld_end1 s X' f T (by omega) (by omega) hf hX'
        have r6 : IntKind.u64.wrap (T + 1023) = (T + 1023) := IntWalk.u64_in _ (by omega)
        have r7 : IntKind.u64.wrap ((T + 1023) * 4503599627370496) = (T + 1023) * 4503599627370496 := IntWalk.u64_in _ (by omega)
        obtain ⟨Z, hZZ⟩ : ∃ Z, Z = D64.word s (X' * BN + f) := ⟨_, rfl⟩
        have ho : bits .or .u64 (G : Int) ((T + 1023) * 4503599627370496) = (Z : Int) := by
          have := hor X' (by omega) (by omega)
          rw [show ((X' * 4503599627370496 : Nat) : Int) = (T + 1023) * 4503599627370496 by omega, ← hZZ] at this; exact this
        have hz : IsF Z Z := by have := hZ X' (by omega) (by omega); rwa [← hZZ] at this
        rw [← hZZ] at q
        have Q := hid q
        have X2 := hid hX'
        clear hor hZ q hZZ hX'
        go_enter Try.func215, Try.ntmps215
        go_wp2_with (first | (go_at_call 216; ((with_reducible refine (isinf_any b _ hB.out).mono ?_); rintro e w1 ⟨rfl, rfl⟩)) | (go_at_call 223; ((with_reducible refine (isnan_any b _ hB.out).mono ?_); rintro e w1 ⟨rfl, rfl⟩)) | (go_at_call 224; ((with_reducible refine (hnorm _).mono ?_); rintro e w1 ⟨rfl, o1, n1, rfl⟩)) | (go_at_call 225; ((with_reducible refine (hcs _).mono ?_); rintro e w1 ⟨rfl, rfl⟩)) | (go_at_call 226; ((with_reducible refine (hin1 _).mono ?_); rintro e w1 ⟨rfl, rfl⟩)) | (go_at_call 226; ((with_reducible refine (hin2 _).mono ?_); rintro e w1 ⟨rfl, rfl⟩)) | ((with_reducible refine upon_id ?_); refine upon_fop rfl (by assumption) (by assumption) ?_; intro rr nn hr))
        go_ret
        exact ⟨_, rfl, by rw [← Q.out]; exact hr, by (show Grew _ _; repeat (first | (with_reducible exact Grew.refl _) | (with_reducible assumption) | (with_reducible exact Grew.same_o) | (with_reducible exact Grew.app_o) | (with_reducible refine Grew.ext ?_ _ _) | (with_reducible refine Grew.alloc ?_ _) | ((with_reducible refine Grew.setCell ?_ ?_ _); rotate_left; (focus (dsimp only; first | omega | (simp only [size_ext, World.size_alloc, Array.size_append]; omega)))) | (with_reducible refine Grew.drewN ?_ _) | (with_reducible refine Grew.drew ?_)))⟩
/-- math.Ldexp. -/
theorem ldexp_any (b x : Nat) (k : Int) (w : World) (hx : IsF b x) (hk : -5000 ≤ k ∧ k ≤ 5000) : Calls Try.prog 215 #[.float .f64 b, .int .i64 k] w (fun e w' => ∃ r, e = .returned (.float .f64 r) ∧ IsF r (ldF x k) ∧ ∃ o n, w' = ext w o n) := by
  by_cases h : pKind b = 0 ∧ pMag b ≠ 0
  · have e := isF_of_kind hx (by omega)
    subst e
    have e2 : ldF b k = D64.nearest (pNeg b) (pMag b) (pExp b + k) := by unfold ldF; rw [if_pos h]
    rw [e2]
    exact ldexp_num b k w hx.1 hk h.1 h.2
  · have hk3 := kind_le b
    have e2 : ldF x k = x := by
      unfold ldF
      rw [if_neg]
      intro h2
      rw [← hx.kind] at h2
      have e := isF_of_kind hx (by omega)
      subst e
      exact h h2
    rw [e2]
    refine (ldexp_back b k w hx.1 ?_).mono fun e w' hh => ⟨b, hh.1, hx, #[], w.drawn, by rw [← hh.2]; exact ext_zero.symm⟩
    by_cases h0 : pKind b = 0
    · exact .inr (.inr ⟨h0, Decidable.not_not.1 fun hm => h ⟨h0, hm⟩⟩)
    · rcases hk3 with h3 | h3 | h3
      · exact absurd h3 h0
      · exact .inl h3
      · exact .inr (.inl h3)
/-- math.Ldexp, as it is called. -/
theorem mldexp_any (b x : Nat) (k : Int) (w : World) (hx : IsF b x) (hk : -5000 ≤ k ∧ k ≤ 5000) : Calls Try.prog 197 #[.float .f64 b, .int .i64 k] w (fun e w' => ∃ r, e = .returned (.float .f64 r) ∧ IsF r (ldF x k) ∧ ∃ o n, w' = ext w o n) := by
  go_enter Try.func197, Try.ntmps197
  go_wp2_with (first | (go_at_call 215; ((with_reducible refine (ldexp_any b x k _ hx hk).mono ?_); rintro e w1 ⟨r, rfl, hr, o1, n1, rfl⟩)))
  go_ret
  exact ⟨r, rfl, hr, _, _, rfl⟩
/-- num.Scale. -/
theorem nscale_any (b x : Nat) (k : Int) (w : World) (hx : IsF b x) : Calls Try.prog 162 #[.float .f64 b, .int .i64 k] w (fun e w' => ∃ r, e = .returned (.float .f64 r) ∧ IsF r (fscale x k) ∧ ∃ o n, w' = ext w o n) := by
  have e : fscale x k = ldF x (kcl k) := rfl
  rw [e]
  by_cases c1 : k < -5000
  · have e2 : kcl k = -5000 := by unfold kcl; omega
    have hk : (-5000 : Int) ≤ -5000 ∧ (-5000 : Int) ≤ 5000 := by decide
    rw [e2]
    go_enter Try.func162, Try.ntmps162
    go_wp2_with (first | (go_at_call 197; ((with_reducible refine (mldexp_any b x (-5000) _ hx hk).mono ?_); rintro e w1 ⟨r, rfl, hr, o1, n1, rfl⟩)))
    go_ret
    exact ⟨r, rfl, hr, _, _, rfl⟩
  · by_cases c2 : 5000 < k
    · have e2 : kcl k = 5000 := by unfold kcl; omega
      have hk : (-5000 : Int) ≤ 5000 ∧ (5000 : Int) ≤ 5000 := by decide
      rw [e2]
      go_enter Try.func162, Try.ntmps162
      go_wp2_with (first | (go_at_call 197; ((with_reducible refine (mldexp_any b x 5000 _ hx hk).mono ?_); rintro e w1 ⟨r, rfl, hr, o1, n1, rfl⟩)))
      go_ret
      exact ⟨r, rfl, hr, _, _, rfl⟩
    · have e2 : kcl k = k := by unfold kcl; omega
      have hk : -5000 ≤ k ∧ k ≤ 5000 := by omega
      rw [e2]
      go_enter Try.func162, Try.ntmps162
      go_wp2_with (first | (go_at_call 197; ((with_reducible refine (mldexp_any b x k _ hx hk).mono ?_); rintro e w1 ⟨r, rfl, hr, o1, n1, rfl⟩)))
      go_ret
      exact ⟨r, rfl, hr, _, _, rfl⟩
end Go.Proofs.Ytcmggfpcbijcjaa
end
section
/-
  Contracts: math.Frexp, num.Exp, straightedgeref01.Exp.
-/
set_option linter.unusedSimpArgs false
set_option linter.unusedVariables false
open Go Go.RowKit Sedge
namespace Go.Proofs.Ytcmggfpcbijcjaa
/-- A number below the normal ones, made normal. -/
theorem normal_sub2 {x : Nat} (hx : x < 2 ^ 64) (hk : pKind x = 0) (h0 : pMag x ≠ 0) (he : expo x = 0) :
    ∃ f, (frac x).log2 ≤ 51 ∧ f < BN ∧ fmul x 4841369599423283200 = D64.word (pNeg x) (((frac x).log2 + 1) * BN + f) := by
  have e1 : pMag x = frac x := by unfold pMag; rw [if_neg (by omega), if_pos he]
  have e2 : pExp x = -1074 := by unfold pExp; rw [if_neg (by omega), if_pos he]
  have hr : D64.read x = .number (pNeg x) (frac x) (-1074) := by rw [read_eq x hx, if_pos hk, e1, e2]
  obtain ⟨m, hm⟩ : ∃ m, m = frac x := ⟨_, rfl⟩
  have hm0 : m ≠ 0 := by rw [hm, ← e1]; exact h0
  have hmb : m < BN := by rw [hm]; exact frac_lt x
  rw [fmul_num hr read_p52, ← hm, Bool.xor_false]
  obtain ⟨a, b⟩ := log2_spec m hm0
  obtain ⟨L, hL⟩ : ∃ L, L = m.log2 := ⟨_, rfl⟩
  have hL51 : L ≤ 51 := by
    have : m < 2 ^ 52 := by rw [← BN_eq']; exact hmb
    have := (Nat.log2_lt hm0).2 this; omega
  rw [← hL] at a b ⊢
  have hp : 2 ^ L * 2 ^ (52 - L) = 2 ^ 52 := by rw [← Nat.pow_add]; congr 1; omega
  have hM1 : 2 ^ 52 ≤ m * 2 ^ (52 - L) := by rw [← hp]; exact Nat.mul_le_mul_right _ a
  have hM2 : m * 2 ^ (52 - L) < 2 ^ 53 := by
    have : m * 2 ^ (52 - L) < 2 ^ (L + 1) * 2 ^ (52 - L) := Nat.mul_lt_mul_of_pos_right b (Nat.two_pow_pos _)
    rw [← Nat.pow_add, show L + 1 + (52 - L) = 53 by omega] at this; exact this
  obtain ⟨f, hf⟩ : ∃ f, m * 2 ^ (52 - L) = BN + f := ⟨m * 2 ^ (52 - L) - BN, by rw [BN_eq']; omega⟩
  have hfb : f < BN := by rw [BN_eq'] at *; omega
  refine ⟨f, hL51, hfb, ?_⟩
  rw [Int.add_zero]
  have e3 : m * 4503599627370496 = m * 2 ^ 52 := by rw [show (2 : Nat) ^ 52 = 4503599627370496 from by decide]
  obtain ⟨A, hA⟩ : ∃ A, A = m * 4503599627370496 := ⟨_, rfl⟩
  have hA0 : A ≠ 0 := by omega
  have hA2 : A = (BN + f) * 2 ^ L := by rw [hA, e3, ← hf, Nat.mul_assoc, ← Nat.pow_add, show 52 - L + L = 52 by omega]
  have hAl : A.log2 = L + 52 := by rw [hA, e3, log2_mul_pow m 52 hm0, hL]
  rw [← hA]
  clear hA e3
  have hl : lastP A (-1074) = -1074 + L := by unfold lastP; rw [hAl]; push_cast; omega
  rw [nearest_eq _ _ _ hA0, kept_of hl, hl, hA2, rne_exact]
  have h3 : (-1074 + (L : Int) + 1074).toNat = L := by omega
  rw [h3]
  have h4 : L * BN + (BN + f) ≤ IR := by unfold IR BN at *; omega
  rw [Nat.min_eq_left h4]
  have h5 : (L + 1) * BN = L * BN + BN := Nat.succ_mul L BN
  rw [h5, Nat.add_assoc]
/-- A finite number that isn't 0, made normal: its exponent. -/
theorem norm_exp {x : Nat} (hx : x < 2 ^ 64) (hk : pKind x = 0) (h0 : pMag x ≠ 0) : ∃ X f, 1 ≤ X ∧ X ≤ 2046 ∧ f < BN ∧ nrmF x = D64.word (pNeg x) (X * BN + f) ∧ nrmE x + X - 1023 = fexp x := by
  have h2 : expo x ≠ 2047 := by
    intro h; unfold pKind at hk; rw [if_pos h] at hk; split at hk <;> cases hk
  have hf0 : fexp x = pExp x + (pMag x).log2 := by unfold fexp; rw [if_pos ⟨hk, h0⟩]
  by_cases he : expo x = 0
  · have e1 : pMag x = frac x := by unfold pMag; rw [if_neg (by omega), if_pos he]
    have e2 : pExp x = -1074 := by unfold pExp; rw [if_neg (by omega), if_pos he]
    obtain ⟨f, q1, q2, q3⟩ := normal_sub2 hx hk h0 he
    refine ⟨(frac x).log2 + 1, f, by omega, by omega, q2, by unfold nrmF; rw [if_pos he, q3], ?_⟩
    rw [hf0, e1, e2]
    unfold nrmE; rw [if_pos he]; omega
  · refine ⟨expo x, frac x, by omega, ?_, frac_lt x, ?_, ?_⟩
    · have := expo_lt x; omega
    · obtain ⟨X, f, q1, q2, q3, q4, _⟩ := normal_of hx hk h0 he
      unfold nrmF; rw [if_neg he]
      have e : X * BN + f = expo x * BN + frac x := by
        have h3 : x % SW = X * BN + f := by
          rw [q4]
          have hs : SW = 2 ^ 63 := by decide +kernel
          rw [hs, word_sN, Nat.mul_add_mod]
          have p63 : (2:Nat) ^ 63 = 9223372036854775808 := by decide
          rw [Nat.mod_eq_of_lt (by unfold BN at *; omega)]
        rw [← h3, rung_eq]
      rw [← e]; exact q4
    · have e1 : pMag x = frac x + BN := by unfold pMag; rw [if_neg h2, if_neg he]
      have e2 : pExp x = (expo x : Int) - 1075 := by unfold pExp; rw [if_neg h2, if_neg he]
      have hb : frac x < 4503599627370496 := frac_lt x
      have hl : (frac x + BN).log2 = 52 := by
        refine (Nat.log2_eq_iff (by unfold BN; omega)).2 ⟨?_, ?_⟩
        · unfold BN; omega
        · unfold BN; omega
      rw [hf0, e1, e2, hl]
      unfold nrmE; rw [if_neg he]; omega
theorem u64_and2047 (n : Nat) (h : n < 18446744073709551616) : bits .and .u64 (n : Int) 2047 = ((n % 2048 : Nat) : Int) := by
  rw [show bits .and .u64 (n : Int) 2047 = ((n &&& 2047 : Nat) : Int) from u64_and_nat n 2047 h (by decide)]
  rw [show (2047 : Nat) = 2 ^ 11 - 1 by decide, Nat.and_two_pow_sub_one_eq_mod]
set_option maxRecDepth 100000 in
set_option maxHeartbeats 2000000 in
/-- math.frexp: the exponent. -/
theorem frexp_any (b : Nat) (w : World) (hb : b < 2 ^ 64) (h0 : pKind b = 0) (hm : pMag b ≠ 0) :
    Calls Try.prog 218 #[.float .f64 b] w (fun e w' => ∃ r, e = .returned (.tuple #[.float .f64 r, .int .i64 (fexp b + 1)]) ∧ ∃ o n, w' = ext w o n) := by
  obtain ⟨X, f, hX1, hX2, hf, hY, hE⟩ := norm_exp hb h0 hm
  have hI : IR = 9218868437227405312 := by decide +kernel
  have hnE : nrmE b = 0 ∨ nrmE b = -52 := by unfold nrmE; split <;> simp
  obtain ⟨E, hEE⟩ : ∃ E, E = nrmE b := ⟨_, rfl⟩
  obtain ⟨s, hs⟩ : ∃ s, s = pNeg b := ⟨_, rfl⟩
  obtain ⟨Y, hYY⟩ : ∃ Y, Y = D64.word s (X * BN + f) := ⟨_, rfl⟩
  have hYf : X * BN + f ≤ IR := by rw [hI]; unfold BN at *; omega
  have hYlt : Y < 2 ^ 64 := by rw [hYY]; exact (isF_word s _ hYf).1
  have hYlt' : Y < 18446744073709551616 := hYlt
  have hnorm : ∀ w', Calls Try.prog 224 #[.float .f64 b] w' (fun e w2 => e = .returned (.tuple #[.float .f64 Y, .int .i64 E]) ∧ ∃ o n, w2 = ext w' o n) := fun w' => by
    refine (normalize_any b w' hb h0).mono fun e w2 hh => ?_
    obtain ⟨r, rfl, h1, h2⟩ := hh
    rw [hY, ← hs] at h1
    rw [isF_word_eq hYf h1, ← hYY, ← hEE]
    exact ⟨rfl, h2⟩
  rw [← hEE] at hnE hE
  have d1 : (FloatKind.f64.format.order b 0 == some Ordering.eq) = false := by
    show (D64.order b 0 == some Ordering.eq) = false
    rw [ord_zero_eq b hb h0]; simpa using hm
  have d2 : decide (pKind b = 1) = false := by rw [h0]; decide
  have d3 : decide (pKind b = 2) = false := by rw [h0]; decide
  have hexp : Y / 4503599627370496 % 2048 = X := by
    rw [hYY, word_sN]
    have p63 : (2:Nat) ^ 63 = 9223372036854775808 := by decide
    unfold BN at *
    rcases sN_or s with h | h <;> rw [h] <;> omega
  have a1 : bits .and .u64 ((Y : Int) / 4503599627370496) 2047 = (X : Int) := by
    rw [show (Y : Int) / 4503599627370496 = ((Y / 4503599627370496 : Nat) : Int) by omega, u64_and2047 _ (by omega), hexp]
  have e52 : (2:Int) ^ 52 = 4503599627370496 := by decide
  have r0 : IntKind.i64.wrap (X : Int) = X := IntWalk.i64_in _ (by omega)
  have r1 : IntKind.i64.wrap ((X : Int) - 1023) = X - 1023 := IntWalk.i64_in _ (by omega)
  have r2 : IntKind.i64.wrap ((X : Int) - 1023 + 1) = X - 1023 + 1 := IntWalk.i64_in _ (by omega)
  have r3 : IntKind.i64.wrap (E + ((X : Int) - 1023 + 1)) = fexp b + 1 := by rw [IntWalk.i64_in _ (by omega)]; omega
  have hB := hid hb
  clear hY hE hs hEE h0 hm hb hexp hYY
  go_enter Try.func218, Try.ntmps218
  go_wp2_with (first | (go_at_call 216; ((with_reducible refine (isinf_any b _ hB.out).mono ?_); rintro e w1 ⟨rfl, rfl⟩)) | (go_at_call 223; ((with_reducible refine (isnan_any b _ hB.out).mono ?_); rintro e w1 ⟨rfl, rfl⟩)) | (go_at_call 224; ((with_reducible refine (hnorm _).mono ?_); rintro e w1 ⟨rfl, o1, n1, rfl⟩)))
  refine bodyPost_ret (by simp [results, Try.results218, go_sem, *]; rfl) rfl ?_
  exact ⟨_, rfl, by (show Grew _ _; repeat (first | (with_reducible exact Grew.refl _) | (with_reducible assumption) | (with_reducible exact Grew.same_o) | (with_reducible exact Grew.app_o) | (with_reducible refine Grew.ext ?_ _ _) | (with_reducible refine Grew.alloc ?_ _) | ((with_reducible refine Grew.setCell ?_ ?_ _); rotate_left; (focus (dsimp only; first | omega | (simp only [size_ext, World.size_alloc, Array.size_append]; omega)))) | (with_reducible refine Grew.drewN ?_ _) | (with_reducible refine Grew.drew ?_)))⟩
set_option maxRecDepth 100000 in
/-- math.Frexp: the exponent. -/
theorem mfrexp_any (b : Nat) (w : World) (hb : b < 2 ^ 64) (h0 : pKind b = 0) (hm : pMag b ≠ 0) :
    Calls Try.prog 201 #[.float .f64 b] w (fun e w' => ∃ r, e = .returned (.tuple #[.float .f64 r, .int .i64 (fexp b + 1)]) ∧ ∃ o n, w' = ext w o n) := by
  have h := fun w' => frexp_any b w' hb h0 hm
  clear hb h0 hm
  go_enter Try.func201, Try.ntmps201
  go_wp2_with (first | (go_at_call 218; ((with_reducible refine (h _).mono ?_); rintro e w1 ⟨r, rfl, o1, n1, rfl⟩)))
  go_ret2
  exact ⟨_, rfl, by (show Grew _ _; repeat (first | (with_reducible exact Grew.refl _) | (with_reducible assumption) | (with_reducible exact Grew.same_o) | (with_reducible exact Grew.app_o) | (with_reducible refine Grew.ext ?_ _ _) | (with_reducible refine Grew.alloc ?_ _) | ((with_reducible refine Grew.setCell ?_ ?_ _); rotate_left; (focus (dsimp only; first | omega | (simp only [size_ext, World.size_alloc, Array.size_append]; omega)))) | (with_reducible refine Grew.drewN ?_ _) | (with_reducible refine Grew.drew ?_)))⟩
end Go.Proofs.Ytcmggfpcbijcjaa
end
section
/-
  Contracts: num.Finite, num.Exp, straightedgeref01.Exp.
-/
set_option linter.unusedSimpArgs false
set_option linter.unusedVariables false
open Go Go.RowKit Sedge
namespace Go.Proofs.Ytcmggfpcbijcjaa
theorem kind3 (b : Nat) : pKind b = 0 ∨ pKind b = 1 ∨ pKind b = 2 := by
  unfold pKind
  by_cases h : expo b = 2047
  · rw [if_pos h]
    by_cases h2 : frac b = 0
    · rw [if_pos h2]; simp
    · rw [if_neg h2]; simp
  · rw [if_neg h]; simp
theorem finL_no (ws : List Nat) (k : Nat) (hlt : k < ws.length) (h : finB (ws.getD k 0) = false) : finL ws = false := by
  unfold finL
  have hm : ws.getD k 0 ∈ ws := by rw [List.getD_eq_getElem?_getD, List.getElem?_eq_getElem hlt]; exact List.getElem_mem hlt
  rw [List.all_eq_false]
  exact ⟨_, hm, by simpa using h⟩
set_option maxRecDepth 100000 in
set_option maxHeartbeats 1000000 in
/-- num.Finite. -/
theorem nfin_any (D : Value) (ws : List Nat) (w : World) (hD : FS w D ws) :
   Calls Try.prog 200 #[D] w (fun e w' => e = .returned (.bool (finL ws)) ∧ w = w') := by
  obtain ⟨a, cap, rfl⟩ := hD.shape
  have hl := hD.len
  have HD := hD.at.2
  clear hD
  have hl' : (ws.length : Int) ≤ 9223372036854775807 := by omega
  go_enter Try.func200, Try.ntmps200
  go_wp2
  go_loop [7] (fun c => ∃ k : Nat, k ≤ ws.length ∧ c = .int .i64 k ∧ finL (ws.take k) = true) (fun c => ws.length - (intOf c).toNat)
  case atStart => exact ⟨0, Nat.zero_le _, rfl, rfl⟩
  case round =>
    obtain ⟨k, hk, rfl, hf⟩ := hrel
    have Hf := hid hf
    clear hf
    by_cases hlt : k < ws.length
    · obtain ⟨blk, o, rfl, hblk, hc⟩ := HD (by omega)
      obtain ⟨b, hb, hx⟩ := hc k hlt
      clear hc
      have hb1 := hx.1
      have hkd := hx.kind
      have e0 := finL_take ws k hlt
      have h1 : (FloatKind.f64.format.order b b != some Ordering.eq) = decide (pKind b = 2) := (order_self b).trans (isNan_kind b hb1)
      rcases kind3 b with hf2 | hf2 | hf2
      · have q1 : (FloatKind.f64.format.order b b != some Ordering.eq) = false := by rw [h1, hf2]; decide
        have q2 : decide (pKind b = 1) = false := by rw [hf2]; decide
        have Hq := hid hf2
        have Hkd := hid hkd
        have He0 := hid e0
        clear hf2 hkd e0 h1
        go_wp2_with (first | (go_at_call 216; ((with_reducible refine (isinf_any _ _ hb1).mono ?_); rintro e w1 ⟨rfl, rfl⟩)))
        go_round
        case rel => exact ⟨k + 1, by omega, by go_num, by rw [He0.out, Hf.out, finB, ← Hkd.out, Hq.out]; rfl⟩
        case measure => simp [intOf]; omega
      · have q1 : (FloatKind.f64.format.order b b != some Ordering.eq) = false := by rw [h1, hf2]; decide
        have q2 : decide (pKind b = 1) = true := by rw [hf2]; decide
        have Hq := hid hf2
        have Hkd := hid hkd
        clear hf2 hkd e0 h1
        go_wp2_with (first | (go_at_call 216; ((with_reducible refine (isinf_any _ _ hb1).mono ?_); rintro e w1 ⟨rfl, rfl⟩)))
        go_ret
        refine ⟨ret_bool ?_, rfl⟩
        have : finB (ws.getD k 0) = false := by unfold finB; rw [← Hkd.out, Hq.out]; decide
        exact (finL_no ws k hlt this).symm
      · have q1 : (FloatKind.f64.format.order b b != some Ordering.eq) = true := by rw [h1, hf2]; decide
        have Hq := hid hf2
        have Hkd := hid hkd
        clear hf2 hkd e0 h1
        go_wp2
        go_ret
        refine ⟨ret_bool ?_, rfl⟩
        have : finB (ws.getD k 0) = false := by unfold finB; rw [← Hkd.out, Hq.out]; decide
        exact (finL_no ws k hlt this).symm
    · go_wp2
      go_ret
      refine ⟨ret_bool ?_, rfl⟩
      have := Hf.out
      rw [show k = ws.length by omega, List.take_length] at this
      exact this.symm
theorem fexp_not {b : Nat} (h : pKind b ≠ 0 ∨ pMag b = 0) : fexp b = 0 := by
  unfold fexp; rw [if_neg]; rintro ⟨h1, h2⟩; rcases h with h | h
  · exact h h1
  · exact h2 h
theorem fexp_canon {b x : Nat} (h : IsF b x) : fexp b = fexp x := by
  by_cases hk : pKind b = 0
  · have hn : isNan b = false := by rw [isNan_kind b h.1, hk]; decide
    rw [← h.2, canon_not hn]
  · rw [fexp_not (.inl hk), fexp_not (.inl (by rw [← h.kind]; exact hk))]
theorem order_nan_none {b : Nat} (hb : b < 2 ^ 64) (h : pKind b = 2) : (D64.order b 0 == some Ordering.eq) = false := by
  rw [order_none b 0 hb h]; rfl
theorem fexp_range {b : Nat} (hk : pKind b = 0) (hm : pMag b ≠ 0) : -1074 ≤ fexp b ∧ fexp b ≤ 1023 := by
  have h1 := pExp_ge b hk
  have h2 := log2_le_52 hm (pMag_lt b)
  unfold fexp; rw [if_pos ⟨hk, hm⟩]; omega
theorem fexp_range' (b : Nat) : -1074 ≤ fexp b ∧ fexp b ≤ 1023 := by
  by_cases h : pKind b = 0 ∧ pMag b ≠ 0
  · exact fexp_range h.1 h.2
  · unfold fexp; rw [if_neg h]; decide
theorem finL_one (x : Nat) : finL [x] = finB x := by simp [finL]
set_option maxRecDepth 100000 in
set_option maxHeartbeats 1000000 in
/-- num.Exp. -/
theorem nexp_any (b x : Nat) (w : World) (hb : IsF b x) : Calls Try.prog 178 #[.float .f64 b] w (fun e w' => e = .returned (.int .i64 (fexp x)) ∧ ∃ o n, w' = ext w o n) := by
  rw [← fexp_canon hb]
  have hfin : ∀ w' blk, w'.cell? ⟨blk, 0, none⟩ = some (.float .f64 b) → Calls Try.prog 200 #[.slice (some ⟨blk, 0, none⟩) 1 1] w' (fun e w2 => e = .returned (.bool (finB x)) ∧ w' = w2) := fun w' blk h1 => by
    have := nfin_any (.slice (some ⟨blk, 0, none⟩) 1 1) [x] w' ⟨by simp, some ⟨blk, 0, none⟩, 1, rfl, by simp, fun i hi => by
      have : i = 0 := by simpa using hi
      subst this
      exact ⟨blk, 0, b, rfl, h1, hb⟩⟩
    rw [finL_one] at this
    exact this
  have hlt := hb.1
  by_cases hk : pKind b = 0
  · by_cases hm : pMag b = 0
    · have d1 : (FloatKind.f64.format.order b 0 == some Ordering.eq) = true := by
        show (D64.order b 0 == some Ordering.eq) = true
        rw [ord_zero_eq b hlt hk, hm]; decide
      have q := fexp_not (b := b) (.inr hm)
      rw [q]
      clear hm hk q
      go_enter Try.func178, Try.ntmps178
      go_wp2
      go_ret
      exact ⟨rfl, by (show Grew _ _; repeat (first | (with_reducible exact Grew.refl _) | (with_reducible assumption) | (with_reducible exact Grew.same_o) | (with_reducible exact Grew.app_o) | (with_reducible refine Grew.ext ?_ _ _) | (with_reducible refine Grew.alloc ?_ _) | ((with_reducible refine Grew.setCell ?_ ?_ _); rotate_left; (focus (dsimp only; first | omega | (simp only [size_ext, World.size_alloc, Array.size_append]; omega)))) | (with_reducible refine Grew.drewN ?_ _) | (with_reducible refine Grew.drew ?_)))⟩
    · have d1 : (FloatKind.f64.format.order b 0 == some Ordering.eq) = false := by
        show (D64.order b 0 == some Ordering.eq) = false
        rw [ord_zero_eq b hlt hk]; simpa using hm
      have hf : finB x = true := by unfold finB; rw [← hb.kind, hk]; decide
      rw [hf] at hfin
      have hfr := fun w' => mfrexp_any b w' hlt hk hm
      have hr := fexp_range hk hm
      have r1 : IntKind.i64.wrap (fexp b) = fexp b := IntWalk.i64_in _ (by omega)
      clear hm hk hf hr
      go_enter Try.func178, Try.ntmps178
      go_wp2_with (first | (go_at_call 200; ((with_reducible refine (hfin _ _ (by go_simp)).mono ?_); rintro e w1 ⟨rfl, rfl⟩)) | (go_at_call 201; ((with_reducible refine (hfr _).mono ?_); rintro e w1 ⟨r, rfl, o1, n1, rfl⟩)))
      go_ret
      exact ⟨rfl, by (show Grew _ _; repeat (first | (with_reducible exact Grew.refl _) | (with_reducible assumption) | (with_reducible exact Grew.same_o) | (with_reducible exact Grew.app_o) | (with_reducible refine Grew.ext ?_ _ _) | (with_reducible refine Grew.alloc ?_ _) | ((with_reducible refine Grew.setCell ?_ ?_ _); rotate_left; (focus (dsimp only; first | omega | (simp only [size_ext, World.size_alloc, Array.size_append]; omega)))) | (with_reducible refine Grew.drewN ?_ _) | (with_reducible refine Grew.drew ?_)))⟩
  · have hf : finB x = false := by unfold finB; rw [← hb.kind]; simpa using hk
    have q := fexp_not (b := b) (.inl hk)
    rw [q]
    rw [hf] at hfin
    clear hk hf q
    cases d1 : (FloatKind.f64.format.order b 0 == some Ordering.eq)
    · go_enter Try.func178, Try.ntmps178
      go_wp2_with (first | (go_at_call 200; ((with_reducible refine (hfin _ _ (by go_simp)).mono ?_); rintro e w1 ⟨rfl, rfl⟩)))
      go_ret
      exact ⟨rfl, by (show Grew _ _; repeat (first | (with_reducible exact Grew.refl _) | (with_reducible assumption) | (with_reducible exact Grew.same_o) | (with_reducible exact Grew.app_o) | (with_reducible refine Grew.ext ?_ _ _) | (with_reducible refine Grew.alloc ?_ _) | ((with_reducible refine Grew.setCell ?_ ?_ _); rotate_left; (focus (dsimp only; first | omega | (simp only [size_ext, World.size_alloc, Array.size_append]; omega)))) | (with_reducible refine Grew.drewN ?_ _) | (with_reducible refine Grew.drew ?_)))⟩
    · go_enter Try.func178, Try.ntmps178
      go_wp2_with (first | (go_at_call 200; ((with_reducible refine (hfin _ _ (by go_simp)).mono ?_); rintro e w1 ⟨rfl, rfl⟩)))
      go_ret
      exact ⟨rfl, by (show Grew _ _; repeat (first | (with_reducible exact Grew.refl _) | (with_reducible assumption) | (with_reducible exact Grew.same_o) | (with_reducible exact Grew.app_o) | (with_reducible refine Grew.ext ?_ _ _) | (with_reducible refine Grew.alloc ?_ _) | ((with_reducible refine Grew.setCell ?_ ?_ _); rotate_left; (focus (dsimp only; first | omega | (simp only [size_ext, World.size_alloc, Array.size_append]; omega)))) | (with_reducible refine Grew.drewN ?_ _) | (with_reducible refine Grew.drew ?_)))⟩
theorem rexp_step {m : Nat} (h : 1 < m) : (m / 2).log2 + 1 = m.log2 := by
  rw [Nat.log2_def m, if_pos (by omega)]
set_option maxRecDepth 100000 in
set_option maxHeartbeats 1000000 in
/-- straightedgeref01.Exp. -/
theorem rexp_any (b x : Nat) (w : World) (hb : IsF b x) : Calls Try.prog 180 #[.float .f64 b] w (fun e w' => e = .returned (.int .i64 (fexp x)) ∧ w = w') := by
  rw [← fexp_canon hb]
  have hlt := hb.1
  by_cases hk : pKind b = 0
  · have q1 : ((pKind b : Int) != 0) = false := by simp [hk]
    by_cases hm : pMag b = 0
    · have q2 : ((pMag b : Int) == 0) = true := by simp [hm]
      have q := fexp_not (b := b) (.inr hm)
      rw [q]
      clear hm hk q
      go_enter Try.func180, Try.ntmps180
      go_wp2_with (first | (go_at_call 116; ((with_reducible refine (parts_any _ _ hlt).mono ?_); rintro e w1 ⟨rfl, rfl⟩)))
      go_ret
      exact ⟨rfl, rfl⟩
    · have q2 : ((pMag b : Int) == 0) = false := by simp [hm]
      have ef : fexp b = pExp b + (pMag b).log2 := by unfold fexp; rw [if_pos ⟨hk, hm⟩]
      have hr := fexp_range hk hm
      have hr2 := pExp_ge b hk
      have hml := pMag_lt b
      rw [ef] at hr ⊢
      obtain ⟨TT, hT⟩ : ∃ TT, TT = pExp b + (pMag b).log2 := ⟨_, rfl⟩
      rw [← hT] at hr ⊢
      have HT := hid hT
      have Hm := hid hm
      clear hm hk ef hT
      go_enter Try.func180, Try.ntmps180
      go_wp2_with (first | (go_at_call 116; ((with_reducible refine (parts_any _ _ hlt).mono ?_); rintro e w1 ⟨rfl, rfl⟩)))
      go_loop [4, 5] (fun m e => ∃ (M : Nat) (E : Int), m = .int .u64 M ∧ e = .int .i64 E ∧ M ≠ 0 ∧ M < 9007199254740992 ∧ E + M.log2 = TT ∧ -1074 ≤ E) (fun m _ => (intOf m).toNat)
      case atStart => exact ⟨_, _, rfl, rfl, Hm.out, hml, HT.out.symm, hr2.1⟩
      case round =>
        obtain ⟨M, E, rfl, rfl, h0, hM, hE, hE2⟩ := hrel
        by_cases h1 : 1 < M
        · have e1 := rexp_step h1
          have d1 : decide ((1 : Int) < (M : Int)) = true := by simp; omega
          have r1 : IntKind.i64.wrap (E + 1) = E + 1 := IntWalk.i64_in _ (by omega)
          have HE := hid hE
          have E1 := hid e1
          clear hE e1
          go_wp2
          go_round
          case rel => exact ⟨M / 2, E + 1, by go_num, rfl, by omega, by omega, by have := HE.out; have := E1.out; omega, by omega⟩
          case measure => simp [intOf]; omega
        · have e1 : M = 1 := by omega
          subst e1
          have e2 : E = TT := by rw [show (1 : Nat).log2 = 0 by decide] at hE; omega
          subst e2
          go_wp2
          go_ret
          exact ⟨rfl, rfl⟩
  · have q1 : ((pKind b : Int) != 0) = true := by simp [hk]
    have q := fexp_not (b := b) (.inl hk)
    rw [q]
    clear hk q
    go_enter Try.func180, Try.ntmps180
    go_wp2_with (first | (go_at_call 116; ((with_reducible refine (parts_any _ _ hlt).mono ?_); rintro e w1 ⟨rfl, rfl⟩)))
    go_ret
    exact ⟨rfl, rfl⟩
end Go.Proofs.Ytcmggfpcbijcjaa
end
section
/-
  Contracts: view.Dense without numbers; (M).Copy and straightedgeref08.Ger.
-/
set_option linter.unusedSimpArgs false
set_option linter.unusedVariables false
open Go Go.RowKit Sedge
namespace Go.Proofs.Ytcmggfpcbijcjaa
section
variable {P : Program} {o : Oper} {a : Act} {w : World} {K : Act → World → Prop} {Q : Exit → Act → World → Prop}
theorem wp_any (h : o.wp P a w K (fun e a w => e = .normal ∧ K a w)) : o.wp P a w K Q := by
  unfold Oper.wp at *
  generalize (execOp a.eval o).run P w = r at *
  cases r with
  | ok n w' =>
    cases n <;> simp only [Oper.upon] at h ⊢ <;> try exact h
    refine h.mono fun e w2 hh => ?_
    cases e with
    | returned v => exact hh
    | panicked c => exact absurd hh.1 (by simp)
    | outgrown => obtain ⟨_, _, h1, _⟩ := hh; cases h1
  | halt k w' =>
    cases k <;> simp only [Oper.upon] at h ⊢ <;> first | exact h | exact absurd h.1 (by simp)
theorem wp_id (h : o.wp P a w K Q) : o.wp P a w K Q := h
theorem wp_app {d : Option Tmp} {s x : Operand} {tt : Array TypeId} {ty : TypeId} {ps : String} {aft : Array Edge} (h : Oper.wp P { dst := d, op := .call { callee := .builtin .append, args := #[s, x], argTypes := tt }, type := ty, pos := ps, after := aft, guard := none } a w K Q) : Oper.wp P { dst := d, op := .call { callee := .builtin .append, args := #[s, x], argTypes := tt }, type := ty, pos := ps, after := aft, guard := none } a w K Q := h
/-- 'append(s, src...)', in a region that draws its order. -/
theorem appendN_K {t e : TypeId} (T : ElemF P t e) {W : World} (hW : Grew W w) {v : Value} {xs : List Nat} (hown : OwnF e w W.heap.size v xs) {D : Value} {ws : List Nat} (hD : FS w D ws)
    (hlen : xs.length + ws.length < 17592186044415) (s x : Operand) (hg : o.guard = none)
    (ho : o.op = .call { callee := .builtin .append, args := #[s, x], argTypes := #[t, t] }) (hs : a.eval s = v) (hx : a.eval x = D)
    (h : ∀ v' oo nn, OwnF e (ext W oo nn) W.heap.size v' (xs ++ ws) → (v ≠ .slice none 0 0 → v' ≠ .slice none 0 0) → K (a.put o.dst v') (ext W oo nn)) : o.wp P a w K Q := by
  have h1 := appendN_f (P := P) (ops := #[]) (Q := fun e a w => e = .normal ∧ K a w) (rest := []) T hW hown hD hlen s x hg ho hs hx (fun v' oo nn h1 h2 => ⟨rfl, h v' oo nn h1 h2⟩)
  unfold wpList at h1
  rw [if_pos (wanted_none hg)] at h1
  rcases h1 with h1 | ⟨_, _, _, h2, _⟩
  · exact wp_any (Oper.wp_mono (fun a w hh => hh.2) h1)
  · cases h2
end
set_option maxRecDepth 100000 in
set_option maxHeartbeats 1000000 in
/-- view.Dense, of sizes within 64, without numbers. -/
theorem dense0_any (r c : Nat) (w : World) (hr : r ≤ 64) (hc : c ≤ 64) (hr1 : 1 ≤ r) (hc1 : 1 ≤ c) :
   Calls Try.prog 69 #[.int .i64 r, .int .i64 c, .slice none 0 0] w (fun e w' => ∃ v, e = .returned (.agg #[v, .int .i64 0, .int .i64 r, .int .i64 c, .int .i64 r]) ∧ WS w' w.heap.size v (List.replicate (r * c) 0) ∧ ∃ o n, w' = ext w o n) := by
  have hm : r * c ≤ 64 * 64 := Nat.mul_le_mul hr hc
  have h2 : IntKind.i64.wrap ((r : Int) * c) = (r : Int) * c := IntWalk.i64_in _ (by rw [← Int.natCast_mul]; omega)
  have h3 : (0 : Int) ≤ (r : Int) * c := by rw [← Int.natCast_mul]; omega
  have d1 : decide ((r : Int) < 0) = false := by simp
  have d2 : decide ((c : Int) < 0) = false := by simp
  have d3 : decide ((64 : Int) < (r : Int)) = false := by simp; omega
  have d4 : decide ((64 : Int) < (c : Int)) = false := by simp; omega
  have d6 : decide ((1 : Int) ≤ (r : Int)) = true := by simp; omega
  have d7 : decide ((0 : Int) ≤ (r : Int) * c) = true := by simpa using h3
  go_enter Try.func69, Try.ntmps69
  refine seq_stop ?_
  go_wp2
  refine stop_go (fun W hW => ?_)
  have s1 : w.heap.size < W.heap.size := by rw [hW]; simp only [World.size_alloc]; omega
  have b1 : ∀ i, W.cell? ⟨w.heap.size, i, none⟩ = (#[.slice none 0 0, .int .i64 0, .int .i64 0, .int .i64 0, .int .i64 0] : Array Value)[i]? := by intro i; rw [hW]; go_simp
  have f1 : ∀ i, W.frozen? ⟨w.heap.size, i, none⟩ = false := by intro i; rw [hW]; go_simp
  have g0 : Grew w W := by rw [hW]; exact (Grew.refl _).alloc _
  clear hW
  go_wp2_with (at_make; refine make_f (L := (r : Int) * (c : Int)) finfo (Grew.refl W) _ _ rfl rfl (r * c) (Int.natCast_mul r c).symm rfl rfl (by omega) ?_; intro oo nn k hk ho; have hF := ho.made)
  refine name_any (fun V hV => ?_)
  have gV : Grew W V := by rw [← hV]; (show Grew _ _; repeat (first | (with_reducible exact Grew.refl _) | (with_reducible assumption) | (with_reducible exact Grew.same_o) | (with_reducible exact Grew.app_o) | (with_reducible refine Grew.ext ?_ _ _) | (with_reducible refine Grew.alloc ?_ _) | ((with_reducible refine Grew.setCell ?_ ?_ _); rotate_left; (focus (dsimp only; first | omega | (simp only [size_ext, World.size_alloc, Array.size_append]; omega)))) | (with_reducible refine Grew.drewN ?_ _) | (with_reducible refine Grew.drew ?_)))
  have sV := gV.below.size
  have k1 : w.heap.size < V.heap.size := by omega
  have k3 : W.heap.size + oo.size < V.heap.size := by rw [← hV]; simp only [World.size_alloc, size_ext]; omega
  have c1 : ∀ i, V.cell? ⟨w.heap.size, i, none⟩ = (#[.slice none 0 0, .int .i64 0, .int .i64 0, .int .i64 0, .int .i64 0] : Array Value)[i]? := fun i => (gV.cell s1).trans (b1 i)
  have z1 : ∀ i, V.frozen? ⟨w.heap.size, i, none⟩ = false := fun i => (gV.frozen s1).trans (f1 i)
  have c3 : ∀ i, V.cell? ⟨W.heap.size + oo.size, i, none⟩ = (#[.slice (some ⟨k, 0, none⟩) (r * c) (r * c), .int .i64 0, .int .i64 r, .int .i64 c, .int .i64 r] : Array Value)[i]? := by subst hV; intro i; go_simp
  have hFV : FW V k (List.replicate (r * c) 0) := by rw [← hV]; (repeat (first | (with_reducible assumption) | ((with_reducible refine FW.ext_set ?_ ?_ ?_ _); rotate_left; (focus (simp only [size_setCell', World.size_alloc, size_ext, size_upd]; omega)); (focus (dsimp only; omega))) | ((with_reducible refine FW.setCell_ne ?_ ?_ _); rotate_left; (focus (dsimp only; omega))) | (with_reducible refine FW.ext ?_ _ _) | (with_reducible refine FW.alloc ?_ _)))
  have q1 : w.heap.size ≠ k := by omega
  clear hV b1 f1 ho
  go_loopw [43] (fun s wr => s = .int .i64 0 ∧ wr = V) (fun s _ => 0)
  case atStart => exact ⟨rfl, rfl⟩
  case round =>
    obtain ⟨rfl, rfl⟩ := hrel
    go_wp2
    refine bodyPost_ret (v := .agg #[.slice (some ⟨k, 0, none⟩) (r * c) (r * c), .int .i64 0, .int .i64 r, .int .i64 c, .int .i64 r]) (by simp [results, Try.results69, go_sem, *]) rfl ?_
    exact ⟨_, rfl, ⟨k, _, by rw [List.length_replicate], by omega, by (repeat (first | (with_reducible assumption) | ((with_reducible refine FW.ext_set ?_ ?_ ?_ _); rotate_left; (focus (simp only [size_setCell', World.size_alloc, size_ext, size_upd]; omega)); (focus (dsimp only; omega))) | ((with_reducible refine FW.setCell_ne ?_ ?_ _); rotate_left; (focus (dsimp only; omega))) | (with_reducible refine FW.ext ?_ _ _) | (with_reducible refine FW.alloc ?_ _))), by rw [List.length_replicate]; omega⟩, by have gwr := g0.trans gV; (show Grew _ _; repeat (first | (with_reducible exact Grew.refl _) | (with_reducible assumption) | (with_reducible exact Grew.same_o) | (with_reducible exact Grew.app_o) | (with_reducible refine Grew.ext ?_ _ _) | (with_reducible refine Grew.alloc ?_ _) | ((with_reducible refine Grew.setCell ?_ ?_ _); rotate_left; (focus (dsimp only; first | omega | (simp only [size_ext, World.size_alloc, Array.size_append]; omega)))) | (with_reducible refine Grew.drewN ?_ _) | (with_reducible refine Grew.drew ?_)))⟩
set_option maxRecDepth 100000 in
set_option maxHeartbeats 1000000 in
/-- (M).Copy. -/
theorem mcopy_any (R C : Int) (A : Value) (T : List Nat) (w : World) (hA : FS w A T) (hl : T.length ≤ 1000000) :
   Calls Try.prog 140 #[.agg #[.int .i64 R, .int .i64 C, A]] w (fun e w' => ∃ v, e = .returned (.agg #[.int .i64 R, .int .i64 C, v]) ∧ WS w' w.heap.size v T ∧ ∃ o n, w' = ext w o n) := by
  obtain ⟨aA, cA, rfl⟩ := hA.shape
  go_enter Try.func140, Try.ntmps140
  refine seq_stop ?_
  go_wp2
  refine stop_go (fun W hW => ?_)
  have s1 : w.heap.size < W.heap.size := by rw [hW]; simp only [World.size_alloc]; omega
  have b1 : ∀ i, W.cell? ⟨w.heap.size, i, none⟩ = (#[.int .i64 R, .int .i64 C, .slice aA T.length cA] : Array Value)[i]? := by intro i; rw [hW]; go_simp
  have f1 : ∀ i, W.frozen? ⟨w.heap.size, i, none⟩ = false := by intro i; rw [hW]; go_simp
  have s2 : w.heap.size + 1 < W.heap.size := by rw [hW]; simp only [World.size_alloc]; omega
  have b2 : ∀ i, W.cell? ⟨w.heap.size + 1, i, none⟩ = (#[.int .i64 0, .int .i64 0, .slice none 0 0] : Array Value)[i]? := by intro i; rw [hW]; go_simp
  have f2 : ∀ i, W.frozen? ⟨w.heap.size + 1, i, none⟩ = false := by intro i; rw [hW]; go_simp
  have g0 : Grew w W := by rw [hW]; exact ((Grew.refl _).alloc _).alloc _
  clear hW
  have hAW : FS W (.slice aA T.length cA) T := hA.grew g0
  go_wp2
  refine wp_region_R (Grew W) [9] [(3,0), (0,1), (3,2), (0,3), (3,5), (0,6), (1,4), (1,7), (0,8), (2,9)] (by kernel_rfl) (by kernel_rfl) (fun _ _ _ _ h _ => h) (by first | exact ⟨_, _, ext_drew⟩ | exact ⟨_, _, drew_ext0⟩ | (show Grew _ _; repeat (first | (with_reducible exact Grew.refl _) | (with_reducible assumption) | (with_reducible exact Grew.same_o) | (with_reducible exact Grew.app_o) | (with_reducible refine Grew.ext ?_ _ _) | (with_reducible refine Grew.alloc ?_ _) | ((with_reducible refine Grew.setCell ?_ ?_ _); rotate_left; (focus (dsimp only; first | omega | (simp only [size_ext, World.size_alloc, Array.size_append]; omega)))) | (with_reducible refine Grew.drewN ?_ _) | (with_reducible refine Grew.drew ?_)))) ?_
  refine name_any (fun W2 hW2 => ?_)
  have g2 : Grew W W2 := by rw [← hW2]; (show Grew _ _; repeat (first | (with_reducible exact Grew.refl _) | (with_reducible assumption) | (with_reducible exact Grew.same_o) | (with_reducible exact Grew.app_o) | (with_reducible refine Grew.ext ?_ _ _) | (with_reducible refine Grew.alloc ?_ _) | ((with_reducible refine Grew.setCell ?_ ?_ _); rotate_left; (focus (dsimp only; first | omega | (simp only [size_ext, World.size_alloc, Array.size_append]; omega)))) | (with_reducible refine Grew.drewN ?_ _) | (with_reducible refine Grew.drew ?_)))
  have hAW2 := hAW.grew g2
  have gww : Grew w W2 := g0.trans g2
  have zW := g0.below.size
  have z2 := g2.below.size
  have b12 := fun i => (g2.cell s1).trans (b1 i)
  have b22 := fun i => (g2.cell s2).trans (b2 i)
  have f22 := fun i => (g2.frozen s2).trans (f2 i)
  have s12 : w.heap.size < W2.heap.size := by omega
  have s22 : w.heap.size + 1 < W2.heap.size := by omega
  clear hW2
  go_wp2_with (first | ((with_reducible refine wpR_id ?_); refine wpR_do rfl rfl (fun K hK => ?_); (with_reducible refine wp_app ?_); refine appendN_K finfo (Grew.refl W2 |>.alloc _) (OwnF.empty rfl (Nat.le_refl _)) (FS.alloc hAW2 _) (by simp; omega) _ _ rfl rfl rfl rfl ?_; intro v oo nn ho hn; obtain ⟨g, cap, rfl, hg, hF, hL⟩ := ho.ws (hn notnil) (by simp; omega); simp only [List.nil_append] at hF hL) | ((with_reducible refine wpR_id ?_); first | (refine wpR_take (v := ?_) rfl rfl ?_ ?_; rotate_left; (focus (rintro w' ⟨o', n', rfl⟩; go_simp; try with_reducible rfl)); simp only [Act.put, List.setIfInBounds_toArray, List.set_cons_zero, List.set_cons_succ]) | (refine wpR_pure (v := ?_) rfl rfl ?_ ?_; rotate_left; (focus (intro w'; go_simp; try with_reducible rfl)); simp only [Act.put, List.setIfInBounds_toArray, List.set_cons_zero, List.set_cons_succ]) | (refine wpR_takeG (v := ?_) rfl rfl rfl rfl rfl ?_ ?_; rotate_left; (focus (rintro w' ⟨o', n', rfl⟩; go_simp; try with_reducible rfl)); simp only [Act.put, List.setIfInBounds_toArray, List.set_cons_zero, List.set_cons_succ]) | (refine wpR_skip rfl rfl rfl rfl rfl rfl ?_; simp only [Act.put, List.setIfInBounds_toArray, List.set_cons_zero, List.set_cons_succ]) | (refine wpR_skipU rfl rfl rfl rfl rfl ?_; simp only [Act.put, List.setIfInBounds_toArray, List.set_cons_zero, List.set_cons_succ]) | (refine wpR_do rfl rfl (fun K hK => ?_)) | (refine wpR_doG rfl rfl rfl rfl rfl (fun K hK => ?_)) | (refine wpR_last rfl rfl (fun K hK => ?_)) | (refine wpR_nil ?_)) | ((with_reducible refine wpR_go ?_ ?_); (focus (show Grew _ _; repeat (first | (with_reducible exact Grew.refl _) | (with_reducible assumption) | (with_reducible exact Grew.same_o) | (with_reducible exact Grew.app_o) | (with_reducible refine Grew.ext ?_ _ _) | (with_reducible refine Grew.alloc ?_ _) | ((with_reducible refine Grew.setCell ?_ ?_ _); rotate_left; (focus (dsimp only; first | omega | (simp only [size_ext, World.size_alloc, Array.size_append]; omega)))) | (with_reducible refine Grew.drewN ?_ _) | (with_reducible refine Grew.drew ?_))))) | ((with_reducible refine upon_id ?_); refine upon_fop rfl (by assumption) (by assumption) ?_; intro rr nn hr))
  refine bodyPost_ret (v := .agg #[.int .i64 R, .int .i64 C, .slice (some ⟨g, 0, none⟩) T.length cap]) (by simp [results, Try.results140, go_sem, *]) rfl ?_
  exact ⟨_, rfl, ⟨g, cap, rfl, by omega, by (repeat (first | (with_reducible assumption) | ((with_reducible refine FW.ext_set ?_ ?_ ?_ _); rotate_left; (focus (simp only [size_setCell', World.size_alloc, size_ext, size_upd]; omega)); (focus (dsimp only; omega))) | ((with_reducible refine FW.setCell_ne ?_ ?_ _); rotate_left; (focus (dsimp only; omega))) | (with_reducible refine FW.ext ?_ _ _) | (with_reducible refine FW.alloc ?_ _))), hL⟩, by (show Grew _ _; repeat (first | (with_reducible exact Grew.refl _) | (with_reducible assumption) | (with_reducible exact Grew.same_o) | (with_reducible exact Grew.app_o) | (with_reducible refine Grew.ext ?_ _ _) | (with_reducible refine Grew.alloc ?_ _) | ((with_reducible refine Grew.setCell ?_ ?_ _); rotate_left; (focus (dsimp only; first | omega | (simp only [size_ext, World.size_alloc, Array.size_append]; omega)))) | (with_reducible refine Grew.drewN ?_ _) | (with_reducible refine Grew.drew ?_)))⟩
/-- Row by row: what is done up to (i, j). -/
def stepR (F s : Nat → Nat → Nat) (i j : Nat) (r c : Nat) : Nat := if r < i ∨ (r = i ∧ c < j) then F r c else s r c
def rgerF (α : Nat) (lx ly : List Nat) (M : Nat → Nat → Nat) (i j : Nat) : Nat := fadd (M i j) (fmul (fmul α (ly.getD j 0)) (lx.getD i 0))
set_option maxRecDepth 100000 in
set_option maxHeartbeats 4000000 in
/-- straightedgeref08.Ger. -/
theorem rger_any (a α R C : Nat) (T lx ly : List Nat) (M : Nat → Nat → Nat) (A X Y : Value) (w : World) (ha : IsF a α) (hA : FS w A T) (hX : FS w X lx) (hY : FS w Y ly) (hx : lx.length = R) (hy : ly.length = C) (hT : T.length = R * C) (hM : Hold (fun i j => i * C + j) R C T T M) (hR : R ≤ 1000) (hC : C ≤ 1000) :
   Calls Try.prog 60 #[.float .f64 a, X, Y, .agg #[.int .i64 R, .int .i64 C, A]] w (fun e w' => ∃ v t, e = .returned (.agg #[.int .i64 R, .int .i64 C, v]) ∧ WS w' w.heap.size v t ∧ Hold (fun i j => i * C + j) R C T t (rgerF α lx ly M) ∧ ∃ o n, w' = ext w o n) := by
  have hRC : R * C ≤ 1000 * 1000 := Nat.mul_le_mul hR hC
  have hpl : Places (fun i j => i * C + j) R C T.length := by rw [hT]; exact tabPlaces R C
  have HT := hid hT
  have Hx := hid hx
  have Hy := hid hy
  obtain ⟨aA, cA, rfl⟩ := hA.shape
  obtain ⟨aX, cX, rfl⟩ := hX.shape
  obtain ⟨aY, cY, rfl⟩ := hY.shape
  have hat : ∀ i j : Nat, i < R → j < C → ∀ w', FS w' (.slice aA T.length cA) T → Calls Try.prog 72 #[.agg #[.int .i64 R, .int .i64 C, .slice aA T.length cA], .int .i64 i, .int .i64 j] w' (fun e w2 => ∃ b, e = .returned (.float .f64 b) ∧ IsF b (M i j) ∧ ∃ o n, w2 = ext w' o n) := fun i j hi hj w' h => by
    have := rat_any R C i j (.slice aA T.length cA) T w' h hR hC (by omega) (by omega) (by rw [hT]; exact at_lt hi hj)
    rw [hM.get i j hi hj] at this; exact this
  have hcp : ∀ w', FS w' (.slice aA T.length cA) T → Calls Try.prog 140 #[.agg #[.int .i64 R, .int .i64 C, .slice aA T.length cA]] w' (fun e w2 => ∃ v, e = .returned (.agg #[.int .i64 R, .int .i64 C, v]) ∧ WS w2 w'.heap.size v T ∧ ∃ o n, w2 = ext w' o n) := fun w' h => mcopy_any R C _ T w' h (by omega)
  clear hT hx hy
  go_enter Try.func60, Try.ntmps60
  refine seq_stop ?_
  go_wp2
  refine stop_go (fun W hW => ?_)
  have s1 : w.heap.size < W.heap.size := by rw [hW]; simp only [World.size_alloc]; omega
  have b1 : ∀ i, W.cell? ⟨w.heap.size, i, none⟩ = (#[.int .i64 R, .int .i64 C, .slice aA T.length cA] : Array Value)[i]? := by intro i; rw [hW]; go_simp
  have f1 : ∀ i, W.frozen? ⟨w.heap.size, i, none⟩ = false := by intro i; rw [hW]; go_simp
  have s2 : w.heap.size + 1 < W.heap.size := by rw [hW]; simp only [World.size_alloc]; omega
  have b2 : ∀ i, W.cell? ⟨w.heap.size + 1, i, none⟩ = (#[.int .i64 0, .int .i64 0, .slice none 0 0] : Array Value)[i]? := by intro i; rw [hW]; go_simp
  have f2 : ∀ i, W.frozen? ⟨w.heap.size + 1, i, none⟩ = false := by intro i; rw [hW]; go_simp
  have g0 : Grew w W := by rw [hW]; exact ((Grew.refl _).alloc _).alloc _
  clear hW
  have hAW := hA.grew g0
  have hXW := hX.grew g0
  have hYW := hY.grew g0
  go_wp2_with (first | (go_at_call 140; ((with_reducible refine (hcp _ hAW).mono ?_); rintro e w1 ⟨v, rfl, ⟨g, cap, rfl, hg, hF, hgl⟩, oc, nc, rfl⟩)))
  refine name_any (fun V hV => ?_)
  have gV : Grew W V := by rw [← hV]; (show Grew _ _; repeat (first | (with_reducible exact Grew.refl _) | (with_reducible assumption) | (with_reducible exact Grew.same_o) | (with_reducible exact Grew.app_o) | (with_reducible refine Grew.ext ?_ _ _) | (with_reducible refine Grew.alloc ?_ _) | ((with_reducible refine Grew.setCell ?_ ?_ _); rotate_left; (focus (dsimp only; first | omega | (simp only [size_ext, World.size_alloc, Array.size_append]; omega)))) | (with_reducible refine Grew.drewN ?_ _) | (with_reducible refine Grew.drew ?_)))
  have zw := g0.below.size
  have zV := gV.below.size
  have hFV : FW V g T := by rw [← hV]; (repeat (first | (with_reducible assumption) | ((with_reducible refine FW.ext_set ?_ ?_ ?_ _); rotate_left; (focus (simp only [size_setCell', World.size_alloc, size_ext, size_upd]; omega)); (focus (dsimp only; omega))) | ((with_reducible refine FW.setCell_ne ?_ ?_ _); rotate_left; (focus (dsimp only; omega))) | (with_reducible refine FW.ext ?_ _ _) | (with_reducible refine FW.alloc ?_ _)))
  have cT : ∀ i, V.cell? ⟨W.heap.size + oc.size, i, none⟩ = (#[.int .i64 R, .int .i64 C, .slice (some ⟨g, 0, none⟩) T.length cap] : Array Value)[i]? := by subst hV; intro i; go_simp
  have kT : W.heap.size + oc.size < V.heap.size := by rw [← hV]; simp only [World.size_alloc, size_ext]; omega
  have ngT : W.heap.size + oc.size ≠ g := by have := hF.lt; simp only [size_ext] at this; omega
  obtain ⟨U, hU⟩ : ∃ U, W.heap.size + oc.size = U := ⟨_, rfl⟩
  have zU : W.heap.size ≤ U := by omega
  rw [hU] at cT kT ngT
  simp only [hU]
  have hG : ∀ k ∈ [g], W.heap.size ≤ k := by intro k hk; simp at hk; omega
  have hDu := But.fs gV hAW hG
  have hXu := But.fs gV hXW hG
  have hYu := But.fs gV hYW hG
  have c1 := But.boxW gV s1 b1 hG
  have c2 := But.boxW gV s2 b2 hG
  have z2 : ∀ w', But V [g] w' → ∀ i, w'.frozen? ⟨w.heap.size + 1, i, none⟩ = false := fun w' hb i => by
    have h1 := hb.block (w.heap.size + 1) (by omega) (by simp; omega)
    have h2 := (gV.frozen s2).trans (f2 i)
    unfold World.frozen? at h2 ⊢; simp only [h1] at h2 ⊢; exact h2
  have cU : ∀ w', But V [g] w' → ∀ i, w'.cell? ⟨U, i, none⟩ = (#[.int .i64 R, .int .i64 C, .slice (some ⟨g, 0, none⟩) T.length cap] : Array Value)[i]? := fun w' h i => (h.cell kT (by simpa using ngT)).trans (cT i)
  have kV : w.heap.size < V.heap.size := by omega
  have kV2 : w.heap.size + 1 < V.heap.size := by omega
  clear hV hU cT b1 b2 f1 f2 hF hcp
  go_loopw [10] (fun c wr => ∃ (i : Nat) (L : List Nat), i ≤ R ∧ c = .int .i64 i ∧ But V [g] wr ∧ FW wr g L ∧ Hold (fun i j => i * C + j) R C T L (stepR (rgerF α lx ly M) M i 0)) (fun c _ => R - (intOf c).toNat)
  case atStart => exact ⟨0, T, Nat.zero_le _, rfl, But.refl _ _, hFV, hM.congr fun i j _ _ => by simp [stepR]⟩
  case round =>
    obtain ⟨i, L, hi, rfl, hB, hL, hH⟩ := hrel
    have t1 := c1 _ hB
    have sB := hB.size
    have x1 : w.heap.size < wr.heap.size := by omega
    by_cases hlt : (i : Int) < R
    · have hiR : i < R := by omega
      go_wp2
      go_loopw [11] (fun c wr => ∃ (j : Nat) (L : List Nat), j ≤ C ∧ c = .int .i64 j ∧ But V [g] wr ∧ FW wr g L ∧ Hold (fun i j => i * C + j) R C T L (stepR (rgerF α lx ly M) M i j)) (fun c _ => C - (intOf c).toNat)
      case atStart => exact ⟨0, L, Nat.zero_le _, rfl, hB, hL, hH⟩
      case round =>
        obtain ⟨j, L2, hj, rfl, hB2, hL2, hH2⟩ := hrel
        have t1 := c1 _ hB2
        have tU := cU _ hB2
        have sB := hB2.size
        have x1 : w.heap.size < wr.heap.size := by omega
        have xU : U < wr.heap.size := by omega
        by_cases hl2 : (j : Int) < C
        · have hjC : j < C := by omega
          have hatij := hat i j hiR hjC
          have hgd := hH2.get i j hiR hjC
          have hset : ∀ w' r z, FW w' g L2 → IsF r z → Calls Try.prog 134 #[.agg #[.int .i64 R, .int .i64 C, .slice (some ⟨g, 0, none⟩) T.length cap], .int .i64 i, .int .i64 j, .float .f64 r] w' (fun e w2 => e = .returned (.tuple #[]) ∧ Wrote w' w2 g (L2.set (i * C + j) z)) := fun w' r z h1 h2 =>
            rset_any R C i j g cap T.length r z L2 w' h1 h2 hH2.len.symm hR hC (by omega) (by omega) (by rw [hH2.len, HT.out]; exact at_lt hiR hjC)
          obtain ⟨bx, ox, hax, hkx, hcx⟩ := hXW.at.2 (by rw [Hx.out]; omega)
          obtain ⟨rx, hrx, hfx⟩ := hcx i (by rw [Hx.out]; omega)
          obtain ⟨bz, oz, haz, hkz, hcz⟩ := hYW.at.2 (by rw [Hy.out]; omega)
          obtain ⟨ry, hry, hfy⟩ := hcz j (by rw [Hy.out]; omega)
          subst hax haz
          have lx1 : (i : Int) < lx.length := by rw [Hx.out]; omega
          have ly1 : (j : Int) < ly.length := by rw [Hy.out]; omega
          have crx : ∀ w', But V [g] w' → w'.cell? ⟨bx, ox + i, none⟩ = some (.float .f64 rx) := fun w' h => (h.cell (by omega) (by simp; omega)).trans ((gV.cell hkx).trans hrx)
          have cry : ∀ w', But V [g] w' → w'.cell? ⟨bz, oz + j, none⟩ = some (.float .f64 ry) := fun w' h => (h.cell (by omega) (by simp; omega)).trans ((gV.cell hkz).trans hry)
          clear hcx hcz hrx hry
          go_wp2
          refine wp_region_R (But V [g]) [] [(0,0), (0,1), (0,2), (0,3), (0,4), (0,5), (0,7), (0,8), (0,9), (0,10), (0,11), (0,13), (0,14), (0,15), (0,16), (1,6), (1,12), (1,17), (1,18), (1,19)] (by kernel_rfl) (by kernel_rfl) (fun _ _ _ _ h _ => h) (hB2.grew ((Grew.refl _).drew)) ?_
          refine name_any (fun V6 hV6 => ?_)
          have hg6 : Grew wr V6 := by rw [← hV6]; (show Grew _ _; repeat (first | (with_reducible exact Grew.refl _) | (with_reducible assumption) | (with_reducible exact Grew.same_o) | (with_reducible exact Grew.app_o) | (with_reducible refine Grew.ext ?_ _ _) | (with_reducible refine Grew.alloc ?_ _) | ((with_reducible refine Grew.setCell ?_ ?_ _); rotate_left; (focus (dsimp only; first | omega | (simp only [size_ext, World.size_alloc, Array.size_append]; omega)))) | (with_reducible refine Grew.drewN ?_ _) | (with_reducible refine Grew.drew ?_)))
          have B6 := hB2.grew hg6
          have F6 := hL2.grew hg6
          clear hV6 hg6
          go_wp2_with (first | ((with_reducible refine wpR_id ?_); first | (refine wpR_take (v := ?_) rfl rfl ?_ ?_; rotate_left; (focus (intro w' hw'; go_simp; try with_reducible rfl)); simp only [Act.put, List.setIfInBounds_toArray, List.set_cons_zero, List.set_cons_succ]) | (refine wpR_pure (v := ?_) rfl rfl ?_ ?_; rotate_left; (focus (intro w'; go_simp; try with_reducible rfl)); simp only [Act.put, List.setIfInBounds_toArray, List.set_cons_zero, List.set_cons_succ]) | (refine wpR_takeG (v := ?_) rfl rfl rfl rfl rfl ?_ ?_; rotate_left; (focus (intro w' hw'; go_simp; try with_reducible rfl)); simp only [Act.put, List.setIfInBounds_toArray, List.set_cons_zero, List.set_cons_succ]) | (refine wpR_skip rfl rfl rfl rfl rfl rfl ?_; simp only [Act.put, List.setIfInBounds_toArray, List.set_cons_zero, List.set_cons_succ]) | (refine wpR_skipU rfl rfl rfl rfl rfl ?_; simp only [Act.put, List.setIfInBounds_toArray, List.set_cons_zero, List.set_cons_succ]) | (refine wpR_do rfl rfl (fun K hK => ?_)) | (refine wpR_doG rfl rfl rfl rfl rfl (fun K hK => ?_)) | (refine wpR_last rfl rfl (fun K hK => ?_)) | (refine wpR_nil ?_)) | ((with_reducible refine wpR_go ?_ ?_); (focus (with_reducible assumption))) | ((with_reducible refine upon_id ?_); refine upon_fop rfl (by assumption) (by assumption) ?_; intro rr nn hr) | (go_at_call 72; ((with_reducible refine (hatij _ (hDu _ (by assumption))).mono ?_); rintro e w1 ⟨r1, rfl, hr1, hw1⟩; (have B7 := B6.grew hw1; have F7 := F6.grew hw1))) | (go_at_call 141; ((with_reducible refine (times_any a ry α _ _ ha hfy).mono ?_); rintro e w1 ⟨r2, rfl, hr2, hw2⟩; (have B8 := B7.grew hw2; have F8 := F7.grew hw2))) | (go_at_call 141; ((with_reducible refine (times_any r2 rx _ _ _ hr2 hfx).mono ?_); rintro e w1 ⟨r3, rfl, hr3, hw3⟩; (have B9 := B8.grew hw3; have F9 := F8.grew hw3))) | (go_at_call 36; ((with_reducible refine (plus_any r1 r3 _ _ _ hr1 hr3).mono ?_); rintro e w1 ⟨r4, rfl, hr4, hw4⟩; (have B10 := B9.grew hw4; have F10 := F9.grew hw4))) | (go_at_call 134; ((with_reducible refine (hset _ r4 _ F10 hr4).mono ?_); rintro e w1 ⟨rfl, hw5⟩; (have B11 := B10.wrote hw5 (.inl (by simp))))))
          go_roundw
          case rel =>
            refine ⟨j + 1, _, by omega, by go_num, B11, hw5.fw F10, (hH2.set hpl hiR hjC).congr fun r c hr hc => ?_⟩
            unfold stepR
            by_cases hrc : r = i ∧ c = j
            · obtain ⟨rfl, rfl⟩ := hrc
              simp [rgerF]
            · rw [if_neg hrc]
              by_cases h2 : r < i ∨ (r = i ∧ c < j)
              · rw [if_pos h2, if_pos (by omega)]
              · rw [if_neg h2, if_neg (by omega)]
          case measure => simp [intOf]; omega
        · have e : j = C := by omega
          go_wp2
          go_roundw
          case rel =>
            refine ⟨i + 1, L2, by omega, by go_num, hB2, hL2, hH2.congr fun r c hr hc => ?_⟩
            unfold stepR
            by_cases h2 : r < i ∨ (r = i ∧ c < j)
            · rw [if_pos h2, if_pos (by omega)]
            · rw [if_neg h2, if_neg (by omega)]
          case measure => simp [intOf]; omega
    · have e : i = R := by omega
      have t2 := c2 _ hB
      have tU := cU _ hB
      have zz := z2 _ hB
      have x2 : w.heap.size + 1 < wr.heap.size := by omega
      have xU : U < wr.heap.size := by omega
      go_wp2
      refine bodyPost_ret (v := .agg #[.int .i64 R, .int .i64 C, .slice (some ⟨g, 0, none⟩) T.length cap]) (by simp [results, Try.results60, go_sem, *]) rfl ?_
      have gwr : Grew w wr := g0.trans (hB.grew0 gV hG)
      have hlL : L.length = T.length := hH.len
      refine ⟨_, rfl, L, ⟨g, cap, by rw [hlL], by omega, by (repeat (first | (with_reducible assumption) | ((with_reducible refine FW.ext_set ?_ ?_ ?_ _); rotate_left; (focus (simp only [size_setCell', World.size_alloc, size_ext, size_upd]; omega)); (focus (dsimp only; omega))) | ((with_reducible refine FW.setCell_ne ?_ ?_ _); rotate_left; (focus (dsimp only; omega))) | (with_reducible refine FW.ext ?_ _ _) | (with_reducible refine FW.alloc ?_ _))), by rw [hlL]; omega⟩, hH.congr fun r c hr hc => ?_, by (show Grew _ _; repeat (first | (with_reducible exact Grew.refl _) | (with_reducible assumption) | (with_reducible exact Grew.same_o) | (with_reducible exact Grew.app_o) | (with_reducible refine Grew.ext ?_ _ _) | (with_reducible refine Grew.alloc ?_ _) | ((with_reducible refine Grew.setCell ?_ ?_ _); rotate_left; (focus (dsimp only; first | omega | (simp only [size_ext, World.size_alloc, Array.size_append]; omega)))) | (with_reducible refine Grew.drewN ?_ _) | (with_reducible refine Grew.drew ?_)))⟩
      unfold stepR
      rw [if_pos (by omega)]
end Go.Proofs.Ytcmggfpcbijcjaa
end
section
/-
  Appends, and what stays beside them.
-/
set_option linter.unusedSimpArgs false
set_option linter.unusedVariables false
namespace Sedge
open Go Go.RowKit
section
variable {P : Program} {ops : Array Oper} {rest : List Oper} {o : Oper} {a : Act} {Q : Exit → Act → World → Prop}
theorem append1_k {t e e' : TypeId} {z0 : Value} (und : P.underlying t = some (.slice e)) (info : (P.info? e).map (fun i => (i.zero, i.size, i.bytes)) = some (some z0, 1, 8)) (hz0 : z0.cells.size = 1)
    {W w : World} (hW : Grew W w) {v y : Value} {xs : List Value} (hown : w.ownsRow W.heap.size e 1 v xs.length xs) (hy : y.oneCell' = true)
    (hlen : xs.length < 17592186044415) (s x : Operand) (hg : o.guard = none)
    (ho : o.op = .call { callee := .builtin .append, args := #[s, x], argTypes := #[t, t] }) (hs : a.eval s = v) {k : Nat} (hk : k = w.heap.size) (hx : a.eval x = .slice (some ⟨k, 0, none⟩) 1 1)
    (h : ∀ v' w', Grew W w' → w.heap.size ≤ w'.heap.size → w'.ownsRow W.heap.size e 1 v' (xs.length + 1) (xs ++ [y]) →
      (∀ k, k < w.heap.size → v.ownBlock ≠ some k → w'.heap[k]? = w.heap[k]?) → (∀ k, v'.ownBlock = some k → v.ownBlock = some k ∨ w.heap.size ≤ k) → wpList P ops Q rest (a.put o.dst v') w') :
    wpList P ops Q (o :: rest) a (w.alloc (.cells #[y] e')) := by
  subst hk
  obtain ⟨i0, hi, hz⟩ := Option.map_eq_some_iff.1 info
  simp only [Prod.mk.injEq] at hz
  obtain ⟨hz1, hz2, hz3⟩ := hz
  have hgA : Grew w (w.alloc (.cells #[y] e')) := (Grew.refl w).alloc _
  have keep : ∀ e2 u n2 ys (w' : World), w.ownsRow W.heap.size e2 1 u n2 ys → (∀ k, u.ownBlock = some k → w'.heap[k]? = w.heap[k]?) → w'.ownsRow W.heap.size e2 1 u n2 ys := fun e2 u n2 ys w' hu hk => by
    obtain ⟨h1, h2⟩ := hu
    refine ⟨h1, ?_⟩
    rcases h2 with h2 | ⟨g, cap, cur, rfl, hB, hh, r⟩
    · exact .inl h2
    · exact .inr ⟨g, cap, cur, rfl, hB, by rw [hk g rfl]; exact hh, r⟩
  have hown' := keep _ _ _ _ (w.alloc (.cells #[y] e')) hown (fun k hk => hgA.below.block k (hown.lt k hk).2)
  refine wpList_append_own_at _ hg s x t ho W.heap.size e i0 z0 1 8 und hi hz1 hz2 hz3 hz0 (by decide) v xs.length xs hs hown' ⟨w.heap.size, 0, none⟩ 1 1 [y] hx rfl ?_ ?_ ?_ ?_ ?_ ?_
  · intro j u hj
    match j, hj with
    | 0, hj =>
      simp at hj; subst hj
      have e1 : (⟨w.heap.size, 0, none⟩ : Addr).add 0 = ⟨w.heap.size, 0, none⟩ := by simp [Addr.add]
      rw [e1, World.cell?_alloc_new]; rfl
  · intro u hu; simp at hu; subst hu; exact hy
  · simp [maxLen]; omega
  · omega
  · have := hW.below.size; simp; omega
  · intro v' w' ho2 hgr hnn hloc
    have hG := grew_grown (hW.alloc (.cells #[y] e')) hgr (fun k hk => (hown.lt k hk).1)
    refine h v' w' hG (Nat.le_trans hgA.below.size hgr.size) ho2 (fun k hk hne => ?_) (fun k hk => ?_)
    · exact (hgr.block k (Nat.lt_of_lt_of_le hk hgA.below.size) (fun e => hne e.symm)).trans (hgA.below.block k hk)
    · rcases hloc with h1 | h1
      · rw [h1] at hk; exact .inl hk
      · rw [h1] at hk; simp at hk; right; omega
/-- 'append' of one float, and what stays. -/
theorem append1_fk {t e e' : TypeId} (T : ElemF P t e) {W w : World} (hW : Grew W w) {v : Value} {xs : List Nat} (hown : OwnF e w W.heap.size v xs) {b y : Nat} (hy : IsF b y)
    (hlen : xs.length < 17592186044415) (s x : Operand) (hg : o.guard = none)
    (ho : o.op = .call { callee := .builtin .append, args := #[s, x], argTypes := #[t, t] }) (hs : a.eval s = v) {k : Nat} (hk : k = w.heap.size) (hx : a.eval x = .slice (some ⟨k, 0, none⟩) 1 1)
    (h : ∀ v' w', Grew W w' → w.heap.size ≤ w'.heap.size → OwnF e w' W.heap.size v' (xs ++ [y]) →
      (∀ k, k < w.heap.size → v.ownBlock ≠ some k → w'.heap[k]? = w.heap[k]?) → (∀ k, v'.ownBlock = some k → v.ownBlock = some k ∨ w.heap.size ≤ k) → wpList P ops Q rest (a.put o.dst v') w') :
    wpList P ops Q (o :: rest) a (w.alloc (.cells #[.float .f64 b] e')) := by
  obtain ⟨bs, ho1, rfl, hb⟩ := hown
  refine append1_k T.und T.info rfl hW (xs := bs.map (Value.float .f64)) (by simpa using ho1) rfl (by simpa using hlen) s x hg ho hs hk hx ?_
  intro v' w' h1 h2 h3 h4 h5
  refine h v' w' h1 h2 ⟨bs ++ [b], by simpa using h3, by simp [hy.2], fun z hz => ?_⟩ h4 h5
  rcases List.mem_append.1 hz with hz | hz
  · exact hb z hz
  · simp at hz; subst hz; exact hy.1
end
end Sedge
namespace Go.Proofs.Ytcmggfpcbijcjaa
open Go Go.RowKit Sedge
theorem iinfoK : (Try.prog.info? 3).map (fun i => (i.zero, i.size, i.bytes)) = some (some (Value.int .i64 0), 1, 8) := by kernel_rfl
theorem iundK : Try.prog.underlying 30 = some (.slice 3) := by kernel_rfl
section
variable {P : Program} {o : Oper} {a : Act} {w : World} {K : Act → World → Prop} {Q : Exit → Act → World → Prop}
theorem wp_mk {d : Option Tmp} {t : TypeId} {l c : Operand} {ty : TypeId} {ps : String} {aft : Array Edge} (h : Oper.wp P { dst := d, op := .makeSlice t l c, type := ty, pos := ps, after := aft, guard := none } a w K Q) : Oper.wp P { dst := d, op := .makeSlice t l c, type := ty, pos := ps, after := aft, guard := none } a w K Q := h
/-- 'make([]float64, n)', in a region that draws its order. -/
theorem make_K {t e : TypeId} (T : ElemF P t e) {W : World} (hW : Grew W w) (l c : Operand) (hg : o.guard = none) (hop : o.op = Op.makeSlice t l c) (n : Nat) {L : Int} (hL : L = n) (hl : a.eval l = .int .i64 L) (hc : a.eval c = .int .i64 L)
    (hn : n ≤ 17592186044415)
    (h : ∀ oo nn k, W.heap.size ≤ k → OwnF e (ext W oo nn) W.heap.size (.slice (some ⟨k, 0, none⟩) n n) (List.replicate n 0) → K (a.put o.dst (.slice (some ⟨k, 0, none⟩) n n)) (ext W oo nn)) : o.wp P a w K Q := by
  have h1 := make_f (P := P) (ops := #[]) (Q := fun e a w => e = .normal ∧ K a w) (rest := []) T hW l c hg hop n hL hl hc hn (fun oo nn k h1 h2 => ⟨rfl, h oo nn k h1 h2⟩)
  unfold wpList at h1
  rw [if_pos (wanted_none hg)] at h1
  rcases h1 with h1 | ⟨_, _, _, h2, _⟩
  · exact wp_any (Oper.wp_mono (fun a w hh => hh.2) h1)
  · cases h2
end
end Go.Proofs.Ytcmggfpcbijcjaa
end
section
/-
  Contracts: equil.list, view.Numbers, move.Finite, equil.greatest.
-/
set_option linter.unusedSimpArgs false
set_option linter.unusedVariables false
open Go Go.RowKit Sedge
namespace Go.Proofs.Ytcmggfpcbijcjaa
set_option maxRecDepth 100000 in
set_option maxHeartbeats 1000000 in
/-- equil.list. -/
theorem elist_any (x : VecM) (D : Value) (w : World) (hD : FS w D x.ws) (hx : x.right = true) (hwf : x.wf) (hl : x.ws.length ≤ 1000000) :
   Calls Try.prog 176 #[.agg #[D, .int .i64 x.off, .int .i64 x.n, .int .i64 x.inc]] w
     (fun e w' => ∃ v, e = .returned v ∧ FS w' v x.list ∧ ∃ o n, w' = ext w o n) := by
  have hn := VecM.right_n hx
  have hn2 := hwf.2.1.2
  have hnl := VecM.right_nle hx hl
  have Hx := hid hx
  have Hn := hid hn
  have Hn2 := hid hn2
  have Hnl := hid hnl
  clear hx hn hwf hn2 hnl
  go_enter Try.func176, Try.ntmps176
  refine seq_stop ?_
  go_wp2
  refine stop_go (fun W hW => ?_)
  have s1 : w.heap.size < W.heap.size := by rw [hW]; simp only [World.size_alloc]; omega
  have b1 : ∀ i, W.cell? ⟨w.heap.size, i, none⟩ = (#[D, .int .i64 x.off, .int .i64 x.n, .int .i64 x.inc] : Array Value)[i]? := by intro i; rw [hW]; go_simp
  have g0 : Grew w W := by rw [hW]; exact (Grew.refl _).alloc _
  clear hW
  have hDW : FS W D x.ws := hD.grew g0
  go_wp2
  go_loopw [3, 7] (fun v c wr => ∃ (i : Nat) (o : Array Obj) (n : Nat), (i : Int) ≤ x.n ∧ c = .int .i64 i ∧ wr = ext W o n ∧ OwnF 22 wr W.heap.size v (listTo x i)) (fun _ c _ => x.n.toNat - (intOf c).toNat)
  case atStart => exact ⟨0, #[], _, Hn.out.1, rfl, ext_zero.symm, by simpa [listTo] using OwnF.nil _ _ _⟩
  case round =>
    obtain ⟨i, o2, n2, hi, rfl, hwr, hown⟩ := hrel
    subst hwr
    by_cases hlt : (i : Int) < x.n
    · have hp := VecM.right_place Hx.out hlt
      have hnl := Hnl.out
      have hN := Hn.out
      have h2 : IntKind.i64.wrap (i * x.inc) = i * x.inc := IntWalk.i64_in _ (by omega)
      have h3 : IntKind.i64.wrap (x.off + i * x.inc) = x.off + i * x.inc := IntWalk.i64_in _ (by omega)
      obtain ⟨blk, o, cap', rfl, hblk, hc⟩ := hDW.open (by omega)
      obtain ⟨b, hb, hf⟩ := hc (x.place i) (by unfold VecM.place; omega)
      unfold VecM.place at hb
      have hf' : IsF b (x.num i) := hf
      have hll : (listTo x i).length = i := by simp [listTo]
      clear hc
      go_wp2_with (at_builtin; refine append1_f finfo (((Grew.refl W).ext _ _)) hown hf' (by rw [hll]; omega) _ _ rfl rfl rfl (by simp only [size_ext]) rfl ?_; intro v oo nn ho hn)
      go_roundw
      case rel => exact ⟨i + 1, oo, nn, by omega, by go_num, rfl, by rw [listTo_succ]; exact ho⟩
      case measure => simp [intOf]; omega
    · have e : x.n.toNat = i := by have := Hn.out; omega
      have hown' := hown
      rw [show listTo x i = x.list by unfold listTo VecM.list; rw [e]] at hown'
      have hfs := hown'.fs (by rw [VecM.list_length]; have := Hnl.out; omega)
      go_wp2
      go_ret
      exact ⟨_, rfl, hfs, by (show Grew _ _; repeat (first | (with_reducible exact Grew.refl _) | (with_reducible assumption) | (with_reducible exact Grew.same_o) | (with_reducible exact Grew.app_o) | (with_reducible refine Grew.ext ?_ _ _) | (with_reducible refine Grew.alloc ?_ _) | ((with_reducible refine Grew.setCell ?_ ?_ _); rotate_left; (focus (dsimp only; first | omega | (simp only [size_ext, World.size_alloc, Array.size_append]; omega)))) | (with_reducible refine Grew.drewN ?_ _) | (with_reducible refine Grew.drew ?_)))⟩
/-- All numbers, column by column. -/
def numTo (x : MatM) (R k : Nat) : List Nat := (List.range k).map fun t => x.num (t % R) (t / R)
def numL (x : MatM) : List Nat := numTo x x.rows.toNat (x.rows.toNat * x.cols.toNat)
theorem numTo_succ (x : MatM) (R k : Nat) : numTo x R (k + 1) = numTo x R k ++ [x.num (k % R) (k / R)] := by unfold numTo; rw [List.range_succ, List.map_append]; rfl
theorem numTo_length (x : MatM) (R k : Nat) : (numTo x R k).length = k := by simp [numTo]
theorem numTo_at (x : MatM) {R i j : Nat} (hi : i < R) : numTo x R (j * R + (i + 1)) = numTo x R (j * R + i) ++ [x.num i j] := by
  rw [← Nat.add_assoc, numTo_succ]
  congr 3
  · rw [Nat.add_comm, Nat.add_mul_mod_self_right, Nat.mod_eq_of_lt hi]
  · rw [Nat.add_comm, Nat.add_mul_div_right _ _ (by omega), Nat.div_eq_of_lt hi, Nat.zero_add]
set_option maxRecDepth 100000 in
set_option maxHeartbeats 2000000 in
/-- view.Numbers. -/
theorem numbers_any (x : MatM) (D : Value) (w : World) (hD : FS w D x.ws) (hx : x.good = true) (hwf : x.wf) (hl : x.ws.length ≤ 1000000) (hr : x.rows ≤ 1000) (hc : x.cols ≤ 1000) :
   Calls Try.prog 198 #[.agg #[D, .int .i64 x.off, .int .i64 x.rows, .int .i64 x.cols, .int .i64 x.ld]] w
     (fun e w' => ∃ v, e = .returned v ∧ FS w' v (numL x) ∧ ∃ o n, w' = ext w o n) := by
  have hn := MatM.good_n hx
  have hsp : ∀ w', FS w' D x.ws → Calls Try.prog 194 #[.agg #[D, .int .i64 x.off, .int .i64 x.rows, .int .i64 x.cols, .int .i64 x.ld]] w' (fun e w2 => e = .returned (.tuple #[.int .i64 (spanLo x), .int .i64 (spanHi x), .bool (MatM.full x)]) ∧ ∃ o n, w2 = ext w' o n) := fun w' h => span_any x D w' h hwf hl
  cases hf : MatM.full x
  · rw [hf] at hsp
    have e : numL x = [] := by
      have h0 : x.rows.toNat * x.cols.toNat = 0 := by
        unfold MatM.full at hf; rw [hx] at hf
        simp at hf
        by_cases h : x.rows = 0
        · rw [h]; simp
        · rw [hf h]; simp
      unfold numL numTo; rw [h0]; rfl
    rw [e]
    clear hf e hx
    go_enter Try.func198, Try.ntmps198
    refine seq_stop ?_
    go_wp2
    refine stop_go (fun W hW => ?_)
    have s1 : w.heap.size < W.heap.size := by rw [hW]; simp only [World.size_alloc]; omega
    have b1 : ∀ i, W.cell? ⟨w.heap.size, i, none⟩ = (#[D, .int .i64 x.off, .int .i64 x.rows, .int .i64 x.cols, .int .i64 x.ld] : Array Value)[i]? := by intro i; rw [hW]; go_simp
    have g0 : Grew w W := by rw [hW]; exact (Grew.refl _).alloc _
    clear hW
    have hDW : FS W D x.ws := hD.grew g0
    go_wp2_with (first | (go_at_call 194; ((with_reducible refine (hsp _ ?_).mono ?_); (focus (first | (with_reducible assumption) | (with_reducible refine FS.ext ?_ _ _; with_reducible assumption) | (with_reducible refine IS.ext ?_ _ _; with_reducible assumption) | (refine hDu _ ?_; with_reducible assumption) | (refine hOu _ ?_; with_reducible assumption) | (refine hDa _ ?_; with_reducible assumption) | (refine hDb _ ?_; with_reducible assumption) | (refine hDc _ ?_; with_reducible assumption) | (refine hDd _ ?_; with_reducible assumption) | (refine FW.fs ?_ (by omega) _; with_reducible assumption) | (refine WS.fs ?_; with_reducible assumption) | (refine FW.fs ?_ (by omega) _; assumption) | omega | assumption)); rintro e w1 ⟨rfl, o1, n1, rfl⟩)))
    go_ret
    exact ⟨_, rfl, FS.nil _, by (show Grew _ _; repeat (first | (with_reducible exact Grew.refl _) | (with_reducible assumption) | (with_reducible exact Grew.same_o) | (with_reducible exact Grew.app_o) | (with_reducible refine Grew.ext ?_ _ _) | (with_reducible refine Grew.alloc ?_ _) | ((with_reducible refine Grew.setCell ?_ ?_ _); rotate_left; (focus (dsimp only; first | omega | (simp only [size_ext, World.size_alloc, Array.size_append]; omega)))) | (with_reducible refine Grew.drewN ?_ _) | (with_reducible refine Grew.drew ?_)))⟩
  · rw [hf] at hsp
    have h0 : x.rows ≠ 0 ∧ x.cols ≠ 0 := by
      unfold MatM.full at hf; rw [hx] at hf; simpa using hf
    obtain ⟨R, hR⟩ : ∃ R : Nat, x.rows = R := ⟨x.rows.toNat, by omega⟩
    obtain ⟨C, hC⟩ : ∃ C : Nat, x.cols = C := ⟨x.cols.toNat, by omega⟩
    have hRC : R * C ≤ 1000 * 1000 := Nat.mul_le_mul (by omega) (by omega)
    have eL : numL x = numTo x R (R * C) := by unfold numL; rw [hR, hC]; rfl
    rw [eL]
    have hcol : ∀ (j : Nat) w', j < C → FS w' D x.ws → Calls Try.prog 149 #[.agg #[D, .int .i64 x.off, .int .i64 R, .int .i64 C, .int .i64 x.ld], .int .i64 j] w' (fun e w2 => e = .returned (.agg #[D, .int .i64 (x.off + j * x.ld), .int .i64 R, .int .i64 1]) ∧ ∃ o n, w2 = ext w' o n) := fun j w' hj h => by
      have := col_any x D j w' h hx hwf (by omega)
      have e : (colV x j).off = x.off + j * x.ld := by unfold colV; simp; omega
      rw [e, hR, hC] at this
      exact this
    have hpl : ∀ i j : Nat, i < R → j < C → 0 ≤ x.off + j * x.ld + i ∧ x.off + j * x.ld + i < x.ws.length ∧ (x.off + j * x.ld + i).toNat = x.place i j ∧ 0 ≤ x.off + j * x.ld := fun i j hi hj => by
      have h := MatM.good_place hx (i := i) (j := j) (by omega) (by omega)
      unfold MatM.place
      refine ⟨by omega, by omega, by congr 1; omega, by omega⟩
    rw [hR, hC] at hsp ⊢
    have hpos := MatM.good_place hx (i := 0) (j := 0) (by omega) (by omega)
    obtain ⟨blk, o, cap', rfl, hblk, hcw⟩ := hD.open (by omega)
    have Hcw := hid hcw
    have HPL := hid hpl
    clear hpl hf hx hwf hn eL h0 hcw hpos
    go_enter Try.func198, Try.ntmps198
    refine seq_stop ?_
    go_wp2
    refine stop_go (fun W hW => ?_)
    have s1 : w.heap.size < W.heap.size := by rw [hW]; simp only [World.size_alloc]; omega
    have b1 : ∀ i, W.cell? ⟨w.heap.size, i, none⟩ = (#[.slice (some ⟨blk, o, none⟩) x.ws.length cap', .int .i64 x.off, .int .i64 R, .int .i64 C, .int .i64 x.ld] : Array Value)[i]? := by intro i; rw [hW]; go_simp
    have g0 : Grew w W := by rw [hW]; exact (Grew.refl _).alloc _
    clear hW
    have hDW := hD.grew g0
    go_wp2_with (first | (go_at_call 194; ((with_reducible refine (hsp _ ?_).mono ?_); (focus (first | (with_reducible assumption) | (with_reducible refine FS.ext ?_ _ _; with_reducible assumption) | (with_reducible refine IS.ext ?_ _ _; with_reducible assumption) | (refine hDu _ ?_; with_reducible assumption) | (refine hOu _ ?_; with_reducible assumption) | (refine hDa _ ?_; with_reducible assumption) | (refine hDb _ ?_; with_reducible assumption) | (refine hDc _ ?_; with_reducible assumption) | (refine hDd _ ?_; with_reducible assumption) | (refine FW.fs ?_ (by omega) _; with_reducible assumption) | (refine WS.fs ?_; with_reducible assumption) | (refine FW.fs ?_ (by omega) _; assumption) | omega | assumption)); rintro e w1 ⟨rfl, o1, n1, rfl⟩)))
    refine name_any (fun V hV => ?_)
    have gV : Grew W V := by rw [← hV]; (show Grew _ _; (try simp only [← Array.append_assoc]); repeat (first | (with_reducible exact Grew.same_o) | (with_reducible exact Grew.refl _) | (with_reducible assumption) | (with_reducible refine Grew.alloc ?_ _) | (with_reducible refine Grew.app_r ?_) | ((with_reducible refine Grew.setCell ?_ ?_ _); rotate_left; (focus (dsimp only; first | omega | (simp only [size_ext, World.size_alloc, Array.size_append]; omega)))) | (with_reducible refine Grew.ext ?_ _ _) | (with_reducible refine Grew.drewN ?_ _) | (with_reducible refine Grew.drew ?_)))
    have gwV := Grew.trans g0 gV
    have t1 : ∀ w', Grew V w' → ∀ i, w'.cell? ⟨w.heap.size, i, none⟩ = (#[.slice (some ⟨blk, o, none⟩) x.ws.length cap', .int .i64 x.off, .int .i64 R, .int .i64 C, .int .i64 x.ld] : Array Value)[i]? := fun w' g i => ((Grew.trans gV g).cell s1).trans (b1 i)
    have zV := gV.below.size
    have hDV := hDW.grew gV
    have k1 : w.heap.size < V.heap.size := by omega
    clear hV b1 hsp
    go_loopw [6, 20] (fun v c wr => ∃ (j : Nat), j ≤ C ∧ c = .int .i64 j ∧ Grew V wr ∧ OwnF 22 wr V.heap.size v (numTo x R (j * R))) (fun _ c _ => C - (intOf c).toNat)
    case atStart => exact ⟨0, Nat.zero_le _, rfl, Grew.refl _, by simpa [numTo] using OwnF.nil _ _ _⟩
    case round =>
      obtain ⟨j, hj, rfl, gr, hown⟩ := hrel
      by_cases hlt : j < C
      · have tt := t1 _ gr
        have zr := gr.below.size
        have kr : w.heap.size < wr.heap.size := by omega
        have hDr := hDV.grew gr
        go_wp2_with (first | (go_at_call 149; ((with_reducible refine (hcol j _ hlt ?_).mono ?_); (focus (first | (with_reducible assumption) | (with_reducible refine FS.ext ?_ _ _; with_reducible assumption) | (with_reducible refine IS.ext ?_ _ _; with_reducible assumption) | (refine hDu _ ?_; with_reducible assumption) | (refine hOu _ ?_; with_reducible assumption) | (refine hDa _ ?_; with_reducible assumption) | (refine hDb _ ?_; with_reducible assumption) | (refine hDc _ ?_; with_reducible assumption) | (refine hDd _ ?_; with_reducible assumption) | (refine FW.fs ?_ (by omega) _; with_reducible assumption) | (refine WS.fs ?_; with_reducible assumption) | (refine FW.fs ?_ (by omega) _; assumption) | omega | assumption)); rintro e w1 ⟨rfl, o2, n2, rfl⟩)))
        refine name_any (fun U hU => ?_)
        obtain ⟨T, hT⟩ : ∃ T, T = wr.heap.size + o2.size := ⟨_, rfl⟩
        have gU : Grew wr U := by rw [← hU]; (show Grew _ _; (try simp only [← Array.append_assoc]); repeat (first | (with_reducible exact Grew.same_o) | (with_reducible exact Grew.refl _) | (with_reducible assumption) | (with_reducible refine Grew.alloc ?_ _) | (with_reducible refine Grew.app_r ?_) | ((with_reducible refine Grew.setCell ?_ ?_ _); rotate_left; (focus (dsimp only; first | omega | (simp only [size_ext, World.size_alloc, Array.size_append]; omega)))) | (with_reducible refine Grew.ext ?_ _ _) | (with_reducible refine Grew.drewN ?_ _) | (with_reducible refine Grew.drew ?_)))
        have BT : Box U T #[.slice (some ⟨blk, o, none⟩) x.ws.length cap', .int .i64 (x.off + j * x.ld), .int .i64 R, .int .i64 1] := by rw [← hU]; exact Box.new' (by rw [hT]; simp only [size_ext])
        have nT : ∀ k, u6.ownBlock = some k → k ≠ T := fun k hk => by
          obtain ⟨bs, h1, _⟩ := hown
          have := (World.ownsRow.lt h1 k hk).2
          omega
        have hownU := hown.grew gU
        have gVU := Grew.trans gr gU
        have kT := BT.lt
        have tT := BT.cell
        simp only [← hT]
        clear hU hT hown gU tt hDr
        go_loopw [6, 28] (fun v c wx => ∃ (i : Nat), i ≤ R ∧ c = .int .i64 i ∧ Grew V wx ∧ Box wx T #[.slice (some ⟨blk, o, none⟩) x.ws.length cap', .int .i64 (x.off + j * x.ld), .int .i64 R, .int .i64 1] ∧ OwnF 22 wx V.heap.size v (numTo x R (j * R + i)) ∧ ∀ k, v.ownBlock = some k → k ≠ T) (fun _ c _ => R - (intOf c).toNat)
        case atStart => exact ⟨0, Nat.zero_le _, rfl, gVU, BT, hownU, nT⟩
        case round =>
          clear BT hownU nT gVU kT tT
          obtain ⟨i, hi, rfl, gx, BX, hown, nv⟩ := hrel
          by_cases hli : i < R
          · obtain ⟨hp1, hp2, hp3, hp4⟩ := HPL.out i j hli hlt
            have h3 : IntKind.i64.wrap (x.off + j * x.ld + i) = x.off + j * x.ld + i := IntWalk.i64_in _ (by omega)
            obtain ⟨b, hb, hf⟩ := Hcw.out (x.place i j) (by omega)
            rw [← hp3] at hb
            have hf' : IsF b (x.num i j) := hf
            have hbx := ((Grew.trans gwV gx).cell hblk).trans hb
            have zx := (Grew.trans gwV gx).below.size
            have kb : blk < wr.heap.size := by omega
            have tX := BX.cell
            have kX := BX.lt
            have hll : (numTo x R (j * R + i)).length < 17592186044415 := by
              rw [numTo_length]
              have := Nat.mul_le_mul_right R (show j + 1 ≤ C by omega)
              rw [Nat.add_mul, Nat.mul_comm C R] at this; omega
            clear hb hf hp3
            go_wp2_with (at_builtin; refine append1_fk finfo gx hown hf' hll _ _ rfl rfl rfl ?_ rfl ?_; (focus (first | rfl | simp only [size_ext])); intro v2 w2 gw2 zw2 hv2 hk2 hn2)
            go_roundw
            case rel => exact ⟨i + 1, hli, by go_num, gw2, (by obtain ⟨e, he⟩ := BX; exact ⟨e, (hk2 T kX (fun h => nv T h rfl)).trans he⟩), by rw [numTo_at x hli]; exact hv2, fun k hk => by rcases hn2 k hk with h | h; exact nv k h; omega⟩
            case measure => simp [intOf]; omega
          · have e : i = R := by omega
            subst e
            go_wp2
            go_roundw
            case rel => exact ⟨j + 1, hlt, by go_num, gx, by rw [Nat.add_mul, Nat.one_mul]; exact hown⟩
            case measure => simp [intOf]; omega
      · have e : j = C := by omega
        subst e
        rw [Nat.mul_comm] at hown
        have hfs := hown.fs (by rw [numTo_length]; omega)
        go_wp2
        go_ret
        exact ⟨_, rfl, hfs, Grew.trans gwV gr⟩
set_option maxRecDepth 100000 in
set_option maxHeartbeats 1000000 in
/-- move.Finite. -/
theorem mfin_any (x : MatM) (D : Value) (w : World) (hD : FS w D x.ws) (hwf : x.wf) (hl : x.ws.length ≤ 1000000) (hr : x.rows ≤ 1000) (hc : x.cols ≤ 1000) :
   Calls Try.prog 174 #[.agg #[D, .int .i64 x.off, .int .i64 x.rows, .int .i64 x.cols, .int .i64 x.ld]] w
     (fun e w' => e = .returned (.bool (x.good && finL (numL x))) ∧ ∃ o n, w' = ext w o n) := by
  have hgd : ∀ w', FS w' D x.ws → Calls Try.prog 130 #[.agg #[D, .int .i64 x.off, .int .i64 x.rows, .int .i64 x.cols, .int .i64 x.ld]] w' (fun e w2 => e = .returned (.bool x.good) ∧ ∃ o n, w2 = ext w' o n) := fun w' h => good_any x D w' h hwf
  have hnb : x.good = true → ∀ w', FS w' D x.ws → Calls Try.prog 198 #[.agg #[D, .int .i64 x.off, .int .i64 x.rows, .int .i64 x.cols, .int .i64 x.ld]] w' (fun e w2 => ∃ v, e = .returned v ∧ FS w2 v (numL x) ∧ ∃ o n, w2 = ext w' o n) := fun hg w' h => numbers_any x D w' h hg hwf hl hr hc
  cases hg : x.good
  · rw [hg] at hgd
    clear hnb hwf
    go_enter Try.func174, Try.ntmps174
    refine seq_stop ?_
    go_wp2
    refine stop_go (fun W hW => ?_)
    have s1 : w.heap.size < W.heap.size := by rw [hW]; simp only [World.size_alloc]; omega
    have b1 : ∀ i, W.cell? ⟨w.heap.size, i, none⟩ = (#[D, .int .i64 x.off, .int .i64 x.rows, .int .i64 x.cols, .int .i64 x.ld] : Array Value)[i]? := by intro i; rw [hW]; go_simp
    have g0 : Grew w W := by rw [hW]; exact (Grew.refl _).alloc _
    clear hW
    have hDW : FS W D x.ws := hD.grew g0
    go_wp2_with (first | (go_at_call 130; ((with_reducible refine (hgd _ ?_).mono ?_); (focus (first | (with_reducible assumption) | (with_reducible refine FS.ext ?_ _ _; with_reducible assumption) | (with_reducible refine IS.ext ?_ _ _; with_reducible assumption) | (refine hDu _ ?_; with_reducible assumption) | (refine hOu _ ?_; with_reducible assumption) | (refine hDa _ ?_; with_reducible assumption) | (refine hDb _ ?_; with_reducible assumption) | (refine hDc _ ?_; with_reducible assumption) | (refine hDd _ ?_; with_reducible assumption) | (refine FW.fs ?_ (by omega) _; with_reducible assumption) | (refine WS.fs ?_; with_reducible assumption) | (refine FW.fs ?_ (by omega) _; assumption) | omega | assumption)); rintro e w1 ⟨rfl, o1, n1, rfl⟩)))
    go_ret
    exact ⟨rfl, by (show Grew _ _; repeat (first | (with_reducible exact Grew.refl _) | (with_reducible assumption) | (with_reducible exact Grew.same_o) | (with_reducible exact Grew.app_o) | (with_reducible refine Grew.ext ?_ _ _) | (with_reducible refine Grew.alloc ?_ _) | ((with_reducible refine Grew.setCell ?_ ?_ _); rotate_left; (focus (dsimp only; first | omega | (simp only [size_ext, World.size_alloc, Array.size_append]; omega)))) | (with_reducible refine Grew.drewN ?_ _) | (with_reducible refine Grew.drew ?_)))⟩
  · rw [hg] at hgd
    have hnb' := hnb hg
    obtain ⟨L, hL⟩ : ∃ L, L = numL x := ⟨_, rfl⟩
    rw [← hL] at hnb' ⊢
    clear hnb hwf hg hL
    go_enter Try.func174, Try.ntmps174
    refine seq_stop ?_
    go_wp2
    refine stop_go (fun W hW => ?_)
    have s1 : w.heap.size < W.heap.size := by rw [hW]; simp only [World.size_alloc]; omega
    have b1 : ∀ i, W.cell? ⟨w.heap.size, i, none⟩ = (#[D, .int .i64 x.off, .int .i64 x.rows, .int .i64 x.cols, .int .i64 x.ld] : Array Value)[i]? := by intro i; rw [hW]; go_simp
    have g0 : Grew w W := by rw [hW]; exact (Grew.refl _).alloc _
    clear hW
    have hDW : FS W D x.ws := hD.grew g0
    go_wp2_with (first | (go_at_call 130; ((with_reducible refine (hgd _ ?_).mono ?_); (focus (first | (with_reducible assumption) | (with_reducible refine FS.ext ?_ _ _; with_reducible assumption) | (with_reducible refine IS.ext ?_ _ _; with_reducible assumption) | (refine hDu _ ?_; with_reducible assumption) | (refine hOu _ ?_; with_reducible assumption) | (refine hDa _ ?_; with_reducible assumption) | (refine hDb _ ?_; with_reducible assumption) | (refine hDc _ ?_; with_reducible assumption) | (refine hDd _ ?_; with_reducible assumption) | (refine FW.fs ?_ (by omega) _; with_reducible assumption) | (refine WS.fs ?_; with_reducible assumption) | (refine FW.fs ?_ (by omega) _; assumption) | omega | assumption)); rintro e w1 ⟨rfl, o1, n1, rfl⟩)) | (go_at_call 198; ((with_reducible refine (hnb' _ ?_).mono ?_); (focus (first | (with_reducible assumption) | (with_reducible refine FS.ext ?_ _ _; with_reducible assumption) | (with_reducible refine IS.ext ?_ _ _; with_reducible assumption) | (refine hDu _ ?_; with_reducible assumption) | (refine hOu _ ?_; with_reducible assumption) | (refine hDa _ ?_; with_reducible assumption) | (refine hDb _ ?_; with_reducible assumption) | (refine hDc _ ?_; with_reducible assumption) | (refine hDd _ ?_; with_reducible assumption) | (refine FW.fs ?_ (by omega) _; with_reducible assumption) | (refine WS.fs ?_; with_reducible assumption) | (refine FW.fs ?_ (by omega) _; assumption) | omega | assumption)); rintro e w1 ⟨v, rfl, hv, o2, n2, rfl⟩; (try simp only [drew_ext, drewN_ext, ext_ext] at hv))) | (go_at_call 200; ((with_reducible refine (nfin_any _ _ _ hv).mono ?_); rintro e w1 ⟨rfl, rfl⟩)))
    go_ret
    exact ⟨ret_bool (by simp), by (show Grew _ _; repeat (first | (with_reducible exact Grew.refl _) | (with_reducible assumption) | (with_reducible exact Grew.same_o) | (with_reducible exact Grew.app_o) | (with_reducible refine Grew.ext ?_ _ _) | (with_reducible refine Grew.alloc ?_ _) | ((with_reducible refine Grew.setCell ?_ ?_ _); rotate_left; (focus (dsimp only; first | omega | (simp only [size_ext, World.size_alloc, Array.size_append]; omega)))) | (with_reducible refine Grew.drewN ?_ _) | (with_reducible refine Grew.drew ?_)))⟩
end Go.Proofs.Ytcmggfpcbijcjaa
end
section
/-
  A law of copy between slices of floats.
-/
set_option linter.unusedSimpArgs false
set_option linter.unusedVariables false
open Go Go.RowKit Sedge
namespace Go.Proofs.Ytcmggfpcbijcjaa
/-- The row behind a copy. -/
def cpl (ws xs : List Nat) : List Nat := (List.range ws.length).map fun i => if i < xs.length then xs.getD i 0 else ws.getD i 0
theorem cpl_length (ws xs : List Nat) : (cpl ws xs).length = ws.length := by simp [cpl]
theorem cpl_getD (ws xs : List Nat) {i : Nat} (hi : i < ws.length) : (cpl ws xs).getD i 0 = if i < xs.length then xs.getD i 0 else ws.getD i 0 := by
  unfold cpl
  rw [List.getD_eq_getElem?_getD, List.getElem?_map, List.getElem?_range hi]
  rfl
theorem cpl_self {ws xs : List Nat} (h : Nat.min xs.length ws.length = 0) : cpl ws xs = ws := by
  apply List.ext_getElem?
  intro i
  by_cases hi : i < ws.length
  · have hx : xs.length = 0 := by
      rcases Nat.le_total xs.length ws.length with h1 | h1
      · have : Nat.min xs.length ws.length = xs.length := Nat.min_eq_left h1
        omega
      · have : Nat.min xs.length ws.length = ws.length := Nat.min_eq_right h1
        omega
    have h2 := cpl_getD ws xs hi
    rw [if_neg (by omega)] at h2
    rw [List.getD_eq_getElem?_getD, List.getD_eq_getElem?_getD] at h2
    rw [List.getElem?_eq_getElem (by rw [cpl_length]; exact hi), List.getElem?_eq_getElem hi] at h2 ⊢
    simpa using h2
  · rw [List.getElem?_eq_none (by rw [cpl_length]; omega), List.getElem?_eq_none (by omega)]
theorem copyF_K {P : Program} {w : World} {ops : Array Oper} {rest : List Oper} {o : Oper} {a : Act} {Q : Exit → Act → World → Prop} (hgd : o.guard = none) (d s : Operand) (dT sT : TypeId)
    (ho : o.op = .call { callee := .builtin .copy, args := #[d, s], argTypes := #[dT, sT] }) (elem : TypeId) (hu : P.underlying dT = some (.slice elem)) (hsz : (P.info? elem).map (·.size) = some 1)
    (g dCap : Nat) (sp : Option Addr) (sCap : Nat) (ws xs : List Nat) (hd : a.eval d = .slice (some ⟨g, 0, none⟩) ws.length dCap) (hs : a.eval s = .slice sp xs.length sCap)
    (hF : FW w g ws) (hX : FS w (.slice sp xs.length sCap) xs)
    (h : ∀ w', Wrote w w' g (cpl ws xs) → wpList P ops Q rest (a.put o.dst (goInt (Nat.min xs.length ws.length))) w') : wpList P ops Q (o :: rest) a w := by
  by_cases h0 : Nat.min xs.length ws.length = 0
  · refine wpList_copy_nothing hgd d s dT sT ho elem hu hsz _ _ _ _ _ _ hd hs h0 ?_
    have := h w (by rw [cpl_self h0]; exact Wrote.refl hF)
    rw [h0] at this
    exact this
  · have hm1 : Nat.min xs.length ws.length ≤ xs.length := Nat.min_le_left _ _
    have hm2 : Nat.min xs.length ws.length ≤ ws.length := Nat.min_le_right _ _
    obtain ⟨blk, so, rfl, hblk, hc⟩ := hX.at.2 (by omega)
    obtain ⟨f, hf⟩ : ∃ f : Nat → Nat, ∀ j, j < xs.length → w.cell? ⟨blk, so + j, none⟩ = some (.float .f64 (f j)) ∧ IsF (f j) (xs.getD j 0) :=
      ⟨fun j => if hj : j < xs.length then Classical.choose (hc j hj) else 0, fun j hj => by
        simp only [dif_pos hj]; exact Classical.choose_spec (hc j hj)⟩
    obtain ⟨m, hm⟩ : ∃ m, m = Nat.min xs.length ws.length := ⟨_, rfl⟩
    obtain ⟨c, e, hb, hc1, hc2⟩ := hF
    have hlen : ((List.range m).map fun j => Value.float .f64 (f j)).length = m := by simp
    refine wpList_copy_own hgd d s dT sT ho elem hu hsz g 0 ws.length dCap ⟨blk, so, none⟩ xs.length sCap hd hs c e hb ((List.range m).map fun j => .float .f64 (f j)) (by rw [hlen, hm]) ?_ ?_ ?_ ?_
    · intro j v hv
      have hj : j < m := by
        rcases Nat.lt_or_ge j m with h1 | h1
        · exact h1
        · rw [List.getElem?_eq_none (by rw [hlen]; exact h1)] at hv; cases hv
      rw [List.getElem?_map, List.getElem?_range hj] at hv
      obtain rfl : Value.float .f64 (f j) = v := by simpa using hv
      rw [show Addr.add ⟨blk, so, none⟩ j = ⟨blk, so + j, none⟩ by unfold Addr.add; split <;> simp_all]
      exact (hf j (by omega)).1
    · rw [hlen]; omega
    · intro v hv
      simp only [List.mem_map] at hv
      obtain ⟨j, _, rfl⟩ := hv
      rfl
    · rw [hlen, hm]
      refine h _ ⟨_, #[], w.drawn, ext_zero.symm, ?_, ?_⟩
      · rw [cpl_length]
        simp only [List.take_zero, List.nil_append, List.size_toArray, List.length_append, List.length_map, List.length_range, List.length_drop, Array.length_toList]
        omega
      · intro i hi
        rw [cpl_length] at hi
        rw [cpl_getD _ _ hi]
        simp only [List.take_zero, List.nil_append, List.getElem?_toArray]
        by_cases hx : i < xs.length
        · have him : i < m := by
            rw [hm]
            exact Nat.lt_min.2 ⟨hx, hi⟩
          rw [if_pos hx, List.getElem?_append_left (by rw [List.length_map, List.length_range, ← hm]; exact him), List.getElem?_map, List.getElem?_range (by rw [← hm]; exact him)]
          exact ⟨_, rfl, (hf i hx).2⟩
        · rw [if_neg hx]
          have him : m ≤ i := by
            rw [hm]
            exact Nat.le_trans hm1 (by omega)
          rw [List.getElem?_append_right (by rw [List.length_map, List.length_range, ← hm]; exact him), List.length_map, List.length_range, ← hm, List.getElem?_drop, Nat.zero_add, show m + (i - m) = i by omega, Array.getElem?_toList]
          exact hc2 i hi
theorem copyF_K' {P : Program} {w : World} {ops : Array Oper} {rest : List Oper} {o : Oper} {a : Act} {Q : Exit → Act → World → Prop} (hgd : o.guard = none) (d s : Operand) (dT sT : TypeId)
    (ho : o.op = .call { callee := .builtin .copy, args := #[d, s], argTypes := #[dT, sT] }) (elem : TypeId) (hu : P.underlying dT = some (.slice elem)) (hsz : (P.info? elem).map (·.size) = some 1)
    (g dLen dCap : Nat) (sp : Option Addr) (sLen sCap : Nat) (ws xs : List Nat) (hd : a.eval d = .slice (some ⟨g, 0, none⟩) dLen dCap) (hs : a.eval s = .slice sp sLen sCap) (hl : ws.length = dLen)
    (hF : FW w g ws) (hX : FS w (.slice sp sLen sCap) xs)
    (h : ∀ w' z, Wrote w w' g (cpl ws xs) → wpList P ops Q rest (a.put o.dst (goInt z)) w') : wpList P ops Q (o :: rest) a w := by
  have e := hX.at.1
  subst hl e
  exact copyF_K hgd d s dT sT ho elem hu hsz g dCap sp sCap ws xs hd hs hF hX fun w' hw => h w' _ hw
end Go.Proofs.Ytcmggfpcbijcjaa
end
section
/-
  Contract: move.Clone.
-/
set_option linter.unusedSimpArgs false
set_option linter.unusedVariables false
open Go Go.RowKit Sedge
namespace Go.Proofs.Ytcmggfpcbijcjaa
section
variable {P : Program} {o : Oper} {a : Act} {w : World} {K : Act → World → Prop} {Q : Exit → Act → World → Prop}
theorem wp_cp {d : Option Tmp} {x s : Operand} {tt : Array TypeId} {ty : TypeId} {ps : String} {aft : Array Edge} (h : Oper.wp P { dst := d, op := .call { callee := .builtin .copy, args := #[x, s], argTypes := tt }, type := ty, pos := ps, after := aft, guard := none } a w K Q) : Oper.wp P { dst := d, op := .call { callee := .builtin .copy, args := #[x, s], argTypes := tt }, type := ty, pos := ps, after := aft, guard := none } a w K Q := h
/-- 'copy(d, s)' of floats, in a region that draws its order. -/
theorem copyF_R (hgd : o.guard = none) (d s : Operand) (dT sT : TypeId)
    (ho : o.op = .call { callee := .builtin .copy, args := #[d, s], argTypes := #[dT, sT] }) (elem : TypeId) (hu : P.underlying dT = some (.slice elem)) (hsz : (P.info? elem).map (·.size) = some 1)
    (g dl dCap : Nat) (sp : Option Addr) (sl sCap : Nat) (ws xs : List Nat) (hd : a.eval d = .slice (some ⟨g, 0, none⟩) dl dCap) (hs : a.eval s = .slice sp sl sCap) (hl : ws.length = dl) (hl2 : xs.length = sl)
    (hF : FW w g ws) (hX : FS w (.slice sp sl sCap) xs)
    (h : ∀ z w', Wrote w w' g (cpl ws xs) → K (a.put o.dst (goInt z)) w') : o.wp P a w K Q := by
  subst hl hl2
  have h1 := copyF_K (P := P) (ops := #[]) (Q := fun e a w => e = .normal ∧ K a w) (rest := []) hgd d s dT sT ho elem hu hsz g dCap sp sCap ws xs hd hs hF hX (fun w' h1 => ⟨rfl, h _ w' h1⟩)
  unfold wpList at h1
  rw [if_pos (wanted_none hgd)] at h1
  rcases h1 with h1 | ⟨_, _, _, h2, _⟩
  · exact wp_any (Oper.wp_mono (fun a w hh => hh.2) h1)
  · cases h2
end
theorem cpl_all {ws xs : List Nat} (h : ws.length = xs.length) : cpl ws xs = xs := by
  apply List.ext_getElem?
  intro i
  by_cases hi : i < ws.length
  · have h2 := cpl_getD ws xs hi
    rw [if_pos (by omega), List.getD_eq_getElem?_getD, List.getD_eq_getElem?_getD] at h2
    rw [List.getElem?_eq_getElem (by rw [cpl_length]; exact hi), List.getElem?_eq_getElem (by omega)] at h2 ⊢
    simpa using h2
  · rw [List.getElem?_eq_none (by rw [cpl_length]; omega), List.getElem?_eq_none (by omega)]
set_option maxRecDepth 100000 in
set_option maxHeartbeats 1000000 in
/-- view.Dense, of no rows. -/
theorem denseZ_any (c : Nat) (w : World) (hc : c ≤ 64) :
   Calls Try.prog 69 #[.int .i64 0, .int .i64 c, .slice none 0 0] w (fun e w' => ∃ k, e = .returned (.agg #[.slice (some ⟨k, 0, none⟩) 0 0, .int .i64 0, .int .i64 0, .int .i64 c, .int .i64 1]) ∧ w.heap.size ≤ k ∧ FW w' k [] ∧ ∃ o n, w' = ext w o n) := by
  have d2 : decide ((c : Int) < 0) = false := by simp
  have d4 : decide ((64 : Int) < (c : Int)) = false := by simp; omega
  go_enter Try.func69, Try.ntmps69
  refine seq_stop ?_
  go_wp2
  refine stop_go (fun W hW => ?_)
  have s1 : w.heap.size < W.heap.size := by rw [hW]; simp only [World.size_alloc]; omega
  have b1 : ∀ i, W.cell? ⟨w.heap.size, i, none⟩ = (#[.slice none 0 0, .int .i64 0, .int .i64 0, .int .i64 0, .int .i64 0] : Array Value)[i]? := by intro i; rw [hW]; go_simp
  have f1 : ∀ i, W.frozen? ⟨w.heap.size, i, none⟩ = false := by intro i; rw [hW]; go_simp
  have g0 : Grew w W := by rw [hW]; exact (Grew.refl _).alloc _
  clear hW
  go_wp2_with (at_make; refine make_f (L := 0) finfo (Grew.refl W) _ _ rfl rfl 0 rfl rfl rfl (by omega) ?_; intro oo nn k hk ho; have hF := ho.made)
  have hF0 : FW (ext W oo nn) k [] := hF
  refine name_any (fun V hV => ?_)
  have gV : Grew W V := by rw [← hV]; (show Grew _ _; repeat (first | (with_reducible exact Grew.refl _) | (with_reducible assumption) | (with_reducible exact Grew.same_o) | (with_reducible exact Grew.app_o) | (with_reducible refine Grew.ext ?_ _ _) | (with_reducible refine Grew.alloc ?_ _) | ((with_reducible refine Grew.setCell ?_ ?_ _); rotate_left; (focus (dsimp only; first | omega | (simp only [size_ext, World.size_alloc, Array.size_append]; omega)))) | (with_reducible refine Grew.drewN ?_ _) | (with_reducible refine Grew.drew ?_)))
  have sV := gV.below.size
  have k1 : w.heap.size < V.heap.size := by omega
  have k3 : W.heap.size + oo.size < V.heap.size := by rw [← hV]; simp only [World.size_alloc, size_ext]; omega
  have c3 : ∀ i, V.cell? ⟨W.heap.size + oo.size, i, none⟩ = (#[.slice (some ⟨k, 0, none⟩) 0 0, .int .i64 0, .int .i64 0, .int .i64 c, .int .i64 1] : Array Value)[i]? := by subst hV; intro i; go_simp
  have c1 : ∀ i, V.cell? ⟨w.heap.size, i, none⟩ = (#[.slice none 0 0, .int .i64 0, .int .i64 0, .int .i64 0, .int .i64 0] : Array Value)[i]? := fun i => (gV.cell s1).trans (b1 i)
  have z1 : ∀ i, V.frozen? ⟨w.heap.size, i, none⟩ = false := fun i => (gV.frozen s1).trans (f1 i)
  have hFV : FW V k [] := by rw [← hV]; (repeat (first | (with_reducible assumption) | ((with_reducible refine FW.ext_set ?_ ?_ ?_ _); rotate_left; (focus (simp only [size_setCell', World.size_alloc, size_ext, size_upd]; omega)); (focus (dsimp only; omega))) | ((with_reducible refine FW.setCell_ne ?_ ?_ _); rotate_left; (focus (dsimp only; omega))) | (with_reducible refine FW.ext ?_ _ _) | (with_reducible refine FW.alloc ?_ _)))
  clear hV b1 f1 ho
  go_loopw [43] (fun s wr => s = .int .i64 0 ∧ wr = V) (fun s _ => 0)
  case atStart => exact ⟨rfl, rfl⟩
  case round =>
    obtain ⟨rfl, rfl⟩ := hrel
    go_wp2
    refine bodyPost_ret (v := .agg #[.slice (some ⟨k, 0, none⟩) 0 0, .int .i64 0, .int .i64 0, .int .i64 c, .int .i64 1]) (by simp [results, Try.results69, go_sem, *]) rfl ?_
    have g1 := Grew.trans g0 gV
    exact ⟨k, rfl, by omega, by (repeat (first | (with_reducible assumption) | ((with_reducible refine FW.ext_set ?_ ?_ ?_ _); rotate_left; (focus (simp only [size_setCell', World.size_alloc, size_ext, size_upd]; omega)); (focus (dsimp only; omega))) | ((with_reducible refine FW.setCell_ne ?_ ?_ _); rotate_left; (focus (dsimp only; omega))) | (with_reducible refine FW.ext ?_ _ _) | (with_reducible refine FW.alloc ?_ _))), by (show Grew _ _; repeat (first | (with_reducible exact Grew.refl _) | (with_reducible assumption) | (with_reducible exact Grew.same_o) | (with_reducible exact Grew.app_o) | (with_reducible refine Grew.ext ?_ _ _) | (with_reducible refine Grew.alloc ?_ _) | ((with_reducible refine Grew.setCell ?_ ?_ _); rotate_left; (focus (dsimp only; first | omega | (simp only [size_ext, World.size_alloc, Array.size_append]; omega)))) | (with_reducible refine Grew.drewN ?_ _) | (with_reducible refine Grew.drew ?_)))⟩
/-- view.Dense, without numbers. -/
theorem denseA_any (r c : Nat) (w : World) (hr : r ≤ 64) (hc : c ≤ 64) :
   Calls Try.prog 69 #[.int .i64 r, .int .i64 c, .slice none 0 0] w (fun e w' => ∃ k, e = .returned (.agg #[.slice (some ⟨k, 0, none⟩) (r * c) (r * c), .int .i64 0, .int .i64 r, .int .i64 c, .int .i64 (max r 1 : Nat)]) ∧ w.heap.size ≤ k ∧ FW w' k (List.replicate (r * c) 0) ∧ ∃ o n, w' = ext w o n) := by
  rcases Nat.eq_zero_or_pos r with h | h
  · subst h
    have := denseZ_any c w hc
    simpa using this
  · have := dense0k_any r c w hr hc h
    rw [show max r 1 = r by omega]
    exact this
set_option maxRecDepth 100000 in
set_option maxHeartbeats 2000000 in
/-- move.Clone, of sizes within 64. -/
theorem clone_ok (x : MatM) (D : Value) (R C : Nat) (w : World) (hD : FS w D x.ws) (hx : x.good = true) (hwf : x.wf) (hl : x.ws.length ≤ 1000000) (hR : x.rows = R) (hC : x.cols = C) (hr : R ≤ 64) (hc : C ≤ 64) :
   Calls Try.prog 163 #[.agg #[D, .int .i64 x.off, .int .i64 R, .int .i64 C, .int .i64 x.ld]] w (fun e w' => ∃ k, e = .returned (.tuple #[.agg #[.slice (some ⟨k, 0, none⟩) (R * C) (R * C), .int .i64 0, .int .i64 R, .int .i64 C, .int .i64 (max R 1 : Nat)], .int .i64 0]) ∧ w.heap.size ≤ k ∧ FW w' k (numL x) ∧ ∃ o n, w' = ext w o n) := by
  have hgd : ∀ w', FS w' D x.ws → Calls Try.prog 130 #[.agg #[D, .int .i64 x.off, .int .i64 R, .int .i64 C, .int .i64 x.ld]] w' (fun e w2 => e = .returned (.bool true) ∧ ∃ o n, w2 = ext w' o n) := fun w' h => by
    have := good_any x D w' h hwf; rw [hx, hR, hC] at this; exact this
  have hnb : ∀ w', FS w' D x.ws → Calls Try.prog 198 #[.agg #[D, .int .i64 x.off, .int .i64 R, .int .i64 C, .int .i64 x.ld]] w' (fun e w2 => ∃ v, e = .returned v ∧ FS w2 v (numL x) ∧ ∃ o n, w2 = ext w' o n) := fun w' h => by
    have := numbers_any x D w' h hx hwf hl (by omega) (by omega); rw [hR, hC] at this; exact this
  have lN : (numL x).length = R * C := by simp [numL, numTo, hR, hC]
  have hm : R * C ≤ 64 * 64 := Nat.mul_le_mul hr hc
  obtain ⟨N, hN⟩ : ∃ N, N = numL x := ⟨_, rfl⟩
  rw [← hN] at hnb lN ⊢
  have d1 : decide ((64 : Int) < (R : Int)) = false := by simp; omega
  have d2 : decide ((64 : Int) < (C : Int)) = false := by simp; omega
  obtain ⟨LD, hLD⟩ : ∃ LD, LD = max R 1 := ⟨_, rfl⟩
  have hds := fun w' => denseA_any R C w' hr hc
  rw [← hLD] at hds ⊢
  clear hx hwf hR hC hN hLD
  go_enter Try.func163, Try.ntmps163
  refine seq_stop ?_
  go_wp2
  refine stop_go (fun W hW => ?_)
  have s1 : w.heap.size < W.heap.size := by rw [hW]; simp only [World.size_alloc]; omega
  have b1 : ∀ i, W.cell? ⟨w.heap.size, i, none⟩ = (#[D, .int .i64 x.off, .int .i64 R, .int .i64 C, .int .i64 x.ld] : Array Value)[i]? := by intro i; rw [hW]; go_simp
  have X1 : Box W (w.heap.size) #[D, .int .i64 x.off, .int .i64 R, .int .i64 C, .int .i64 x.ld] := by rw [hW]; refine Box.grew ?_ ((Grew.refl _).alloc _); exact Box.new' (by first | rfl | (simp only [World.size_alloc]; done) | (simp only [World.size_alloc]; omega))
  have f1 : ∀ i, W.frozen? ⟨w.heap.size, i, none⟩ = false := by intro i; rw [hW]; go_simp
  have s2 : w.heap.size + 1 < W.heap.size := by rw [hW]; simp only [World.size_alloc]; omega
  have b2 : ∀ i, W.cell? ⟨w.heap.size + 1, i, none⟩ = (#[.slice none 0 0, .int .i64 0, .int .i64 0, .int .i64 0, .int .i64 0] : Array Value)[i]? := by intro i; rw [hW]; go_simp
  have X2 : Box W (w.heap.size + 1) #[.slice none 0 0, .int .i64 0, .int .i64 0, .int .i64 0, .int .i64 0] := by rw [hW]; exact Box.new' (by first | rfl | (simp only [World.size_alloc]; done) | (simp only [World.size_alloc]; omega))
  have f2 : ∀ i, W.frozen? ⟨w.heap.size + 1, i, none⟩ = false := by intro i; rw [hW]; go_simp
  have g0 : Grew w W := by rw [hW]; exact ((Grew.refl _).alloc _).alloc _
  clear hW
  have hDW := hD.grew g0
  go_upto_region 6 with (first | (go_at_call 130; ((with_reducible refine (hgd _ ?_).mono ?_); (focus (first | (with_reducible assumption) | (with_reducible refine FS.ext ?_ _ _; with_reducible assumption) | (with_reducible refine IS.ext ?_ _ _; with_reducible assumption) | (refine hDu _ ?_; with_reducible assumption) | (refine hOu _ ?_; with_reducible assumption) | (refine hDa _ ?_; with_reducible assumption) | (refine hDb _ ?_; with_reducible assumption) | (refine hDc _ ?_; with_reducible assumption) | (refine hDd _ ?_; with_reducible assumption) | (refine FW.fs ?_ (by omega) _; with_reducible assumption) | (refine WS.fs ?_; with_reducible assumption) | (refine FW.fs ?_ (by omega) _; assumption) | omega | assumption)); rintro e w1 ⟨rfl, o1, n1, rfl⟩)) | (go_at_call 69; ((with_reducible refine (hds _).mono ?_); rintro e w1 ⟨k, rfl, hk, hF, o2, n2, rfl⟩)))
  refine name_any (fun V hV => ?_)
  obtain ⟨p1, hp1⟩ : ∃ p, p = w.heap.size := ⟨_, rfl⟩
  obtain ⟨p2, hp2⟩ : ∃ p, p = w.heap.size + 1 := ⟨_, rfl⟩
  obtain ⟨p4, hp4⟩ : ∃ p, p = W.heap.size + (o1.size + o2.size) := ⟨_, rfl⟩
  have gV : Grew W V := by rw [← hV]; (show Grew _ _; (try simp only [← Array.append_assoc]); repeat (first | (with_reducible exact Grew.same_o) | (with_reducible exact Grew.refl _) | (with_reducible assumption) | (with_reducible refine Grew.alloc ?_ _) | (with_reducible refine Grew.app_r ?_) | ((with_reducible refine Grew.setCell ?_ ?_ _); rotate_left; (focus (dsimp only; first | omega | (simp only [size_ext, World.size_alloc, Array.size_append]; omega)))) | (with_reducible refine Grew.ext ?_ _ _) | (with_reducible refine Grew.drewN ?_ _) | (with_reducible refine Grew.drew ?_)))
  have gw := Grew.trans g0 gV
  have Y1 : Box V p1 #[D, .int .i64 x.off, .int .i64 R, .int .i64 C, .int .i64 x.ld] := by rw [hp1]; exact X1.grew gV
  have Y2 : Box V p2 #[.slice none 0 0, .int .i64 0, .int .i64 0, .int .i64 0, .int .i64 0] := by rw [hp2]; exact X2.grew gV
  have Y4 : Box V p4 #[.slice (some ⟨k, 0, none⟩) (R * C) (R * C), .int .i64 0, .int .i64 R, .int .i64 C, .int .i64 LD] := by rw [← hV]; exact Box.new' (by rw [hp4]; simp only [size_ext, Array.size_append])
  simp only [ext_ext] at hF
  have hFV : FW V k (List.replicate (R * C) 0) := by rw [← hV]; exact hF.grew (by (show Grew _ _; (try simp only [← Array.append_assoc]); repeat (first | (with_reducible exact Grew.same_o) | (with_reducible exact Grew.refl _) | (with_reducible assumption) | (with_reducible refine Grew.alloc ?_ _) | (with_reducible refine Grew.app_r ?_) | ((with_reducible refine Grew.setCell ?_ ?_ _); rotate_left; (focus (dsimp only; first | omega | (simp only [size_ext, World.size_alloc, Array.size_append]; omega)))) | (with_reducible refine Grew.ext ?_ _ _) | (with_reducible refine Grew.drewN ?_ _) | (with_reducible refine Grew.drew ?_))))
  have lk := hF.lt
  simp only [size_ext, Array.size_append] at lk hk
  have zk : W.heap.size ≤ k := by omega
  have n1k : p1 ≠ k := by have := Y1.lt; omega
  have n2k : p2 ≠ k := by omega
  have n4k : p4 ≠ k := by omega
  have n24 : p2 ≠ p4 := by omega
  have z2 : w.heap.size ≤ p2 := by omega
  have zwk : w.heap.size ≤ k := by omega
  have hDV := hD.grew gw
  have t1 : ∀ w', But V [k] w' → ∀ i, w'.cell? ⟨p1, i, none⟩ = (#[D, .int .i64 x.off, .int .i64 R, .int .i64 C, .int .i64 x.ld] : Array Value)[i]? := fun w' h i => (h.cell Y1.lt (by simpa using n1k)).trans (Y1.cell i)
  have t4 : ∀ w', But V [k] w' → ∀ i, w'.cell? ⟨p4, i, none⟩ = (#[.slice (some ⟨k, 0, none⟩) (R * C) (R * C), .int .i64 0, .int .i64 R, .int .i64 C, .int .i64 LD] : Array Value)[i]? := fun w' h i => (h.cell Y4.lt (by simpa using n4k)).trans (Y4.cell i)
  have B0 := But.refl V [k]
  simp only [← hp4]
  simp only [← hp2]
  simp only [← hp1]
  clear hV hp1 hp2 hp4 X1 X2 b1 b2 s1 s2 f1 f2 hF hgd hds hDW lk hk
  refine wp_region_R (But V [k]) [] [(0,0), (0,1), (0,2), (1,3), (1,4)] (by kernel_rfl) (by kernel_rfl) (fun _ _ _ _ h _ => h) (B0.grew ((Grew.refl _).drew)) ?_
  refine name_any (fun V1 hV1 => ?_)
  have D1 : But V [k] V1 := by rw [← hV1]; exact B0.grew ((Grew.refl _).drew)
  have gV1 : Grew V V1 := by rw [← hV1]; (show Grew _ _; (try simp only [← Array.append_assoc]); repeat (first | (with_reducible exact Grew.same_o) | (with_reducible exact Grew.refl _) | (with_reducible assumption) | (with_reducible refine Grew.alloc ?_ _) | (with_reducible refine Grew.app_r ?_) | ((with_reducible refine Grew.setCell ?_ ?_ _); rotate_left; (focus (dsimp only; first | omega | (simp only [size_ext, World.size_alloc, Array.size_append]; omega)))) | (with_reducible refine Grew.ext ?_ _ _) | (with_reducible refine Grew.drewN ?_ _) | (with_reducible refine Grew.drew ?_)))
  have F1 := hFV.grew gV1
  have hD1 := hDV.grew gV1
  clear hV1
  go_upto_region 7 with (first | ((with_reducible refine wpR_id ?_); refine wpR_do rfl rfl (fun K hK => ?_); (with_reducible refine wp_cp ?_); refine copyF_R rfl (.tmp 26) (.tmp 28) 24 24 rfl 22 (by kernel_rfl) (by kernel_rfl) k (R * C) (R * C) va (R * C) vc _ N rfl rfl (by simp) lN (F1.ext _ _) hv ?_; intro z w3 hw3; have D3 : But V [k] w3 := (D1.grew (by (show Grew _ _; (try simp only [← Array.append_assoc]); repeat (first | (with_reducible exact Grew.same_o) | (with_reducible exact Grew.refl _) | (with_reducible assumption) | (with_reducible refine Grew.alloc ?_ _) | (with_reducible refine Grew.app_r ?_) | ((with_reducible refine Grew.setCell ?_ ?_ _); rotate_left; (focus (dsimp only; first | omega | (simp only [size_ext, World.size_alloc, Array.size_append]; omega)))) | (with_reducible refine Grew.ext ?_ _ _) | (with_reducible refine Grew.drewN ?_ _) | (with_reducible refine Grew.drew ?_))))).wrote hw3 (.inl (by simp))) | ((with_reducible refine wpR_id ?_); first | (refine wpR_take (v := ?_) rfl rfl ?_ ?_; rotate_left; (focus (intro w' hw'; go_simp; try with_reducible rfl)); simp only [Act.put, List.setIfInBounds_toArray, List.set_cons_zero, List.set_cons_succ]) | (refine wpR_pure (v := ?_) rfl rfl ?_ ?_; rotate_left; (focus (intro w'; go_simp; try with_reducible rfl)); simp only [Act.put, List.setIfInBounds_toArray, List.set_cons_zero, List.set_cons_succ]) | (refine wpR_takeG (v := ?_) rfl rfl rfl rfl rfl ?_ ?_; rotate_left; (focus (intro w' hw'; go_simp; try with_reducible rfl)); simp only [Act.put, List.setIfInBounds_toArray, List.set_cons_zero, List.set_cons_succ]) | (refine wpR_skip rfl rfl rfl rfl rfl rfl ?_; simp only [Act.put, List.setIfInBounds_toArray, List.set_cons_zero, List.set_cons_succ]) | (refine wpR_skipU rfl rfl rfl rfl rfl ?_; simp only [Act.put, List.setIfInBounds_toArray, List.set_cons_zero, List.set_cons_succ]) | (refine wpR_do rfl rfl (fun K hK => ?_)) | (refine wpR_doG rfl rfl rfl rfl rfl (fun K hK => ?_)) | (refine wpR_last rfl rfl (fun K hK => ?_)) | (refine wpR_nil ?_)) | ((with_reducible refine wpR_go ?_ ?_); (focus (with_reducible assumption))) | ((with_reducible refine upon_id ?_); refine upon_fop rfl (by assumption) (by assumption) ?_; intro rr nn hr) | (go_at_call 198; ((with_reducible refine (hnb _ hD1).mono ?_); rintro e w1 ⟨v, rfl, hv, o3, n3, rfl⟩; (obtain ⟨va, vc, rfl⟩ := hv.shape); (rw [lN] at hv); (have D2 : But V [k] (ext V1 o3 n3) := D1.grew (by (show Grew _ _; (try simp only [← Array.append_assoc]); repeat (first | (with_reducible exact Grew.same_o) | (with_reducible exact Grew.refl _) | (with_reducible assumption) | (with_reducible refine Grew.alloc ?_ _) | (with_reducible refine Grew.app_r ?_) | ((with_reducible refine Grew.setCell ?_ ?_ _); rotate_left; (focus (dsimp only; first | omega | (simp only [size_ext, World.size_alloc, Array.size_append]; omega)))) | (with_reducible refine Grew.ext ?_ _ _) | (with_reducible refine Grew.drewN ?_ _) | (with_reducible refine Grew.drew ?_))))))))
  have F3 := hw3.fw (F1.ext o3 n3)
  rw [cpl_all (by rw [List.length_replicate]; exact lN.symm)] at F3
  have q4 := t4 _ D3
  have Y2' := Box.but2 Y2 D3 (by simpa using n2k)
  have q2 := Y2'.cell
  have f2 := Y2'.frozen
  have l2 := Y2'.lt
  have z3 := D3.size
  have l4 : p4 < w3.heap.size := Nat.lt_of_lt_of_le Y4.lt z3
  have g3 : Grew w w3 := D3.grew0 gw (by intro q hq; simp at hq; omega)
  clear t1 t4 hnb hw3 D3
  go_wp2
  refine bodyPost_ret (v := .tuple #[.agg #[.slice (some ⟨k, 0, none⟩) (R * C) (R * C), .int .i64 0, .int .i64 R, .int .i64 C, .int .i64 LD], .int .i64 0]) (by simp [results, Try.results163, go_sem, *]) rfl ?_
  exact ⟨k, rfl, zwk, by (repeat (first | (with_reducible assumption) | ((with_reducible refine FW.ext_set ?_ ?_ ?_ _); rotate_left; (focus (simp only [size_setCell', World.size_alloc, size_ext, size_upd]; omega)); (focus (dsimp only; omega))) | ((with_reducible refine FW.setCell_ne ?_ ?_ _); rotate_left; (focus (dsimp only; omega))) | (with_reducible refine FW.ext ?_ _ _) | (with_reducible refine FW.alloc ?_ _))), by (show Grew _ _; repeat (first | (with_reducible exact Grew.refl _) | (with_reducible assumption) | (with_reducible exact Grew.same_o) | (with_reducible exact Grew.app_o) | (with_reducible refine Grew.ext ?_ _ _) | (with_reducible refine Grew.alloc ?_ _) | ((with_reducible refine Grew.setCell ?_ ?_ _); rotate_left; (focus (dsimp only; first | omega | (simp only [size_ext, World.size_alloc, Array.size_append]; omega)))) | (with_reducible refine Grew.drewN ?_ _) | (with_reducible refine Grew.drew ?_)))⟩
end Go.Proofs.Ytcmggfpcbijcjaa
end
