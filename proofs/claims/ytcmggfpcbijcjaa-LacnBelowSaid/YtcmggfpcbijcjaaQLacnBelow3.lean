/-
  Texts laid one behind the other (a claim has at most 60 files): LacP, LacP2, Mk, Ld, Ld2, Axes1, Vec3, Axes2, Vecs, LawSums, Axes3, Fork, Bnd, Ger3, Axes4, OwnI, Dig, Dint, Dy1, Boxd, GrewA, BoxS.
-/
import Derived.Deep.CutBlock
import Derived.Deep.DeepCutAuto
import Derived.Maps.AppendAt
import Derived.Test.YtcmggfpcbijcjaaQLacnBelow1
import Derived.Test.YtcmggfpcbijcjaaQLacnBelow2
section
/-
  Plain laws for LacnBelow (layer 20): what products and sums of them are worth, nearly.
-/
set_option linter.unusedSimpArgs false
set_option linter.unusedVariables false
namespace Go.Proofs.Ytcmggfpcbijcjaa
open Go Go.RowKit Sedge Ieee
/-- What is written of a number below 2^53 is finite. -/
theorem write_small {s : Bool} {m : Nat} {p : Int} (h : (dat s m p).abs < p2 53) : fin (D64.write (.number s m p)) = true ∧ D64.write (.number s m p) < 2 ^ 64 := by
  by_cases h0 : m = 0
  · subst h0
    have e : D64.write (.number s 0 p) = D64.word s 0 := by
      show D64.nearest s 0 p = _; unfold Format.nearest; rw [if_pos rfl]
    rw [e]
    exact ⟨(word_zero s).2, word_lt s 0 (by decide +kernel)⟩
  · have ew : D64.write (.number s m p) = D64.nearest s m p := rfl
    rw [ew]
    rw [dat_abs] at h
    obtain ⟨hl1, hl2⟩ := log2_spec m h0
    have hlog : p + m.log2 ≤ 52 := by
      rcases (show p + m.log2 < 53 ∨ 53 ≤ p + m.log2 by omega) with h1 | h1
      · omega
      · exfalso
        have a1 : p2 53 ≤ p2 (p + m.log2) := p2_mono h1
        have a2 : p2 (p + m.log2) ≤ (m : Rat) * p2 p := by
          rw [p2_add, Rat.mul_comm]
          refine Rat.mul_le_mul_of_nonneg_right ?_ (Rat.le_of_lt (p2_pos p))
          rw [p2_nat]; exact Rat.natCast_le_natCast.2 hl1
        grind
    have hge := lastP_ge m p
    have hk := kept_le m p h0
    have hl0 : lastP m p ≤ 0 := by unfold lastP; omega
    have hlt : (lastP m p + 1074).toNat * BN + keptP m p < IR := by
      have h1 : (lastP m p + 1074).toNat ≤ 1074 := by omega
      have h2 := Nat.mul_le_mul_right BN h1
      have h3 : 1074 * BN + 2 ^ 53 < IR := by decide +kernel
      omega
    refine ⟨?_, ?_⟩
    · rw [nearest_eq s m p h0, Nat.min_eq_left (Nat.le_of_lt hlt)]
      have hor : 2 ^ 52 ≤ keptP m p ∨ lastP m p = -1074 := by
        rcases lastP_or m p with h1 | h1
        · exact .inl (kept_ge m p h0 h1)
        · exact .inr h1.1
      obtain ⟨m', q, hr, _⟩ := read_kept s (lastP m p) (keptP m p) hge hk hor hlt
      exact fin_of_read hr
    · rw [nearest_eq s m p h0, Nat.min_eq_left (Nat.le_of_lt hlt)]
      exact word_lt s _ (Nat.lt_trans hlt (by decide +kernel))
/-- The word x is worth q. -/
def FV (x : Nat) (q : Rat) : Prop := x < 2 ^ 64 ∧ fin x = true ∧ val x = q
theorem _root_.Sedge.WI.fv {x : Nat} {z : Int} (h : WI x z) : FV x (z : Rat) := h
theorem zero_abs : (0 : Rat).abs = 0 := by decide +kernel
theorem abs_zero {x : Rat} (h : x.abs ≤ 0) : x = 0 := by
  have h1 := le_abs x
  have h2 := neg_le_abs x
  grind
theorem fadd_fv {x y : Nat} {p q : Rat} (hx : FV x p) (hy : FV y q) (h : (p + q).abs < p2 53) : ∃ r, FV (fadd x y) r ∧ (r - (p + q)).abs ≤ U * (p + q).abs := by
  obtain ⟨x1, x2, x3⟩ := hx
  obtain ⟨y1, y2, y3⟩ := hy
  obtain ⟨c, z, b, h1, h2, h3⟩ := fadd_read' x1 y1 x2 y2
  rw [x3, y3] at h3
  have h4 := write_small (s := c) (m := z) (p := b) (by rw [h3]; exact h)
  have h5 := write_err' c z b h2 h4.1
  rw [← h1] at h4 h5
  rw [h3] at h5
  exact ⟨_, ⟨h4.2, h4.1, rfl⟩, h5⟩
theorem write_fv {s : Bool} {m : Nat} {p : Int} {q : Rat} (e : dat s m p = q) (h : q.abs < p2 53) : ∃ r, FV (D64.write (.number s m p)) r ∧ (r - q).abs ≤ U * q.abs + ETA ∧ (q = 0 → r = 0) := by
  subst e
  have h4 := write_small h
  have h5 := write_err s m p h4.1
  refine ⟨_, ⟨h4.2, h4.1, rfl⟩, h5, fun h0 => ?_⟩
  have hm := dat_eq_zero h0
  subst hm
  have e : D64.write (.number s 0 p) = D64.word s 0 := by
    show D64.nearest s 0 p = _; unfold Format.nearest; rw [if_pos rfl]
  rw [e]; exact (word_zero s).1
theorem fmul_fv {x y : Nat} {p q : Rat} (hx : FV x p) (hy : FV y q) (h : (p * q).abs < p2 53) : ∃ r, FV (fmul x y) r ∧ (r - p * q).abs ≤ U * (p * q).abs + ETA ∧ (p * q = 0 → r = 0) := by
  obtain ⟨c, z, b, h1, h2⟩ := fmul_read hx.2.1 hy.2.1
  rw [hx.2.2, hy.2.2] at h2
  rw [h1]
  exact write_fv h2 h
theorem fdiv_fv {x y : Nat} {p q : Rat} (hx : FV x p) (hy : FV y q) (hq : q ≠ 0) (h : p.abs ≤ p2 50 * q.abs) : ∃ r, FV (fdiv x y) r ∧ (r * q - p).abs ≤ 3 * U * p.abs + ETA * q.abs ∧ (p = 0 → r = 0) := by
  obtain ⟨c, z, b, h1, h2⟩ := fdiv_read hx.2.1 hy.2.1 (by rw [hy.2.2]; exact hq)
  rw [hx.2.2, hy.2.2] at h2
  obtain ⟨d, hd⟩ : ∃ d, dat c z b = d := ⟨_, rfl⟩
  rw [hd] at h2
  have hU := U_pos
  have hU1 := U_le
  have p0 : 0 ≤ p.abs := Rat.abs_nonneg
  have d0 : 0 ≤ d.abs := Rat.abs_nonneg
  have q0 : 0 < q.abs := by
    by_cases h9 : q.abs ≤ 0
    · exact absurd (abs_zero h9) hq
    · exact Rat.not_le.1 h9
  have a1 := abs_add_le p (d * q - p)
  rw [show p + (d * q - p) = d * q by grind, abs_mul] at a1
  have a2 : d.abs * q.abs ≤ 2 * p.abs := by
    have := Rat.mul_le_mul_of_nonneg_right hU1 p0
    grind
  have a3 : d.abs < p2 53 := by
    have e : p2 53 = 8 * p2 50 := by decide +kernel
    rw [e]
    by_cases h3 : 8 * p2 50 ≤ d.abs
    · exfalso
      have h4 := Rat.mul_le_mul_of_nonneg_right h3 (Rat.le_of_lt q0)
      have h5 := Rat.mul_pos (p2_pos 50) q0
      grind
    · exact Rat.not_le.1 h3
  obtain ⟨r, h3, h4, h5⟩ := write_fv hd a3
  rw [← h1] at h3
  have hp0 : p = 0 → d = 0 := fun e => by
    subst e
    rw [zero_abs] at a2
    by_cases h9 : d.abs ≤ 0
    · exact abs_zero h9
    · have := Rat.mul_pos (Rat.not_le.1 h9) q0; grind
  refine ⟨r, h3, ?_, fun e => h5 (hp0 e)⟩
  have b1 := abs_add_le ((r - d) * q) (d * q - p)
  rw [show (r - d) * q + (d * q - p) = r * q - p by grind, abs_mul] at b1
  have b2 := Rat.mul_le_mul_of_nonneg_right h4 (Rat.le_of_lt q0)
  have b3 := Rat.mul_le_mul_of_nonneg_left a2 (Rat.le_of_lt hU)
  grind
theorem fabs_fv {x : Nat} {p : Rat} (hx : FV x p) : FV (fabs x) p.abs := by
  obtain ⟨h1, h2, h3⟩ := hx
  have h4 := fabs_val h1
  exact ⟨fabs_lt h1, h4.1.trans h2, by rw [h4.2 h2, h3]⟩
/-- Sums. -/
def sumQ (f : Nat → Rat) : Nat → Rat
  | 0 => 0
  | n + 1 => sumQ f n + f n
theorem sumQ_congr {f g : Nat → Rat} : ∀ n, (∀ m, m < n → f m = g m) → sumQ f n = sumQ g n
  | 0, _ => rfl
  | n + 1, h => by
    show sumQ f n + f n = sumQ g n + g n
    rw [sumQ_congr n (fun m hm => h m (by omega)), h n (by omega)]
theorem sumQ_le {f g : Nat → Rat} : ∀ n, (∀ m, m < n → f m ≤ g m) → sumQ f n ≤ sumQ g n
  | 0, _ => Rat.le_refl
  | n + 1, h => by
    have h1 := sumQ_le n (fun m hm => h m (by omega))
    have h2 := h n (by omega)
    show sumQ f n + f n ≤ sumQ g n + g n
    grind
theorem sumQ_abs {f : Nat → Rat} : ∀ n, (sumQ f n).abs ≤ sumQ (fun m => (f m).abs) n
  | 0 => by show (0 : Rat).abs ≤ 0; rw [zero_abs]; exact Rat.le_refl
  | n + 1 => by
    have h1 := sumQ_abs (f := f) n
    have h2 := abs_add_le (sumQ f n) (f n)
    show (sumQ f n + f n).abs ≤ sumQ (fun m => (f m).abs) n + (f n).abs
    grind
theorem sumQ_nn {f : Nat → Rat} : ∀ n, (∀ m, m < n → 0 ≤ f m) → 0 ≤ sumQ f n
  | 0, _ => Rat.le_refl
  | n + 1, h => by
    have h1 := sumQ_nn n (fun m hm => h m (by omega))
    have h2 := h n (by omega)
    show 0 ≤ sumQ f n + f n
    grind
theorem sumQ_add (f g : Nat → Rat) : ∀ n, sumQ (fun m => f m + g m) n = sumQ f n + sumQ g n
  | 0 => by show (0 : Rat) = 0 + 0; grind
  | n + 1 => by
    show sumQ (fun m => f m + g m) n + (f n + g n) = (sumQ f n + f n) + (sumQ g n + g n)
    rw [sumQ_add f g n]; grind
theorem sumQ_mul (a : Rat) (f : Nat → Rat) : ∀ n, sumQ (fun m => a * f m) n = a * sumQ f n
  | 0 => by show (0 : Rat) = a * 0; grind
  | n + 1 => by
    show sumQ (fun m => a * f m) n + a * f n = a * (sumQ f n + f n)
    rw [sumQ_mul a f n]; grind
theorem sumQ_zero : ∀ n, sumQ (fun _ => 0) n = 0
  | 0 => rfl
  | n + 1 => by show sumQ (fun _ => 0) n + 0 = 0; rw [sumQ_zero n]; grind
theorem sumQ_swap (f : Nat → Nat → Rat) (m : Nat) : ∀ n, sumQ (fun i => sumQ (f i) m) n = sumQ (fun j => sumQ (fun i => f i j) n) m
  | 0 => (sumQ_zero m).symm
  | n + 1 => by
    show sumQ (fun i => sumQ (f i) m) n + sumQ (f n) m = sumQ (fun j => sumQ (fun i => f i j) n + f n j) m
    rw [sumQ_swap f m n, sumQ_add]
theorem sumQ_const (c : Rat) : ∀ n : Nat, sumQ (fun _ => c) n = n * c
  | 0 => by show (0 : Rat) = _; simp
  | n + 1 => by
    show sumQ (fun _ => c) n + c = _
    rw [sumQ_const c n, Rat.natCast_add]
    have : ((1 : Nat) : Rat) = 1 := rfl
    rw [this]; grind
/-- A product that isn't tiny, or nothing: the error is a part of it. -/
theorem fmul_part {x y : Nat} {p q : Rat} (hx : FV x p) (hy : FV y q) (h : (p * q).abs < p2 53) (h0 : p * q = 0 ∨ p2 (-20) ≤ (p * q).abs) : ∃ r, FV (fmul x y) r ∧ (r - p * q).abs ≤ 2 * U * (p * q).abs := by
  obtain ⟨r, h1, h2, h3⟩ := fmul_fv hx hy h
  refine ⟨r, h1, ?_⟩
  rcases h0 with h0 | h0
  · rw [h3 h0, h0, show (0 : Rat) - 0 = 0 by grind, zero_abs]; grind
  · have hU := U_pos
    have e : ETA ≤ U * p2 (-20) := by unfold ETA U; rw [← p2_add]; exact p2_mono (by decide)
    have := Rat.mul_le_mul_of_nonneg_left h0 (Rat.le_of_lt hU)
    grind
/-- A step of a sum. -/
theorem step_err {S E P T Q B : Rat} {k : Nat} (hk : k ≤ 64) (h1 : (S - E).abs ≤ 4 * k * (U * B)) (hE : E.abs ≤ B) (h2 : (P - T).abs ≤ 2 * U * T.abs) (h3 : (Q - (S + P)).abs ≤ U * (S + P).abs) :
    (Q - (E + T)).abs ≤ 4 * ((k + 1 : Nat) : Rat) * (U * (B + T.abs)) ∧ (S + P).abs ≤ 2 * (B + T.abs) := by
  have hU := U_pos
  have hU1 := U_small
  have t0 : 0 ≤ T.abs := Rat.abs_nonneg
  have b0 : 0 ≤ B := Rat.le_trans Rat.abs_nonneg hE
  have e1 : ((k + 1 : Nat) : Rat) = (k : Rat) + 1 := by rw [Rat.natCast_add]; rfl
  have k0 : (0 : Rat) ≤ (k : Rat) := Rat.natCast_nonneg
  have k1 : (k : Rat) ≤ 64 := by have := Rat.natCast_le_natCast.2 hk; exact this
  rw [e1]
  generalize (k : Rat) = K at *
  have ub : 0 ≤ U * B := Rat.mul_nonneg (Rat.le_of_lt hU) b0
  have ut : 0 ≤ U * T.abs := Rat.mul_nonneg (Rat.le_of_lt hU) t0
  have kub : K * (U * B) ≤ 64 * (U * B) := Rat.mul_le_mul_of_nonneg_right k1 ub
  have ub1 : 4096 * (U * B) ≤ B := by have := Rat.mul_le_mul_of_nonneg_right hU1 b0; grind
  have ut1 : 4096 * (U * T.abs) ≤ T.abs := by have := Rat.mul_le_mul_of_nonneg_right hU1 t0; grind
  have kut : 0 ≤ K * (U * T.abs) := Rat.mul_nonneg k0 ut
  have a1 := abs_add_le (S - E) (P - T)
  have a2 := abs_add_le E T
  have a3 := abs_add_le ((S - E) + (P - T)) (E + T)
  rw [show (S - E) + (P - T) + (E + T) = S + P by grind] at a3
  have a4 := abs_add_le (Q - (S + P)) ((S - E) + (P - T))
  rw [show Q - (S + P) + ((S - E) + (P - T)) = Q - (E + T) by grind] at a4
  have a5 : (S + P).abs ≤ 2 * (B + T.abs) := by grind
  have a6 := Rat.mul_le_mul_of_nonneg_left a5 (Rat.le_of_lt hU)
  exact ⟨by grind, a5⟩
/-- A row's product: numbers a, of whole numbers; y, no tiny ones. -/
theorem row_fv {M : Nat → Nat → Nat} {Y : Nat → Nat} {a : Nat → Int} {y : Nat → Rat} {i n : Nat} (hn : n ≤ 12) (hM : ∀ j, j < n → WI (M i j) (a j) ∧ (a j).natAbs ≤ 1000) (hY : ∀ j, j < n → FV (Y j) (y j) ∧ (y j).abs ≤ 3 ∧ (y j = 0 ∨ p2 (-10) ≤ (y j).abs)) :
    ∀ k, k ≤ n → ∃ r, FV (mulTo 4607182418800017408 M Y 0 i k) r ∧ (r - sumQ (fun j => y j * a j) k).abs ≤ 4 * k * (U * sumQ (fun j => (y j).abs * (a j : Rat).abs) k) ∧ sumQ (fun j => (y j).abs * (a j : Rat).abs) k ≤ k * 3000
  | 0, _ => ⟨0, WI.zero.fv, by show ((0 : Rat) - 0).abs ≤ _; rw [show (0 : Rat) - 0 = 0 by grind, zero_abs]; simp, by show (0 : Rat) ≤ _; simp⟩
  | k + 1, hk => by
    obtain ⟨S, hS, h1, hB⟩ := row_fv hn hM hY k (by omega)
    obtain ⟨m1, m2⟩ := hM k (by omega)
    obtain ⟨y1, y2, y3⟩ := hY k (by omega)
    have a1 : (a k : Rat).abs ≤ 1000 := by
      have : (a k : Rat).abs = ((a k).natAbs : Rat) := by
        rcases (show a k < 0 ∨ 0 ≤ a k by omega) with h | h
        · rw [show (a k : Rat) = -(((a k).natAbs : Nat) : Rat) by rw [← Rat.intCast_natCast, ← Rat.intCast_neg]; congr 1; omega, Rat.abs_neg]; exact Rat.abs_of_nonneg Rat.natCast_nonneg
        · rw [show (a k : Rat) = (((a k).natAbs : Nat) : Rat) by rw [← Rat.intCast_natCast]; congr 1; omega]; exact Rat.abs_of_nonneg Rat.natCast_nonneg
      rw [this]; exact Rat.natCast_le_natCast.2 m2
    have a2 : a k = 0 ∨ 1 ≤ (a k : Rat).abs := by
      by_cases h : a k = 0
      · exact .inl h
      · refine .inr ?_
        rcases (show a k ≤ -1 ∨ 1 ≤ a k by omega) with h | h
        · have h2 : (a k : Rat) ≤ -1 := Rat.intCast_le_intCast.2 h
          have := neg_le_abs (a k : Rat); grind
        · have h2 : (1 : Rat) ≤ (a k : Rat) := Rat.intCast_le_intCast.2 h
          have := le_abs (a k : Rat); grind
    have a0 : 0 ≤ (a k : Rat).abs := Rat.abs_nonneg
    have y0 : 0 ≤ (y k).abs := Rat.abs_nonneg
    obtain ⟨u, hu1, hu2, hu3⟩ := fmul_fv WI.one.fv y1 (by
      rw [show ((1 : Int) : Rat) * y k = y k by have : ((1 : Int) : Rat) = 1 := rfl
                                                rw [this]; grind]
      have : (3 : Rat) < p2 53 := by decide +kernel
      grind)
    have e1 : FV (fmul 4607182418800017408 (Y k)) (y k) := by
      have := fmul_one y1.1 hu1.2.1
      exact ⟨hu1.1, hu1.2.1, this.trans y1.2.2⟩
    have t1 : (y k * (a k : Rat)).abs = (y k).abs * (a k : Rat).abs := abs_mul _ _
    have t2 : (y k).abs * (a k : Rat).abs ≤ 3000 := by
      have h1 := Rat.mul_le_mul_of_nonneg_right y2 a0
      grind
    have h30 : (3000 : Rat) < p2 53 := by decide +kernel
    obtain ⟨P, hP, hP2⟩ := fmul_part e1 m1.fv (by rw [t1]; grind) (by
      rcases a2 with h | h
      · left; rw [h]; show y k * 0 = 0; grind
      · rcases y3 with h3 | h3
        · left; rw [h3]; grind
        · right; rw [t1]
          have q1 := Rat.mul_le_mul_of_nonneg_left h y0
          have q2 : p2 (-20) ≤ p2 (-10) := p2_mono (by decide)
          grind)
    have hE : (sumQ (fun j => y j * a j) k).abs ≤ sumQ (fun j => (y j).abs * (a j : Rat).abs) k := by
      refine Rat.le_trans (sumQ_abs k) (sumQ_le k fun m _ => ?_)
      rw [abs_mul]; exact Rat.le_refl
    have hk3 : ((k + 1 : Nat) : Rat) = (k : Rat) + 1 := by rw [Rat.natCast_add]; rfl
    have hk4 : (k : Rat) ≤ 12 := Rat.natCast_le_natCast.2 (show k ≤ 12 by omega)
    have hB' : sumQ (fun j => (y j).abs * (a j : Rat).abs) (k + 1) ≤ ((k + 1 : Nat) : Rat) * 3000 := by
      show sumQ (fun j => (y j).abs * (a j : Rat).abs) k + (y k).abs * (a k : Rat).abs ≤ _
      rw [hk3]; grind
    have hs := step_err (S := S) (E := sumQ (fun j => y j * a j) k) (P := P) (T := y k * a k) (Q := S + P) (B := sumQ (fun j => (y j).abs * (a j : Rat).abs) k) (k := k) (by omega) h1 hE hP2 (by
      rw [show S + P - (S + P) = 0 by grind, zero_abs]; exact Rat.mul_nonneg (Rat.le_of_lt U_pos) Rat.abs_nonneg)
    obtain ⟨Q, hQ, hQ2⟩ := fadd_fv hS hP (by
      have := hs.2
      rw [t1] at this
      have h5 : (2 * 39000 : Rat) < p2 53 := by decide +kernel
      grind)
    have hs2 := step_err (S := S) (E := sumQ (fun j => y j * a j) k) (P := P) (T := y k * a k) (Q := Q) (B := sumQ (fun j => (y j).abs * (a j : Rat).abs) k) (k := k) (by omega) h1 hE hP2 hQ2
    rw [t1] at hs2
    exact ⟨Q, hQ, hs2.1, hB'⟩
/-- A sum of numbers not below nothing. -/
theorem sum_fv {l : List Nat} {v : Nat → Rat} {n : Nat} (hn : n ≤ 12) (hv : ∀ k, k < n → FV (l.getD k 0) (v k) ∧ 0 ≤ v k ∧ v k ≤ 100000) :
    ∀ k, k ≤ n → ∃ r, FV (fsumTo l k) r ∧ (r - sumQ v k).abs ≤ 4 * k * (U * sumQ v k) ∧ 0 ≤ sumQ v k ∧ sumQ v k ≤ k * 100000
  | 0, _ => ⟨0, WI.zero.fv, by show ((0 : Rat) - 0).abs ≤ _; rw [show (0 : Rat) - 0 = 0 by grind, zero_abs]; simp, by show (0 : Rat) ≤ 0; exact Rat.le_refl, by show (0 : Rat) ≤ _; simp⟩
  | k + 1, hk => by
    obtain ⟨S, hS, h1, hB, hB2⟩ := sum_fv hn hv k (by omega)
    obtain ⟨v1, v2, v3⟩ := hv k (by omega)
    have t1 : (v k).abs = v k := Rat.abs_of_nonneg v2
    have hE : (sumQ v k).abs ≤ sumQ v k := by rw [Rat.abs_of_nonneg hB]; exact Rat.le_refl
    have hk3 : ((k + 1 : Nat) : Rat) = (k : Rat) + 1 := by rw [Rat.natCast_add]; rfl
    have hk4 : (k : Rat) ≤ 12 := Rat.natCast_le_natCast.2 (show k ≤ 12 by omega)
    have hU := U_pos
    have hP2 : (v k - v k).abs ≤ 2 * U * (v k).abs := by
      rw [show v k - v k = 0 by grind, zero_abs]
      have := Rat.mul_nonneg (Rat.le_of_lt hU) (Rat.abs_nonneg (x := v k)); grind
    have hs := step_err (S := S) (E := sumQ v k) (P := v k) (T := v k) (Q := S + v k) (B := sumQ v k) (k := k) (by omega) h1 hE hP2 (by
      rw [show S + v k - (S + v k) = 0 by grind, zero_abs]; exact Rat.mul_nonneg (Rat.le_of_lt U_pos) Rat.abs_nonneg)
    obtain ⟨Q, hQ, hQ2⟩ := fadd_fv hS v1 (by
      have := hs.2
      rw [t1] at this
      have h5 : (2 * 1300000 : Rat) < p2 53 := by decide +kernel
      grind)
    have hs2 := step_err (S := S) (E := sumQ v k) (P := v k) (T := v k) (Q := Q) (B := sumQ v k) (k := k) (by omega) h1 hE hP2 hQ2
    rw [t1] at hs2
    refine ⟨Q, hQ, hs2.1, ?_, ?_⟩
    · show 0 ≤ sumQ v k + v k; grind
    · show sumQ v k + v k ≤ _; rw [hk3]; grind
end Go.Proofs.Ytcmggfpcbijcjaa
end
section
/-
  Plain laws for LacnBelow: the estimates' bounds.
-/
set_option linter.unusedSimpArgs false
set_option linter.unusedVariables false
namespace Go.Proofs.Ytcmggfpcbijcjaa
open Go Go.RowKit Sedge Ieee
def colQ (a : Nat → Nat → Int) (n j : Nat) : Rat := sumQ (fun i => (a i j : Rat).abs) n
def normQ (a : Nat → Nat → Int) (n : Nat) : Nat → Rat
  | 0 => 0
  | m + 1 => if normQ a n m < colQ a n m then colQ a n m else normQ a n m
def meanQ (a : Nat → Nat → Int) (n : Nat) : Rat := sumQ (fun i => (sumQ (fun j => (a i j : Rat)) n).abs) n
theorem normQ_ge {a : Nat → Nat → Int} {n : Nat} : ∀ m j, j < m → colQ a n j ≤ normQ a n m
  | 0, _, h => by omega
  | m + 1, j, h => by
    show _ ≤ (if normQ a n m < colQ a n m then colQ a n m else normQ a n m)
    by_cases e : j = m
    · subst e
      split
      · exact Rat.le_refl
      · next h1 => exact Rat.not_lt.1 h1
    · have := normQ_ge (a := a) (n := n) m j (by omega)
      split
      · next h1 => exact Rat.le_trans this (Rat.le_of_lt h1)
      · exact this
theorem abs_int (z : Int) : (z : Rat).abs = ((z.natAbs : Nat) : Rat) := by
  rcases (show z < 0 ∨ 0 ≤ z by omega) with h | h
  · rw [show (z : Rat) = -(((z).natAbs : Nat) : Rat) by rw [← Rat.intCast_natCast, ← Rat.intCast_neg]; congr 1; omega, Rat.abs_neg]; exact Rat.abs_of_nonneg Rat.natCast_nonneg
  · rw [show (z : Rat) = (((z).natAbs : Nat) : Rat) by rw [← Rat.intCast_natCast]; congr 1; omega]; exact Rat.abs_of_nonneg Rat.natCast_nonneg
theorem sumQ_nat (f : Nat → Nat) : ∀ n, ∃ z : Nat, sumQ (fun i => (f i : Rat)) n = z
  | 0 => ⟨0, rfl⟩
  | n + 1 => by
    obtain ⟨z, hz⟩ := sumQ_nat f n
    exact ⟨z + f n, by show sumQ (fun i => (f i : Rat)) n + _ = _; rw [hz, Rat.natCast_add]⟩
theorem normQ_nat (a : Nat → Nat → Int) (n : Nat) : ∀ m, ∃ z : Nat, normQ a n m = z
  | 0 => ⟨0, rfl⟩
  | m + 1 => by
    obtain ⟨z, hz⟩ := normQ_nat a n m
    obtain ⟨y, hy⟩ := sumQ_nat (fun i => (a i m).natAbs) n
    have hc : colQ a n m = (y : Rat) := by unfold colQ; rw [← hy]; exact sumQ_congr n fun i _ => abs_int _
    show ∃ z : Nat, (if normQ a n m < colQ a n m then colQ a n m else normQ a n m) = z
    split
    · exact ⟨y, hc⟩
    · exact ⟨z, hz⟩
theorem normQ_cases (a : Nat → Nat → Int) (n : Nat) : normQ a n n = 0 ∨ 1 ≤ normQ a n n := by
  obtain ⟨z, hz⟩ := normQ_nat a n n
  rw [hz]
  rcases Nat.eq_zero_or_pos z with h | h
  · left; rw [h]; rfl
  · right; exact Rat.natCast_le_natCast.2 h
theorem normQ_nn (a : Nat → Nat → Int) (n : Nat) : 0 ≤ normQ a n n := by
  rcases normQ_cases a n with h | h <;> grind
theorem all_le {a : Nat → Nat → Int} {y : Nat → Rat} {n : Nat} : sumQ (fun i => sumQ (fun j => (y j).abs * (a i j : Rat).abs) n) n ≤ normQ a n n * sumQ (fun j => (y j).abs) n := by
  rw [sumQ_swap (fun i j => (y j).abs * (a i j : Rat).abs), ← sumQ_mul]
  refine sumQ_le n fun j hj => ?_
  rw [sumQ_mul]
  have h1 := normQ_ge (a := a) (n := n) n j hj
  unfold colQ at h1
  have := Rat.mul_le_mul_of_nonneg_left h1 (Rat.abs_nonneg (x := y j))
  grind
theorem mean_le (a : Nat → Nat → Int) (n : Nat) : meanQ a n ≤ normQ a n n * n := by
  have h := all_le (a := a) (y := fun _ => 1) (n := n)
  have h1 : (1 : Rat).abs = 1 := by decide +kernel
  rw [h1, sumQ_const] at h
  have e : (n : Rat) * 1 = n := by grind
  rw [e] at h
  refine Rat.le_trans (sumQ_le n fun i _ => ?_) h
  refine Rat.le_trans (sumQ_abs n) (sumQ_le n fun j _ => ?_)
  grind
/-- The sum of a product's numbers without signs. -/
theorem cand_fv {M : Nat → Nat → Nat} {Y : Nat → Nat} {a : Nat → Nat → Int} {y : Nat → Rat} {n : Nat} {l : List Nat} (hn : n ≤ 12) (hM : ∀ i j, i < n → j < n → WI (M i j) (a i j) ∧ (a i j).natAbs ≤ 1000) (hY : ∀ j, j < n → FV (Y j) (y j) ∧ (y j).abs ≤ 3 ∧ (y j = 0 ∨ p2 (-10) ≤ (y j).abs))
    (hl : ∀ i, i < n → l.getD i 0 = fabs (mulTo 4607182418800017408 M Y 0 i n)) :
    ∃ s, FV (fsumTo l n) s ∧ (0 ≤ s ∧ s ≤ 3000000) ∧ s ≤ (1 + 100 * U) * (normQ a n n * sumQ (fun j => (y j).abs) n) ∧ sumQ (fun i => (sumQ (fun j => y j * a i j) n).abs) n ≤ s + 100 * U * (normQ a n n * sumQ (fun j => (y j).abs) n) := by
  have hU := U_pos
  have hU1 := U_small
  have n1 : (n : Rat) ≤ 12 := Rat.natCast_le_natCast.2 hn
  have n0 : (0 : Rat) ≤ n := Rat.natCast_nonneg
  have hr : ∀ i, i < n → FV (mulTo 4607182418800017408 M Y 0 i n) (val (mulTo 4607182418800017408 M Y 0 i n)) ∧ (val (mulTo 4607182418800017408 M Y 0 i n) - sumQ (fun j => y j * a i j) n).abs ≤ 48 * (U * sumQ (fun j => (y j).abs * (a i j : Rat).abs) n) ∧ sumQ (fun j => (y j).abs * (a i j : Rat).abs) n ≤ 36000 ∧ 0 ≤ sumQ (fun j => (y j).abs * (a i j : Rat).abs) n := fun i hi => by
    obtain ⟨r, h1, h2, h3⟩ := row_fv (i := i) hn (fun j hj => hM i j hi hj) hY n (Nat.le_refl _)
    have h4 : 0 ≤ sumQ (fun j => (y j).abs * (a i j : Rat).abs) n := sumQ_nn n fun j _ => Rat.mul_nonneg Rat.abs_nonneg Rat.abs_nonneg
    rw [h1.2.2]
    have h5 : 0 ≤ U * sumQ (fun j => (y j).abs * (a i j : Rat).abs) n := Rat.mul_nonneg (Rat.le_of_lt hU) h4
    have h6 := Rat.mul_le_mul_of_nonneg_right n1 h5
    exact ⟨h1, by grind, by grind, h4⟩
  obtain ⟨x, hx⟩ : ∃ x : Nat → Rat, x = fun i => val (mulTo 4607182418800017408 M Y 0 i n) := ⟨_, rfl⟩
  obtain ⟨E, hE⟩ : ∃ E : Nat → Rat, E = fun i => sumQ (fun j => y j * a i j) n := ⟨_, rfl⟩
  obtain ⟨B, hB⟩ : ∃ B : Nat → Rat, B = fun i => sumQ (fun j => (y j).abs * (a i j : Rat).abs) n := ⟨_, rfl⟩
  have hEB : ∀ i, (E i).abs ≤ B i := fun i => by
    rw [hE, hB]
    refine Rat.le_trans (sumQ_abs n) (sumQ_le n fun m _ => ?_)
    rw [abs_mul]; exact Rat.le_refl
  have hx1 : ∀ i, i < n → FV (mulTo 4607182418800017408 M Y 0 i n) (x i) ∧ (x i - E i).abs ≤ 48 * (U * B i) ∧ B i ≤ 36000 ∧ 0 ≤ B i := fun i hi => by
    rw [hx, hE, hB]; exact hr i hi
  have hx2 : ∀ i, i < n → (x i).abs ≤ (1 + 48 * U) * B i ∧ (E i).abs ≤ (x i).abs + 48 * U * B i ∧ (x i).abs ≤ 100000 := fun i hi => by
    obtain ⟨_, h1, h2, h3⟩ := hx1 i hi
    have h4 := hEB i
    have a1 := abs_add_le (x i - E i) (E i)
    rw [show x i - E i + E i = x i by grind] at a1
    have a2 := abs_add_le (E i - x i) (x i)
    rw [show E i - x i + x i = E i by grind, show E i - x i = -(x i - E i) by grind, Rat.abs_neg] at a2
    have h5 := Rat.mul_le_mul_of_nonneg_right hU1 h3
    exact ⟨by grind, by grind, by grind⟩
  obtain ⟨s, h1, h2, h3, h4⟩ := sum_fv (l := l) (v := fun i => (x i).abs) hn (fun k hk => by
    rw [hl k hk]
    exact ⟨fabs_fv (hx1 k hk).1, Rat.abs_nonneg, (hx2 k hk).2.2⟩) n (Nat.le_refl _)
  have hS : sumQ B n ≤ normQ a n n * sumQ (fun j => (y j).abs) n := by rw [hB]; exact all_le
  have b1 : sumQ (fun i => (x i).abs) n ≤ (1 + 48 * U) * sumQ B n := by
    rw [← sumQ_mul]; exact sumQ_le n fun i hi => (hx2 i hi).1
  have b2 : sumQ (fun i => (E i).abs) n ≤ sumQ (fun i => (x i).abs) n + 48 * U * sumQ B n := by
    rw [← sumQ_mul, ← sumQ_add]; exact sumQ_le n fun i hi => (hx2 i hi).2.1
  have b0 : 0 ≤ sumQ B n := sumQ_nn n fun i hi => (hx1 i hi).2.2.2
  have hEe : sumQ (fun i => (sumQ (fun j => y j * a i j) n).abs) n = sumQ (fun i => (E i).abs) n := by rw [hE]
  rw [hEe]
  generalize sumQ (fun i => (E i).abs) n = SE at *
  generalize sumQ B n = SB at *
  generalize sumQ (fun i => (x i).abs) n = SX at *
  generalize normQ a n n * sumQ (fun j => (y j).abs) n = NN at *
  have c1 := Rat.mul_le_mul_of_nonneg_right n1 (Rat.mul_nonneg (Rat.le_of_lt hU) h3)
  have c2 := le_abs (s - SX)
  have c3 := neg_le_abs (s - SX)
  have c4 := Rat.mul_le_mul_of_nonneg_left b1 (Rat.le_of_lt hU)
  have usb : 0 ≤ U * SB := Rat.mul_nonneg (Rat.le_of_lt hU) b0
  have c5 := Rat.mul_le_mul_of_nonneg_right hU1 usb
  have c6 := Rat.mul_le_mul_of_nonneg_left hS (Rat.le_of_lt hU)
  have c7 := Rat.mul_le_mul_of_nonneg_right hU1 h3
  have c8 : SX ≤ 1200000 := by grind
  refine ⟨s, h1, ⟨?_, ?_⟩, ?_, ?_⟩
  · grind
  · grind
  · grind
  · grind
/-- The estimate, as good as it is said to be. -/
def EstOk (a : Nat → Nat → Int) (n : Nat) (E : Nat) : Prop := ∃ q, FV E q ∧ q ≤ normQ a n n + normQ a n n * p2 (-40) ∧ meanQ a n ≤ (q + normQ a n n * p2 (-40)) * n
/-- A candidate. -/
def CandOk (a : Nat → Nat → Int) (n : Nat) (t : Nat) : Prop := ∃ q, FV t q ∧ q ≤ normQ a n n + normQ a n n * p2 (-40)
theorem slack_eq : p2 (-40) = 8192 * U := by unfold U; decide +kernel
theorem EstOk.better {a : Nat → Nat → Int} {n E t : Nat} (h : EstOk a n E) (ht : CandOk a n t) (hg : fgt t E = true) : EstOk a n t := by
  obtain ⟨q, h1, h2, h3⟩ := h
  obtain ⟨r, r1, r2⟩ := ht
  have h4 := (order_val r1.2.1 h1.2.1).1.1 hg
  rw [r1.2.2, h1.2.2] at h4
  refine ⟨r, r1, r2, ?_⟩
  have n0 : (0 : Rat) ≤ n := Rat.natCast_nonneg
  have := Rat.mul_le_mul_of_nonneg_right (Rat.le_of_lt h4) n0
  grind
theorem sumQ_unit (J : Nat) : ∀ n, sumQ (fun j => ((if j = J then (1 : Rat) else 0)).abs) n ≤ 1 ∧ (n ≤ J → sumQ (fun j => ((if j = J then (1 : Rat) else 0)).abs) n = 0)
  | 0 => ⟨by show (0 : Rat) ≤ 1; decide +kernel, fun _ => rfl⟩
  | n + 1 => by
    obtain ⟨h1, h2⟩ := sumQ_unit J n
    have e1 : (1 : Rat).abs = 1 := by decide +kernel
    by_cases e : n = J
    · refine ⟨?_, fun h => by omega⟩
      show sumQ (fun j => ((if j = J then (1 : Rat) else 0)).abs) n + (if n = J then (1 : Rat) else 0).abs ≤ 1
      rw [h2 (by omega), if_pos e, e1]; grind
    · have e2 : sumQ (fun j => ((if j = J then (1 : Rat) else 0)).abs) (n + 1) = sumQ (fun j => ((if j = J then (1 : Rat) else 0)).abs) n := by
        show sumQ (fun j => ((if j = J then (1 : Rat) else 0)).abs) n + (if n = J then (1 : Rat) else 0).abs = _
        rw [if_neg e, zero_abs]; grind
      rw [e2]
      exact ⟨h1, fun h => h2 (by omega)⟩
/-- A column asked for. -/
theorem column_ok {M : Nat → Nat → Nat} {Y : Nat → Nat} {a : Nat → Nat → Int} {n J : Nat} {l : List Nat} (hn : n ≤ 12) (hM : ∀ i j, i < n → j < n → WI (M i j) (a i j) ∧ (a i j).natAbs ≤ 1000) (hY : ∀ j, j < n → Y j = if j = J then 4607182418800017408 else 0)
    (hl : ∀ i, i < n → l.getD i 0 = fabs (mulTo 4607182418800017408 M Y 0 i n)) : CandOk a n (fsumTo l n) := by
  have e1 : (1 : Rat).abs = 1 := by decide +kernel
  have hU := U_pos
  have h10 : p2 (-10) ≤ 1 := by decide +kernel
  obtain ⟨s, h1, h2, h3, _⟩ := cand_fv (y := fun j => if j = J then 1 else 0) hn hM (fun j hj => by
    rw [hY j hj]
    by_cases e : j = J
    · simp only [if_pos e]
      exact ⟨WI.one.fv, by rw [e1]; decide +kernel, .inr (by rw [e1]; exact h10)⟩
    · simp only [if_neg e]
      exact ⟨WI.zero.fv, by rw [zero_abs]; decide +kernel, .inl trivial⟩) hl
  have hN := normQ_nn a n
  have hs := (sumQ_unit J n).1
  refine ⟨s, h1, ?_⟩
  rw [slack_eq]
  have h4 := Rat.mul_le_mul_of_nonneg_left hs hN
  have h5 := Rat.mul_le_mul_of_nonneg_left h4 (show 0 ≤ 1 + 100 * U by grind)
  have h6 := Rat.mul_nonneg (Rat.le_of_lt hU) hN
  grind
/-- What is asked for first. -/
theorem first_word : ∀ n : Fin 13, 1 ≤ n.val → fdiv 4607182418800017408 (fint n.val) < 2 ^ 64 ∧ fin (fdiv 4607182418800017408 (fint n.val)) = true ∧ p2 (-10) ≤ val (fdiv 4607182418800017408 (fint n.val)) ∧ val (fdiv 4607182418800017408 (fint n.val)) ≤ 3 ∧ (val (fdiv 4607182418800017408 (fint n.val)) * (n.val : Nat) - 1).abs ≤ 4 * U := by decide +kernel
theorem first_ok {M : Nat → Nat → Nat} {Y : Nat → Nat} {a : Nat → Nat → Int} {n : Nat} {l : List Nat} (hn : n ≤ 12) (hn1 : 1 ≤ n) (hM : ∀ i j, i < n → j < n → WI (M i j) (a i j) ∧ (a i j).natAbs ≤ 1000) (hY : ∀ j, j < n → Y j = fdiv 4607182418800017408 (fint n))
    (hl : ∀ i, i < n → l.getD i 0 = fabs (mulTo 4607182418800017408 M Y 0 i n)) : EstOk a n (fsumTo l n) := by
  obtain ⟨w1, w2, w3, w4, w5⟩ := first_word ⟨n, by omega⟩ hn1
  simp only at w1 w2 w3 w4 w5
  have hU := U_pos
  have hU1 := U_small
  have hp := p2_pos (-10)
  obtain ⟨c, hc⟩ : ∃ c, val (fdiv 4607182418800017408 (fint n)) = c := ⟨_, rfl⟩
  rw [hc] at w3 w4 w5
  have c0 : 0 ≤ c := by grind
  have ca : c.abs = c := Rat.abs_of_nonneg c0
  obtain ⟨s, h1, h2, h3, h4⟩ := cand_fv (y := fun _ => c) hn hM (fun j hj => by
    rw [hY j hj]
    exact ⟨⟨w1, w2, hc⟩, by rw [ca]; exact w4, .inr (by rw [ca]; exact w3)⟩) hl
  have hN := normQ_nn a n
  have hmN := mean_le a n
  rw [sumQ_const, ca] at h3 h4
  have eM : sumQ (fun i => (sumQ (fun j => c * (a i j : Rat)) n).abs) n = c * meanQ a n := by
    unfold meanQ
    rw [← sumQ_mul]
    refine sumQ_congr n fun i _ => ?_
    rw [sumQ_mul, abs_mul, ca]
  rw [eM] at h4
  have m0 : 0 ≤ meanQ a n := sumQ_nn n fun i _ => Rat.abs_nonneg
  have n0 : (0 : Rat) ≤ n := Rat.natCast_nonneg
  refine ⟨s, h1, ?_, ?_⟩ <;> rw [slack_eq]
  all_goals generalize meanQ a n = m at *
  all_goals generalize normQ a n n = N at *
  all_goals generalize (n : Rat) = K at *
  all_goals have v1 := le_abs (c * K - 1)
  all_goals have v2 := neg_le_abs (c * K - 1)
  all_goals have uN : 0 ≤ U * N := Rat.mul_nonneg (Rat.le_of_lt hU) hN
  all_goals have kc : K * c ≤ 1 + 4 * U := by grind
  all_goals have kc2 : 1 - 4 * U ≤ K * c := by grind
  all_goals have q1 := Rat.mul_le_mul_of_nonneg_left kc hN
  all_goals have uuN := Rat.mul_le_mul_of_nonneg_right hU1 uN
  all_goals have q2 := Rat.mul_le_mul_of_nonneg_left q1 (Rat.le_of_lt hU)
  · grind
  · have q3 := Rat.mul_le_mul_of_nonneg_right h4 n0
    have q4 := Rat.mul_le_mul_of_nonneg_right kc2 m0
    have q5 := Rat.mul_le_mul_of_nonneg_right q2 n0
    have q6 := Rat.mul_le_mul_of_nonneg_left hmN (Rat.le_of_lt hU)
    have q7 := Rat.mul_le_mul_of_nonneg_right uuN n0
    have q8 := Rat.mul_nonneg uN n0
    grind
/-- What is asked for last. -/
theorem last_ok {M : Nat → Nat → Nat} {Y : Nat → Nat} {y : Nat → Rat} {a : Nat → Nat → Int} {n : Nat} {l : List Nat} (hn : n ≤ 12) (hn1 : 1 ≤ n) (hM : ∀ i j, i < n → j < n → WI (M i j) (a i j) ∧ (a i j).natAbs ≤ 1000) (hY : ∀ j, j < n → FV (Y j) (y j) ∧ (y j).abs ≤ 3 ∧ (y j = 0 ∨ p2 (-10) ≤ (y j).abs))
    (hs : sumQ (fun j => (y j).abs) n ≤ 3 / 2 * n * (1 + 8 * U)) (hl : ∀ i, i < n → l.getD i 0 = fabs (mulTo 4607182418800017408 M Y 0 i n)) : CandOk a n (fmul 4611686018427387904 (fdiv (fsumTo l n) (fint (3 * n : Nat)))) := by
  have hU := U_pos
  have hU1 := U_small
  have hE := ETA_pos
  have hEU : ETA ≤ U := by unfold ETA U; exact p2_mono (by decide)
  obtain ⟨s, h1, ⟨h2, h2'⟩, h3, _⟩ := cand_fv hn hM hY hl
  have hN := normQ_nn a n
  have w3 : WI (fint (3 * n : Nat)) (3 * n : Nat) := fint_int (by omega)
  have n1 : (1 : Rat) ≤ n := Rat.natCast_le_natCast.2 hn1
  have n12 : (n : Rat) ≤ 12 := Rat.natCast_le_natCast.2 hn
  have e3 : (((3 * n : Nat) : Int) : Rat) = 3 * (n : Rat) := by rw [Rat.intCast_natCast, Rat.natCast_mul]; rfl
  have w3' : FV (fint (3 * n : Nat)) (3 * (n : Rat)) := by rw [← e3]; exact w3.fv
  have q0 : (3 * (n : Rat)).abs = 3 * (n : Rat) := Rat.abs_of_nonneg (by grind)
  have sa : s.abs = s := Rat.abs_of_nonneg h2
  have hcases := normQ_cases a n
  unfold CandOk
  rw [slack_eq]
  -- s is not great
  have b1 := Rat.mul_le_mul_of_nonneg_left hs hN
  have b2 := Rat.mul_le_mul_of_nonneg_left b1 (show 0 ≤ 1 + 100 * U by grind)
  have hs1 := Rat.le_trans h3 b2
  generalize normQ a n n = N at *
  generalize (n : Rat) = K at *
  have uN : 0 ≤ U * N := Rat.mul_nonneg (Rat.le_of_lt hU) hN
  have NK : 0 ≤ N * K := Rat.mul_nonneg hN (by grind)
  have uNK : 0 ≤ U * (N * K) := Rat.mul_nonneg (Rat.le_of_lt hU) NK
  have uuNK := Rat.mul_le_mul_of_nonneg_right hU1 uNK
  have hs2 : s ≤ 3 / 2 * (N * K) + 164 * (U * (N * K)) := by grind
  have K3 : 0 < 3 * K := by grind
  obtain ⟨r, r1, r2, r3⟩ := fdiv_fv h1 w3' (by grind) (by
    rw [sa, q0]
    have h5 : (3000000 : Rat) ≤ p2 50 := by decide +kernel
    have h6 := Rat.mul_le_mul_of_nonneg_left n1 (Rat.le_of_lt (p2_pos 50))
    have h7 := p2_pos 50
    grind)
  rw [sa, q0] at r2
  have v1 := le_abs (r * (3 * K) - s)
  have v2 := neg_le_abs (r * (3 * K) - s)
  have us : 4096 * (U * s) ≤ s := by have := Rat.mul_le_mul_of_nonneg_right hU1 h2; grind
  have us0 : 0 ≤ U * s := Rat.mul_nonneg (Rat.le_of_lt hU) h2
  have us2 := Rat.mul_le_mul_of_nonneg_left hs2 (Rat.le_of_lt hU)
  have ek : ETA * K ≤ K := by have := Rat.mul_le_mul_of_nonneg_right (Rat.le_trans hEU (show U ≤ 1 by grind)) (show 0 ≤ K by grind); grind
  have up1 : 3 * K * r ≤ 3 * K * (N / 2 + 60 * (U * N) + ETA) := by grind
  have up2 : 3 * K * r ≤ 3 * K * 6000001 := by grind
  have lo1 : 3 * K * (-ETA) ≤ 3 * K * r := by grind
  have up3 := Rat.le_of_mul_le_mul_left up1 K3
  have up4 := Rat.le_of_mul_le_mul_left up2 K3
  have lo2 := Rat.le_of_mul_le_mul_left lo1 K3
  have ra : (2 * r).abs ≤ 2 * r + 4 * ETA := abs_le_of (by grind) (by grind)
  have e2 : ((2 : Int) : Rat) = 2 := rfl
  obtain ⟨t, t1, t2, t3⟩ := fmul_fv WI.two.fv r1 (by
    rw [e2]
    have h5 : (12000002 + 4 : Rat) < p2 53 := by decide +kernel
    grind)
  rw [e2] at t2 t3
  refine ⟨t, t1, ?_⟩
  rcases hcases with h | h
  · have s0 : s = 0 := by subst h; grind
    rw [t3 (by rw [r3 s0]; grind), h]; grind
  · have z1 := le_abs (t - 2 * r)
    have z2 := Rat.mul_le_mul_of_nonneg_left ra (Rat.le_of_lt hU)
    have z3 := Rat.mul_le_mul_of_nonneg_left up3 (Rat.le_of_lt hU)
    have z4 := Rat.mul_le_mul_of_nonneg_left h (Rat.le_of_lt hU)
    have z5 := Rat.mul_le_mul_of_nonneg_right hU1 uN
    have z6 := Rat.mul_le_mul_of_nonneg_right hU1 (Rat.le_of_lt hE)
    grind
end Go.Proofs.Ytcmggfpcbijcjaa
end
section
/-
  Contracts: straightedgeref01.Make, Scale.
-/
set_option linter.unusedSimpArgs false
set_option linter.unusedVariables false
open Go Go.RowKit Sedge Ieee
namespace Go.Proofs.Ytcmggfpcbijcjaa
def mkF (s : Bool) (m : Nat) (e : Int) : Nat := if m = 0 then D64.word s 0 else D64.nearest s m e
end Go.Proofs.Ytcmggfpcbijcjaa
end
section
/-
  Contracts: math.IsInf, IsNaN, Inf, Copysign, normalize.
-/
set_option linter.unusedSimpArgs false
set_option linter.unusedVariables false
open Go Go.RowKit Sedge
namespace Go.Proofs.Ytcmggfpcbijcjaa
def sN (s : Bool) : Nat := if s then 1 else 0
/-- Made normal. -/
def nrmF (x : Nat) : Nat := if expo x = 0 then fmul x 4841369599423283200 else x
def nrmE (x : Nat) : Int := if expo x = 0 then -52 else 0
end Go.Proofs.Ytcmggfpcbijcjaa
end
section
/-
  Contract: math.Ldexp.
-/
set_option linter.unusedSimpArgs false
set_option linter.unusedVariables false
open Go Go.RowKit Sedge Ieee
namespace Go.Proofs.Ytcmggfpcbijcjaa
/-- x times 2^k. -/
def ldF (x : Nat) (k : Int) : Nat := if pKind x = 0 ∧ pMag x ≠ 0 then D64.nearest (pNeg x) (pMag x) (pExp x + k) else x
end Go.Proofs.Ytcmggfpcbijcjaa
end
section
/-
  Contracts: axes.each; axes.Scal, axes.Shift, axes.Axpy (lists apart): closures that write a vector's numbers.
-/
set_option linter.unusedSimpArgs false
set_option linter.unusedVariables false
open Go Go.RowKit Sedge
namespace Go.Proofs.Ytcmggfpcbijcjaa
set_option maxRecDepth 100000 in
set_option maxHeartbeats 1000000 in
/-- axes.each. -/
theorem eachSign (x : VecM) (aA : Option Addr) (g o cap : Nat) (q1 : Value) (R : World → Nat → World → Prop) (G : List Nat) (w : World) (hx : x.right = true) (hl : x.ws.length ≤ 1000000)
    (hA : 0 < x.n → aA = some ⟨g, o, none⟩) (h0 : ∀ W1, Grew w W1 → R W1 0 W1) (hb : ∀ W1 i w', R W1 i w' → But W1 G w') (hG : ∀ k ∈ G, k < w.heap.size)
    (hs : ∀ W1 (i : Nat) w', Grew w W1 → (i : Int) < x.n → R W1 i w' → Calls Try.prog 173 #[.int .i64 i, .pointer (some ⟨g, o + x.place i, none⟩), q1] w' (fun e w2 => e = .returned (.tuple #[]) ∧ R W1 (i + 1) w2)) :
   Calls Try.prog 117 #[.agg #[.slice aA x.ws.length cap, .int .i64 x.off, .int .i64 x.n, .int .i64 x.inc], .func (.func 173) #[] #[q1]] w
     (fun e w' => e = .returned (.tuple #[]) ∧ ∃ W1, Grew w W1 ∧ R W1 x.n.toNat w') := by
  have hn := VecM.right_n hx
  have hnl := VecM.right_nle hx hl
  have Hx := hid hx
  clear hx
  go_enter Try.func117, Try.ntmps117
  refine seq_stop ?_
  go_wp2
  refine stop_go (fun W hW => ?_)
  have s1 : w.heap.size < W.heap.size := by rw [hW]; simp only [World.size_alloc]; omega
  have b1 : ∀ i, W.cell? ⟨w.heap.size, i, none⟩ = (#[.slice aA x.ws.length cap, .int .i64 x.off, .int .i64 x.n, .int .i64 x.inc] : Array Value)[i]? := by intro i; rw [hW]; go_simp
  have g0 : Grew w W := by rw [hW]; exact (Grew.refl _).alloc _
  clear hW
  have hR0 := h0 W g0
  clear h0
  go_wp2
  go_loopw [7] (fun c wr => ∃ (i : Nat), (i : Int) ≤ x.n ∧ c = .int .i64 i ∧ R W i wr) (fun c _ => (x.n - intOf c).toNat)
  case atStart => exact ⟨0, hn.1, rfl, hR0⟩
  case round =>
    obtain ⟨i, hi, rfl, hR⟩ := hrel
    have hB := hb W i wr hR
    have tT : ∀ i, wr.cell? ⟨w.heap.size, i, none⟩ = (#[.slice aA x.ws.length cap, .int .i64 x.off, .int .i64 x.n, .int .i64 x.inc] : Array Value)[i]? := fun i => (hB.cell s1 (fun h => by have := hG _ h; omega)).trans (b1 i)
    have zB := hB.size
    have kT : w.heap.size < wr.heap.size := by omega
    by_cases hlt : (i : Int) < x.n
    · have hp := VecM.right_place Hx.out hlt
      have r1 : IntKind.i64.wrap (i * x.inc) = i * x.inc := IntWalk.i64_in _ (by omega)
      have r2 : IntKind.i64.wrap (x.off + i * x.inc) = x.off + i * x.inc := IntWalk.i64_in _ (by omega)
      have e1 : 0 ≤ x.off + i * x.inc := by omega
      have e2 : x.off + i * x.inc < x.ws.length := by omega
      have hcall := hs W i wr g0 hlt hR
      unfold VecM.place at hcall
      obtain rfl := hA (by omega)
      have Hlt := hid hlt
      clear hs hb
      go_wp2_with (first | (go_at_call 173; ((with_reducible refine (hcall).mono ?_); rintro e w1 ⟨rfl, hR2⟩)))
      go_roundw
      case rel => exact ⟨i + 1, by (have := Hlt.out; omega), by go_num, hR2⟩
      case measure => (have := Hlt.out; simp [intOf]; omega)
    · have e : i = x.n.toNat := by omega
      rw [e] at hR
      clear hs hb
      go_wp2
      go_end0
      exact ⟨rfl, W, g0, hR⟩
end Go.Proofs.Ytcmggfpcbijcjaa
end
section
/-
  Contracts: move.Pair, straightedgeref04.Pair.
-/
set_option linter.unusedSimpArgs false
set_option linter.unusedVariables false
open Go Go.RowKit Sedge
namespace Go.Proofs.Ytcmggfpcbijcjaa
end Go.Proofs.Ytcmggfpcbijcjaa
end
section
/-
  Contracts: axes.Scal, axes.Shift, axes.Axpy (lists apart).
-/
set_option linter.unusedSimpArgs false
set_option linter.unusedVariables false
open Go Go.RowKit Sedge
namespace Go.Proofs.Ytcmggfpcbijcjaa
/-- With the place at hand: the numbers up to i are made. -/
def stepI (F : Nat → Nat → Nat) (s : Nat → Nat) (i r : Nat) : Nat := if r < i then F r (s r) else s r
theorem stepI_set {x : VecM} {L : List Nat} {s : Nat → Nat} {F : Nat → Nat → Nat} {i v : Nat} (h : VH x L (stepI F s i)) (hx : x.right = true) (hi : (i : Int) < x.n) (hv : v = F i (s i)) : VH x (L.set (x.place i) v) (stepI F s (i + 1)) := by
  refine (h.set hx hi).congr fun r hr => ?_
  unfold stepI
  by_cases e : r = i
  · subst e; simp [hv]
  · rw [if_neg e]
    by_cases h2 : r < i
    · rw [if_pos h2, if_pos (by omega)]
    · rw [if_neg h2, if_neg (by omega)]
def axL (F : Nat → Nat → Nat) (x : VecM) : List Nat := VecMwrite x ((List.range x.n.toNat).map fun i => F i (x.num i))
/-- The state of a closure that writes the vector's numbers one by one. -/
def RW1 (x : VecM) (g : Nat) (F : Nat → Nat → Nat) (W1 : World) (i : Nat) (w' : World) : Prop := But W1 [g] w' ∧ ∃ L, FW w' g L ∧ VH x L (stepI F x.num i)
theorem RW1.start {x : VecM} {g : Nat} {F : Nat → Nat → Nat} {w : World} (hF : FW w g x.ws) : ∀ W1, Grew w W1 → RW1 x g F W1 0 W1 :=
  fun W1 h => ⟨But.refl _ _, x.ws, hF.grew h, (VH.start x).congr fun r _ => by simp [stepI]⟩
theorem RW1.done {x : VecM} {g : Nat} {F : Nat → Nat → Nat} {W1 w' : World} (h : RW1 x g F W1 x.n.toNat w') (hx : x.right = true) : FW w' g (axL F x) := by
  obtain ⟨_, L, h1, h2⟩ := h
  have h3 := (h2.congr (t := fun r => F r (x.num r)) fun r hr => by unfold stepI; rw [if_pos (by omega)]).final hx
  unfold axL
  rw [← h3]; exact h1
theorem RW1.next {x : VecM} {g i r : Nat} {F : Nat → Nat → Nat} {W1 w' : World} {L : List Nat} (hB : But W1 [g] w') (hL : FW w' g L) (hS : VH x L (stepI F x.num i)) (hx : x.right = true) (hi : (i : Int) < x.n) (hr : IsF r (F i (x.num i))) (o : Array Obj) (n : Nat) : RW1 x g F W1 (i + 1) (ext (w'.setCell ⟨g, x.place i, none⟩ (.float .f64 r)) o n) :=
  ⟨(hB.setc hL (by simp)).grew ⟨_, _, rfl⟩, _, (hL.setc (k := x.place i) hr).ext _ _, stepI_set hS hx hi rfl⟩
theorem RW1.cell {x : VecM} {g i : Nat} {F : Nat → Nat → Nat} {w' : World} {L : List Nat} (hL : FW w' g L) (hS : VH x L (stepI F x.num i)) (hx : x.right = true) (hi : (i : Int) < x.n) : ∃ r0, w'.cell? ⟨g, x.place i, none⟩ = some (.float .f64 r0) ∧ IsF r0 (x.num i) := by
  obtain ⟨r0, hr0, hf0⟩ := hL.get (i := x.place i) (by rw [hS.len]; exact VecM.place_lt hx hi)
  rw [hS.get i hi] at hf0
  unfold stepI at hf0
  rw [if_neg (by omega)] at hf0
  exact ⟨r0, hr0, hf0⟩
end Go.Proofs.Ytcmggfpcbijcjaa
end
section
/-
  Contracts: a number of a vector, products of vectors, the place of the greatest (layer 5).
-/
set_option linter.unusedSimpArgs false
set_option linter.unusedVariables false
open Go Go.RowKit Sedge
namespace Go.Proofs.Ytcmggfpcbijcjaa
set_option maxHeartbeats 400000 in
theorem at_any (x : VecM) (D : Value) (i : Nat) (w : World) (hD : FS w D x.ws) (hr : x.right = true) (hi : (i : Int) < x.n) :
   Calls Try.prog 192 #[.agg #[D, .int .i64 x.off, .int .i64 x.n, .int .i64 x.inc], .int .i64 i] w (fun e w' => ∃ b, e = .returned (.float .f64 b) ∧ IsF b (x.num i) ∧ ∃ o n, w' = ext w o n) := by
  have hp := VecM.right_place hr hi
  have hn := VecM.right_n hr
  have hlen := hD.len
  obtain ⟨blk, o, cap, rfl, hlt, hc⟩ := hD.open (by omega)
  obtain ⟨b, hb, hf⟩ := hc (x.place i) (by unfold VecM.place; omega)
  unfold VecM.place at hb
  have h2 : IntKind.i64.wrap (i * x.inc) = i * x.inc := IntWalk.i64_in _ (by omega)
  have h3 : IntKind.i64.wrap (x.off + i * x.inc) = x.off + i * x.inc := IntWalk.i64_in _ (by omega)
  clear hc
  go_enter Try.func192, Try.ntmps192
  go_wp2
  go_ret
  exact ⟨b, rfl, hf, (Grew.refl _).alloc _⟩

/-- The sum of products, in its order. -/
def dotTo (x y : VecM) : Nat → Nat
  | 0 => 0
  | k + 1 => fadd (dotTo x y k) (fmul (x.num k) (y.num k))
set_option maxRecDepth 100000 in
set_option maxHeartbeats 1000000 in
theorem dot_ok (x y : VecM) (D E : Value) (w : World) (hD : FS w D x.ws) (hE : FS w E y.ws) (hxw : x.wf) (hyw : y.wf) (hx : x.right = true) (hy : y.right = true) (hn : x.n = y.n) :
   Calls Try.prog 128 #[.agg #[D, .int .i64 x.off, .int .i64 x.n, .int .i64 x.inc], .agg #[E, .int .i64 y.off, .int .i64 y.n, .int .i64 y.inc]] w
    (fun e w' => ∃ b, e = .returned (.tuple #[.float .f64 b, .int .i64 0]) ∧ IsF b (dotTo x y x.n.toNat) ∧ ∃ o n, w' = ext w o n) := by
  have hx0 : 0 ≤ x.n := by have := VecM.right_n hx; omega
  have hx1 : x.n ≤ 9223372036854775807 := by have := hxw.2.1.2; omega
  have k1 : (!x.right) = false := by simp [hx]
  have k2 : (!y.right) = false := by simp [hy]
  have k3 : (x.n != y.n) = false := by simp [hn]
  have Hx := hid hx
  have Hy := hid hy
  have Hn := hid hn
  have Hw1 := hid hxw
  have Hw2 := hid hyw
  clear hn hxw hyw hx hy
  go_enter Try.func128, Try.ntmps128
  refine seq_stop ?_
  go_wp2
  refine stop_go (fun W hW => ?_)
  have s1 : w.heap.size < W.heap.size := by rw [hW]; simp only [World.size_alloc]; omega
  have b1 : ∀ i, W.cell? ⟨w.heap.size, i, none⟩ = (#[D, .int .i64 x.off, .int .i64 x.n, .int .i64 x.inc] : Array Value)[i]? := by intro i; rw [hW]; go_simp
  have s2 : w.heap.size + 1 < W.heap.size := by rw [hW]; simp only [World.size_alloc]; omega
  have b2 : ∀ i, W.cell? ⟨w.heap.size + 1, i, none⟩ = (#[E, .int .i64 y.off, .int .i64 y.n, .int .i64 y.inc] : Array Value)[i]? := by intro i; rw [hW]; go_simp
  have g0 : Grew w W := by rw [hW]; exact ((Grew.refl _).alloc _).alloc _
  clear hW
  have hDW : FS W D x.ws := hD.grew g0
  have hEW : FS W E y.ws := hE.grew g0
  go_wp2_with (first | (go_at_call 135; ((with_reducible refine (right_any x D _ ?_ Hw1.out).mono ?_); (focus (first | (with_reducible assumption) | (with_reducible refine FS.ext ?_ _ _; with_reducible assumption) | (with_reducible refine IS.ext ?_ _ _; with_reducible assumption) | (refine hDu _ ?_; with_reducible assumption) | (refine hOu _ ?_; with_reducible assumption) | (refine hDa _ ?_; with_reducible assumption) | (refine hDb _ ?_; with_reducible assumption) | (refine hDc _ ?_; with_reducible assumption) | (refine hDd _ ?_; with_reducible assumption) | (refine FW.fs ?_ (by omega) _; with_reducible assumption) | (refine WS.fs ?_; with_reducible assumption) | (refine FW.fs ?_ (by omega) _; assumption) | omega | assumption)); rintro e w1 ⟨rfl, o1, n1, rfl⟩)) | (go_at_call 135; ((with_reducible refine (right_any y E _ ?_ Hw2.out).mono ?_); (focus (first | (with_reducible assumption) | (with_reducible refine FS.ext ?_ _ _; with_reducible assumption) | (with_reducible refine IS.ext ?_ _ _; with_reducible assumption) | (refine hDu _ ?_; with_reducible assumption) | (refine hOu _ ?_; with_reducible assumption) | (refine hDa _ ?_; with_reducible assumption) | (refine hDb _ ?_; with_reducible assumption) | (refine hDc _ ?_; with_reducible assumption) | (refine hDd _ ?_; with_reducible assumption) | (refine FW.fs ?_ (by omega) _; with_reducible assumption) | (refine WS.fs ?_; with_reducible assumption) | (refine FW.fs ?_ (by omega) _; assumption) | omega | assumption)); rintro e w1 ⟨rfl, o1, n1, rfl⟩)))
  go_loopw [6, 25] (fun s c wr => ∃ (j : Nat) (b : Nat), (j : Int) ≤ x.n ∧ c = .int .i64 j ∧ s = .float .f64 b ∧ IsF b (dotTo x y j) ∧
     ∃ o n, wr = ext W o n) (fun _ c _ => (x.n - intOf c).toNat)
  case atStart => exact ⟨0, 0, hx0, rfl, rfl, isF_zero, _, _, rfl⟩
  case round =>
    obtain ⟨j, b, hj, rfl, rfl, hb, o3, n3, hwr⟩ := hrel
    subst hwr
    by_cases hlt : (j : Int) < x.n
    · have hlt2 : (j : Int) < y.n := by have := Hn.out; omega
      go_wp2
      refine wp_region_R (Grew W) [] [(0,0), (0,1), (0,2), (0,4), (0,5), (1,3), (1,6), (1,7), (1,8), (0,9)] (by kernel_rfl) (by kernel_rfl) (fun _ _ _ _ h _ => h) (by first | exact ⟨_, _, ext_drew⟩ | exact ⟨_, _, drew_ext0⟩ | (show Grew _ _; repeat (first | (with_reducible exact Grew.refl _) | (with_reducible assumption) | (with_reducible exact Grew.same_o) | (with_reducible exact Grew.app_o) | (with_reducible refine Grew.ext ?_ _ _) | (with_reducible refine Grew.alloc ?_ _) | ((with_reducible refine Grew.setCell ?_ ?_ _); rotate_left; (focus (dsimp only; first | omega | (simp only [size_ext, World.size_alloc, Array.size_append]; omega)))) | (with_reducible refine Grew.drewN ?_ _) | (with_reducible refine Grew.drew ?_)))) ?_
      go_wp2_with (first | ((with_reducible refine wpR_id ?_); first | (refine wpR_take (v := ?_) rfl rfl ?_ ?_; rotate_left; (focus (rintro w' ⟨o', n', rfl⟩; go_simp; try with_reducible rfl)); simp only [Act.put, List.setIfInBounds_toArray, List.set_cons_zero, List.set_cons_succ]) | (refine wpR_pure (v := ?_) rfl rfl ?_ ?_; rotate_left; (focus (intro w'; go_simp; try with_reducible rfl)); simp only [Act.put, List.setIfInBounds_toArray, List.set_cons_zero, List.set_cons_succ]) | (refine wpR_takeG (v := ?_) rfl rfl rfl rfl rfl ?_ ?_; rotate_left; (focus (rintro w' ⟨o', n', rfl⟩; go_simp; try with_reducible rfl)); simp only [Act.put, List.setIfInBounds_toArray, List.set_cons_zero, List.set_cons_succ]) | (refine wpR_skip rfl rfl rfl rfl rfl rfl ?_; simp only [Act.put, List.setIfInBounds_toArray, List.set_cons_zero, List.set_cons_succ]) | (refine wpR_skipU rfl rfl rfl rfl rfl ?_; simp only [Act.put, List.setIfInBounds_toArray, List.set_cons_zero, List.set_cons_succ]) | (refine wpR_do rfl rfl (fun K hK => ?_)) | (refine wpR_doG rfl rfl rfl rfl rfl (fun K hK => ?_)) | (refine wpR_last rfl rfl (fun K hK => ?_)) | (refine wpR_nil ?_)) | ((with_reducible refine wpR_go ?_ ?_); (focus exact ⟨_, _, rfl⟩)) | ((with_reducible refine upon_id ?_); refine upon_fop rfl (by assumption) (by assumption) ?_; intro rr nn hr) | (go_at_call 192; ((with_reducible refine (at_any x D _ _ ?_ Hx.out hlt).mono ?_); (focus (first | (with_reducible assumption) | (with_reducible refine FS.ext ?_ _ _; with_reducible assumption) | (with_reducible refine IS.ext ?_ _ _; with_reducible assumption) | (refine hDu _ ?_; with_reducible assumption) | (refine hOu _ ?_; with_reducible assumption) | (refine hDa _ ?_; with_reducible assumption) | (refine hDb _ ?_; with_reducible assumption) | (refine hDc _ ?_; with_reducible assumption) | (refine hDd _ ?_; with_reducible assumption) | (refine FW.fs ?_ (by omega) _; with_reducible assumption) | (refine WS.fs ?_; with_reducible assumption) | (refine FW.fs ?_ (by omega) _; assumption) | omega | assumption)); rintro e w1 ⟨bx, rfl, hbx, o4, n4, rfl⟩)) | (go_at_call 192; ((with_reducible refine (at_any y E _ _ ?_ Hy.out hlt2).mono ?_); (focus (first | (with_reducible assumption) | (with_reducible refine FS.ext ?_ _ _; with_reducible assumption) | (with_reducible refine IS.ext ?_ _ _; with_reducible assumption) | (refine hDu _ ?_; with_reducible assumption) | (refine hOu _ ?_; with_reducible assumption) | (refine hDa _ ?_; with_reducible assumption) | (refine hDb _ ?_; with_reducible assumption) | (refine hDc _ ?_; with_reducible assumption) | (refine hDd _ ?_; with_reducible assumption) | (refine FW.fs ?_ (by omega) _; with_reducible assumption) | (refine WS.fs ?_; with_reducible assumption) | (refine FW.fs ?_ (by omega) _; assumption) | omega | assumption)); rintro e w1 ⟨bx, rfl, hbx, o4, n4, rfl⟩)))
      go_roundw
      case rel => exact ⟨j + 1, rr, by omega, by go_num, rfl, hr, _, _, rfl⟩
      case measure => simp [intOf]; omega
    · go_wp2
      go_ret2
      have e : x.n.toNat = j := by omega
      exact ⟨b, rfl, by rw [e]; exact hb, g0.ext _ _⟩

/-- The place of the greatest number without its sign, so far; -1: none. -/
def mostTo (x : VecM) : Nat → Int
  | 0 => -1
  | k + 1 => if mostTo x k < 0 ∨ fgt (fabs (x.num k)) (fabs (x.num (mostTo x k).toNat)) = true then k else mostTo x k
theorem mostTo_range (x : VecM) : ∀ k, -1 ≤ mostTo x k ∧ mostTo x k < k
  | 0 => by simp [mostTo]
  | k + 1 => by
    have := mostTo_range x k
    unfold mostTo
    split <;> omega
set_option maxRecDepth 100000 in
set_option maxHeartbeats 2000000 in
theorem most_ok (x : VecM) (D : Value) (w : World) (hD : FS w D x.ws) (hxw : x.wf) (hx : x.right = true) :
   Calls Try.prog 127 #[.agg #[D, .int .i64 x.off, .int .i64 x.n, .int .i64 x.inc]] w
    (fun e w' => e = .returned (.tuple #[.int .i64 (mostTo x x.n.toNat), .int .i64 0]) ∧ ∃ o n, w' = ext w o n) := by
  have hx0 : 0 ≤ x.n := by have := VecM.right_n hx; omega
  have hx1 : x.n ≤ 9223372036854775807 := by have := hxw.2.1.2; omega
  have k1 : (!x.right) = false := by simp [hx]
  have Hx := hid hx
  have Hw1 := hid hxw
  clear hxw hx
  go_enter Try.func127, Try.ntmps127
  refine seq_stop ?_
  go_wp2
  refine stop_go (fun W hW => ?_)
  have s1 : w.heap.size < W.heap.size := by rw [hW]; simp only [World.size_alloc]; omega
  have b1 : ∀ i, W.cell? ⟨w.heap.size, i, none⟩ = (#[D, .int .i64 x.off, .int .i64 x.n, .int .i64 x.inc] : Array Value)[i]? := by intro i; rw [hW]; go_simp
  have g0 : Grew w W := by rw [hW]; exact (Grew.refl _).alloc _
  clear hW
  have hDW : FS W D x.ws := hD.grew g0
  go_wp2_with (first | (go_at_call 135; ((with_reducible refine (right_any x D _ ?_ Hw1.out).mono ?_); (focus (first | (with_reducible assumption) | (with_reducible refine FS.ext ?_ _ _; with_reducible assumption) | (with_reducible refine IS.ext ?_ _ _; with_reducible assumption) | (refine hDu _ ?_; with_reducible assumption) | (refine hOu _ ?_; with_reducible assumption) | (refine hDa _ ?_; with_reducible assumption) | (refine hDb _ ?_; with_reducible assumption) | (refine hDc _ ?_; with_reducible assumption) | (refine hDd _ ?_; with_reducible assumption) | (refine FW.fs ?_ (by omega) _; with_reducible assumption) | (refine WS.fs ?_; with_reducible assumption) | (refine FW.fs ?_ (by omega) _; assumption) | omega | assumption)); rintro e w1 ⟨rfl, o1, n1, rfl⟩)))
  go_loopw [4, 11] (fun s c wr => ∃ (j : Nat) (m : Int), (j : Int) ≤ x.n ∧ c = .int .i64 j ∧ s = .int .i64 m ∧ m = mostTo x j ∧
     ∃ o n, wr = ext W o n) (fun _ c _ => (x.n - intOf c).toNat)
  case atStart => exact ⟨0, -1, hx0, rfl, rfl, rfl, _, _, rfl⟩
  case round =>
    obtain ⟨j, m, hj, rfl, rfl, hm, o3, n3, hwr⟩ := hrel
    subst hwr
    have hmr := mostTo_range x j
    rw [← hm] at hmr
    have Hm := hid hm
    clear hm
    by_cases hlt : (j : Int) < x.n
    · by_cases hm0 : m < 0
      · go_wp2
        refine wp_region_R (Grew W) [] [(0,0), (0,1), (0,2), (0,3), (0,4), (0,7), (0,8), (1,5), (1,6), (1,9), (1,10), (0,11), (0,12)] (by kernel_rfl) (by kernel_rfl) (fun _ _ _ _ h _ => h) (by first | exact ⟨_, _, ext_drew⟩ | exact ⟨_, _, drew_ext0⟩ | (show Grew _ _; repeat (first | (with_reducible exact Grew.refl _) | (with_reducible assumption) | (with_reducible exact Grew.same_o) | (with_reducible exact Grew.app_o) | (with_reducible refine Grew.ext ?_ _ _) | (with_reducible refine Grew.alloc ?_ _) | ((with_reducible refine Grew.setCell ?_ ?_ _); rotate_left; (focus (dsimp only; first | omega | (simp only [size_ext, World.size_alloc, Array.size_append]; omega)))) | (with_reducible refine Grew.drewN ?_ _) | (with_reducible refine Grew.drew ?_)))) ?_
        go_wp2_with (first | ((with_reducible refine wpR_id ?_); first | (refine wpR_take (v := ?_) rfl rfl ?_ ?_; rotate_left; (focus (rintro w' ⟨o', n', rfl⟩; go_simp; try with_reducible rfl)); simp only [Act.put, List.setIfInBounds_toArray, List.set_cons_zero, List.set_cons_succ]) | (refine wpR_pure (v := ?_) rfl rfl ?_ ?_; rotate_left; (focus (intro w'; go_simp; try with_reducible rfl)); simp only [Act.put, List.setIfInBounds_toArray, List.set_cons_zero, List.set_cons_succ]) | (refine wpR_takeG (v := ?_) rfl rfl rfl rfl rfl ?_ ?_; rotate_left; (focus (rintro w' ⟨o', n', rfl⟩; go_simp; try with_reducible rfl)); simp only [Act.put, List.setIfInBounds_toArray, List.set_cons_zero, List.set_cons_succ]) | (refine wpR_skip rfl rfl rfl rfl rfl rfl ?_; simp only [Act.put, List.setIfInBounds_toArray, List.set_cons_zero, List.set_cons_succ]) | (refine wpR_skipU rfl rfl rfl rfl rfl ?_; simp only [Act.put, List.setIfInBounds_toArray, List.set_cons_zero, List.set_cons_succ]) | (refine wpR_do rfl rfl (fun K hK => ?_)) | (refine wpR_doG rfl rfl rfl rfl rfl (fun K hK => ?_)) | (refine wpR_last rfl rfl (fun K hK => ?_)) | (refine wpR_nil ?_)) | ((with_reducible refine wpR_go ?_ ?_); (focus exact ⟨_, _, rfl⟩)) | ((with_reducible refine upon_id ?_); refine upon_fop rfl (by assumption) (by assumption) ?_; intro rr nn hr))
        go_roundw
        case rel => exact ⟨j + 1, j, by omega, by go_num, rfl, by unfold mostTo; rw [if_pos (.inl (by rw [← Hm.out]; exact hm0))], _, _, rfl⟩
        case measure => simp [intOf]; omega
      · obtain ⟨m', rfl⟩ : ∃ m' : Nat, m = m' := ⟨m.toNat, by omega⟩
        have hlt2 : (m' : Int) < x.n := by omega
        have hm1 : decide ((m' : Int) < 0) = false := by simp
        go_wp2
        refine wp_region_R (Grew W) [] [(0,0), (0,1), (0,2), (0,3), (0,4), (0,7), (0,8), (1,5), (1,6), (1,9), (1,10), (0,11), (0,12)] (by kernel_rfl) (by kernel_rfl) (fun _ _ _ _ h _ => h) (by first | exact ⟨_, _, ext_drew⟩ | exact ⟨_, _, drew_ext0⟩ | (show Grew _ _; repeat (first | (with_reducible exact Grew.refl _) | (with_reducible assumption) | (with_reducible exact Grew.same_o) | (with_reducible exact Grew.app_o) | (with_reducible refine Grew.ext ?_ _ _) | (with_reducible refine Grew.alloc ?_ _) | ((with_reducible refine Grew.setCell ?_ ?_ _); rotate_left; (focus (dsimp only; first | omega | (simp only [size_ext, World.size_alloc, Array.size_append]; omega)))) | (with_reducible refine Grew.drewN ?_ _) | (with_reducible refine Grew.drew ?_)))) ?_
        go_wp2_with (first | ((with_reducible refine wpR_id ?_); first | (refine wpR_take (v := ?_) rfl rfl ?_ ?_; rotate_left; (focus (rintro w' ⟨o', n', rfl⟩; go_simp; try with_reducible rfl)); simp only [Act.put, List.setIfInBounds_toArray, List.set_cons_zero, List.set_cons_succ]) | (refine wpR_pure (v := ?_) rfl rfl ?_ ?_; rotate_left; (focus (intro w'; go_simp; try with_reducible rfl)); simp only [Act.put, List.setIfInBounds_toArray, List.set_cons_zero, List.set_cons_succ]) | (refine wpR_takeG (v := ?_) rfl rfl rfl rfl rfl ?_ ?_; rotate_left; (focus (rintro w' ⟨o', n', rfl⟩; go_simp; try with_reducible rfl)); simp only [Act.put, List.setIfInBounds_toArray, List.set_cons_zero, List.set_cons_succ]) | (refine wpR_skip rfl rfl rfl rfl rfl rfl ?_; simp only [Act.put, List.setIfInBounds_toArray, List.set_cons_zero, List.set_cons_succ]) | (refine wpR_skipU rfl rfl rfl rfl rfl ?_; simp only [Act.put, List.setIfInBounds_toArray, List.set_cons_zero, List.set_cons_succ]) | (refine wpR_do rfl rfl (fun K hK => ?_)) | (refine wpR_doG rfl rfl rfl rfl rfl (fun K hK => ?_)) | (refine wpR_last rfl rfl (fun K hK => ?_)) | (refine wpR_nil ?_)) | ((with_reducible refine wpR_go ?_ ?_); (focus exact ⟨_, _, rfl⟩)) | ((with_reducible refine upon_id ?_); refine upon_fop rfl (by assumption) (by assumption) ?_; intro rr nn hr) | (go_at_call 192; ((with_reducible refine (at_any x D j _ ?_ Hx.out hlt).mono ?_); (focus (first | (with_reducible assumption) | (with_reducible refine FS.ext ?_ _ _; with_reducible assumption) | (with_reducible refine IS.ext ?_ _ _; with_reducible assumption) | (refine hDu _ ?_; with_reducible assumption) | (refine hOu _ ?_; with_reducible assumption) | (refine hDa _ ?_; with_reducible assumption) | (refine hDb _ ?_; with_reducible assumption) | (refine hDc _ ?_; with_reducible assumption) | (refine hDd _ ?_; with_reducible assumption) | (refine FW.fs ?_ (by omega) _; with_reducible assumption) | (refine WS.fs ?_; with_reducible assumption) | (refine FW.fs ?_ (by omega) _; assumption) | omega | assumption)); rintro e w1 ⟨bx, rfl, hbx, o4, n4, rfl⟩)) | (go_at_call 192; ((with_reducible refine (at_any x D m' _ ?_ Hx.out hlt2).mono ?_); (focus (first | (with_reducible assumption) | (with_reducible refine FS.ext ?_ _ _; with_reducible assumption) | (with_reducible refine IS.ext ?_ _ _; with_reducible assumption) | (refine hDu _ ?_; with_reducible assumption) | (refine hOu _ ?_; with_reducible assumption) | (refine hDa _ ?_; with_reducible assumption) | (refine hDb _ ?_; with_reducible assumption) | (refine hDc _ ?_; with_reducible assumption) | (refine hDd _ ?_; with_reducible assumption) | (refine FW.fs ?_ (by omega) _; with_reducible assumption) | (refine WS.fs ?_; with_reducible assumption) | (refine FW.fs ?_ (by omega) _; assumption) | omega | assumption)); rintro e w1 ⟨by', rfl, hby, o4, n4, rfl⟩)) | (go_at_call 164; ((with_reducible refine (mabs_any _ _ _ (by assumption)).mono ?_); rintro e w1 ⟨ra, rfl, hra, rfl⟩)))
        · have q : fgt (fabs (x.num j)) (fabs (x.num m')) = true := gt_fact (by assumption) (by assumption) (by assumption)
          go_roundw
          case rel => exact ⟨j + 1, j, by omega, by go_num, rfl, by unfold mostTo; rw [if_pos (.inr (by rw [← Hm.out]; exact q))], _, _, rfl⟩
          case measure => simp [intOf]; omega
        · have q : fgt (fabs (x.num j)) (fabs (x.num m')) = false := gt_fact (by assumption) (by assumption) (by assumption)
          go_roundw
          case rel => exact ⟨j + 1, m', by omega, by go_num, rfl, by unfold mostTo; rw [if_neg (by rw [← Hm.out]; simp [q])]; exact Hm.out, _, _, rfl⟩
          case measure => simp [intOf]; omega
    · go_wp2
      go_ret2
      have e : x.n.toNat = j := by omega
      exact ⟨by rw [e, ← Hm.out]; rfl, g0.ext _ _⟩
end Go.Proofs.Ytcmggfpcbijcjaa
end
section
/-
  The law SumsLists: its example, its walk.
-/
set_option linter.unusedSimpArgs false
set_option linter.unusedVariables false
open Go Go.RowKit Sedge
namespace Go.Proofs.Ytcmggfpcbijcjaa
def L123 : List Nat := [4607182418800017408, 4611686018427387904, 4613937818241073152]
def L456 : List Nat := [4616189618054758400, 4617315517961601024, 4618441417868443648]
theorem eq_fact {r s X Y : Nat} (hr : IsF r X) (hs : IsF s Y) : (FloatKind.f64.format.order r s == some .eq) = feq X Y := by
  unfold feq; rw [← hr.order hs]; rfl
theorem eq_is {r s X Y : Nat} (hr : IsF r X) (hs : IsF s Y) {v : Bool} (h : feq X Y = v) : (FloatKind.f64.format.order r s == some .eq) = v := (eq_fact hr hs).trans h
end Go.Proofs.Ytcmggfpcbijcjaa
end
section
/-
  Contracts: axes.Sign.
-/
set_option linter.unusedSimpArgs false
set_option linter.unusedVariables false
open Go Go.RowKit Sedge
namespace Go.Proofs.Ytcmggfpcbijcjaa
theorem ownF_same {e : TypeId} {w w' : World} {B : Nat} {v : Value} {xs : List Nat} (h : OwnF e w B v xs) (hs : ∀ k, B ≤ k → w'.heap[k]? = w.heap[k]?) : OwnF e w' B v xs := by
  obtain ⟨bs, ⟨h0, h1⟩, h2, h3⟩ := h
  refine ⟨bs, ⟨h0, ?_⟩, h2, h3⟩
  rcases h1 with h1 | ⟨gg, cap, cur, hv, hB, hh, r⟩
  · exact .inl h1
  · exact .inr ⟨gg, cap, cur, hv, hB, by rw [hs gg hB]; exact hh, r⟩
theorem upd_other {w : World} {T k : Nat} {c c' : Array Value} {o : Array Obj} {n : Nat} (h : k ≠ T) : (ext (upd w T c) o n).heap[k]? = (ext (upd w T c') o n).heap[k]? := by
  have e : ∀ c : Array Value, (ext (upd w T c) o n).heap = (upd w T c).heap ++ o := fun _ => rfl
  rw [e, e, Array.getElem?_append, Array.getElem?_append, size_upd, size_upd, block_upd_ne h, block_upd_ne h]
theorem gt_eq0 {r X : Nat} (hr : IsF r X) : (FloatKind.f64.format.order r 0 == some .gt) = fgt X 0 := by unfold fgt; rw [← hr.order isF_zero]; rfl
/-- What sign a number has: 1 or -1. -/
def sgF (z : Nat) : Nat := if (fgt z 0 || feq z 0) = true then 4607182418800017408 else 13830554455654793216
set_option maxRecDepth 100000 in
set_option maxHeartbeats 1000000 in
/-- axes.Sign's closure. -/
theorem sgcl_any (i pl blk T b z : Nat) (v : Value) (xs : List Nat) (W1 w : World) (gw : Grew (upd W1 T #[v]) w) (hown : OwnF 22 w W1.heap.size v xs) (kT : T < W1.heap.size) (hT : ∀ i, (upd W1 T #[v]).cell? ⟨T, i, none⟩ = (#[v] : Array Value)[i]?)
    (hc : w.cell? ⟨blk, pl, none⟩ = some (.float .f64 b)) (hf : IsF b z) (fz : ∀ i, (upd W1 T #[v]).frozen? ⟨T, i, none⟩ = false) (hlen : xs.length ≤ 1000000) :
   Calls Try.prog 173 #[.int .i64 i, .pointer (some ⟨blk, pl, none⟩), .pointer (some ⟨T, 0, none⟩)] w
     (fun e w' => e = .returned (.tuple #[]) ∧ ∃ v' o n, w' = ext (upd W1 T #[v']) o n ∧ OwnF 22 w' W1.heap.size v' (xs ++ [sgF z])) := by
  obtain ⟨U, hU⟩ : ∃ U, upd W1 T #[v] = U := ⟨_, rfl⟩
  have zU : U.heap.size = W1.heap.size := by rw [← hU]; exact size_upd
  have kU : T < U.heap.size := by omega
  rw [← zU] at hown
  rw [hU] at gw hT fz
  have hT' := fun i => (gw.cell kU).trans (hT i)
  have HU := hid hU
  have c1 : IsF 4607182418800017408 4607182418800017408 := by decide +kernel
  have c2 : IsF 13830554455654793216 13830554455654793216 := by decide +kernel
  have C1 := hid c1
  have C2 := hid c2
  have HZ := hid zU
  clear hU c1 c2 zU
  cases hp : fgt z 0
  · cases hq : feq z 0
    · have Q := hid (show sgF z = 13830554455654793216 by unfold sgF; rw [hp, hq]; rfl)
      have d1 := (gt_eq0 hf).trans hp
      have d2 := eq_is hf isF_zero hq
      go_enter Try.func173, Try.ntmps173
      go_wp2_with (first | ((at_builtin; refine append1_f (W := U) (v := v) (xs := xs) (y := sgF z) finfo ?_ ?_ ?_ ((by omega)) _ _ rfl rfl rfl ?_ rfl ?_; (focus (refine Grew.trans gw ?_; (show Grew _ _; repeat (first | (with_reducible exact Grew.refl _) | (with_reducible assumption) | (with_reducible exact Grew.same_o) | (with_reducible exact Grew.app_o) | (with_reducible refine Grew.ext ?_ _ _) | (with_reducible refine Grew.alloc ?_ _) | ((with_reducible refine Grew.setCell ?_ ?_ _); rotate_left; (focus (dsimp only; first | omega | (simp only [size_ext, World.size_alloc, Array.size_append]; omega)))) | (with_reducible refine Grew.drewN ?_ _) | (with_reducible refine Grew.drew ?_))))); (focus (refine OwnF.grew (w := w) ?_ ?_; (focus (with_reducible assumption)); (focus (show Grew _ _; repeat (first | (with_reducible exact Grew.refl _) | (with_reducible assumption) | (with_reducible exact Grew.same_o) | (with_reducible exact Grew.app_o) | (with_reducible refine Grew.ext ?_ _ _) | (with_reducible refine Grew.alloc ?_ _) | ((with_reducible refine Grew.setCell ?_ ?_ _); rotate_left; (focus (dsimp only; first | omega | (simp only [size_ext, World.size_alloc, Array.size_append]; omega)))) | (with_reducible refine Grew.drewN ?_ _) | (with_reducible refine Grew.drew ?_)))))); (focus ((rw [Q.out]; exact C2.out))); (focus (first | rfl | (simp only [size_ext, World.size_alloc, Array.size_append]; done) | (simp only [size_ext, World.size_alloc, Array.size_append]; omega))); intro v oo nn ho hn); obtain ⟨a9, c9, rfl⟩ := ho.length))
      go_end0
      refine ⟨rfl, _, _, _, (by rw [← HU.out, setCell_upd]; rfl), ?_⟩
      rw [HZ.out, show (xs ++ [sgF z]).length = xs.length + 1 by simp] at ho
      refine ownF_same ho fun k hk => ?_
      have hne : k ≠ T := by have := HZ.out; omega
      rw [← HU.out, setCell_upd]
      exact upd_other hne
    · have Q := hid (show sgF z = 4607182418800017408 by unfold sgF; rw [hp, hq]; rfl)
      have d1 := (gt_eq0 hf).trans hp
      have d2 := eq_is hf isF_zero hq
      go_enter Try.func173, Try.ntmps173
      go_wp2_with (first | ((at_builtin; refine append1_f (W := U) (v := v) (xs := xs) (y := sgF z) finfo ?_ ?_ ?_ ((by omega)) _ _ rfl rfl rfl ?_ rfl ?_; (focus (refine Grew.trans gw ?_; (show Grew _ _; repeat (first | (with_reducible exact Grew.refl _) | (with_reducible assumption) | (with_reducible exact Grew.same_o) | (with_reducible exact Grew.app_o) | (with_reducible refine Grew.ext ?_ _ _) | (with_reducible refine Grew.alloc ?_ _) | ((with_reducible refine Grew.setCell ?_ ?_ _); rotate_left; (focus (dsimp only; first | omega | (simp only [size_ext, World.size_alloc, Array.size_append]; omega)))) | (with_reducible refine Grew.drewN ?_ _) | (with_reducible refine Grew.drew ?_))))); (focus (refine OwnF.grew (w := w) ?_ ?_; (focus (with_reducible assumption)); (focus (show Grew _ _; repeat (first | (with_reducible exact Grew.refl _) | (with_reducible assumption) | (with_reducible exact Grew.same_o) | (with_reducible exact Grew.app_o) | (with_reducible refine Grew.ext ?_ _ _) | (with_reducible refine Grew.alloc ?_ _) | ((with_reducible refine Grew.setCell ?_ ?_ _); rotate_left; (focus (dsimp only; first | omega | (simp only [size_ext, World.size_alloc, Array.size_append]; omega)))) | (with_reducible refine Grew.drewN ?_ _) | (with_reducible refine Grew.drew ?_)))))); (focus ((rw [Q.out]; exact C1.out))); (focus (first | rfl | (simp only [size_ext, World.size_alloc, Array.size_append]; done) | (simp only [size_ext, World.size_alloc, Array.size_append]; omega))); intro v oo nn ho hn); obtain ⟨a9, c9, rfl⟩ := ho.length))
      go_end0
      refine ⟨rfl, _, _, _, (by rw [← HU.out, setCell_upd]; rfl), ?_⟩
      rw [HZ.out, show (xs ++ [sgF z]).length = xs.length + 1 by simp] at ho
      refine ownF_same ho fun k hk => ?_
      have hne : k ≠ T := by have := HZ.out; omega
      rw [← HU.out, setCell_upd]
      exact upd_other hne
  · cases hq : feq z 0
    · have Q := hid (show sgF z = 4607182418800017408 by unfold sgF; rw [hp, hq]; rfl)
      have d1 := (gt_eq0 hf).trans hp
      have d2 := eq_is hf isF_zero hq
      go_enter Try.func173, Try.ntmps173
      go_wp2_with (first | ((at_builtin; refine append1_f (W := U) (v := v) (xs := xs) (y := sgF z) finfo ?_ ?_ ?_ ((by omega)) _ _ rfl rfl rfl ?_ rfl ?_; (focus (refine Grew.trans gw ?_; (show Grew _ _; repeat (first | (with_reducible exact Grew.refl _) | (with_reducible assumption) | (with_reducible exact Grew.same_o) | (with_reducible exact Grew.app_o) | (with_reducible refine Grew.ext ?_ _ _) | (with_reducible refine Grew.alloc ?_ _) | ((with_reducible refine Grew.setCell ?_ ?_ _); rotate_left; (focus (dsimp only; first | omega | (simp only [size_ext, World.size_alloc, Array.size_append]; omega)))) | (with_reducible refine Grew.drewN ?_ _) | (with_reducible refine Grew.drew ?_))))); (focus (refine OwnF.grew (w := w) ?_ ?_; (focus (with_reducible assumption)); (focus (show Grew _ _; repeat (first | (with_reducible exact Grew.refl _) | (with_reducible assumption) | (with_reducible exact Grew.same_o) | (with_reducible exact Grew.app_o) | (with_reducible refine Grew.ext ?_ _ _) | (with_reducible refine Grew.alloc ?_ _) | ((with_reducible refine Grew.setCell ?_ ?_ _); rotate_left; (focus (dsimp only; first | omega | (simp only [size_ext, World.size_alloc, Array.size_append]; omega)))) | (with_reducible refine Grew.drewN ?_ _) | (with_reducible refine Grew.drew ?_)))))); (focus ((rw [Q.out]; exact C1.out))); (focus (first | rfl | (simp only [size_ext, World.size_alloc, Array.size_append]; done) | (simp only [size_ext, World.size_alloc, Array.size_append]; omega))); intro v oo nn ho hn); obtain ⟨a9, c9, rfl⟩ := ho.length))
      go_end0
      refine ⟨rfl, _, _, _, (by rw [← HU.out, setCell_upd]; rfl), ?_⟩
      rw [HZ.out, show (xs ++ [sgF z]).length = xs.length + 1 by simp] at ho
      refine ownF_same ho fun k hk => ?_
      have hne : k ≠ T := by have := HZ.out; omega
      rw [← HU.out, setCell_upd]
      exact upd_other hne
    · have Q := hid (show sgF z = 4607182418800017408 by unfold sgF; rw [hp, hq]; rfl)
      have d1 := (gt_eq0 hf).trans hp
      have d2 := eq_is hf isF_zero hq
      go_enter Try.func173, Try.ntmps173
      go_wp2_with (first | ((at_builtin; refine append1_f (W := U) (v := v) (xs := xs) (y := sgF z) finfo ?_ ?_ ?_ ((by omega)) _ _ rfl rfl rfl ?_ rfl ?_; (focus (refine Grew.trans gw ?_; (show Grew _ _; repeat (first | (with_reducible exact Grew.refl _) | (with_reducible assumption) | (with_reducible exact Grew.same_o) | (with_reducible exact Grew.app_o) | (with_reducible refine Grew.ext ?_ _ _) | (with_reducible refine Grew.alloc ?_ _) | ((with_reducible refine Grew.setCell ?_ ?_ _); rotate_left; (focus (dsimp only; first | omega | (simp only [size_ext, World.size_alloc, Array.size_append]; omega)))) | (with_reducible refine Grew.drewN ?_ _) | (with_reducible refine Grew.drew ?_))))); (focus (refine OwnF.grew (w := w) ?_ ?_; (focus (with_reducible assumption)); (focus (show Grew _ _; repeat (first | (with_reducible exact Grew.refl _) | (with_reducible assumption) | (with_reducible exact Grew.same_o) | (with_reducible exact Grew.app_o) | (with_reducible refine Grew.ext ?_ _ _) | (with_reducible refine Grew.alloc ?_ _) | ((with_reducible refine Grew.setCell ?_ ?_ _); rotate_left; (focus (dsimp only; first | omega | (simp only [size_ext, World.size_alloc, Array.size_append]; omega)))) | (with_reducible refine Grew.drewN ?_ _) | (with_reducible refine Grew.drew ?_)))))); (focus ((rw [Q.out]; exact C1.out))); (focus (first | rfl | (simp only [size_ext, World.size_alloc, Array.size_append]; done) | (simp only [size_ext, World.size_alloc, Array.size_append]; omega))); intro v oo nn ho hn); obtain ⟨a9, c9, rfl⟩ := ho.length))
      go_end0
      refine ⟨rfl, _, _, _, (by rw [← HU.out, setCell_upd]; rfl), ?_⟩
      rw [HZ.out, show (xs ++ [sgF z]).length = xs.length + 1 by simp] at ho
      refine ownF_same ho fun k hk => ?_
      have hne : k ≠ T := by have := HZ.out; omega
      rw [← HU.out, setCell_upd]
      exact upd_other hne
def sgTo (x : VecM) (i : Nat) : List Nat := (List.range i).map fun r => sgF (x.num r)
theorem sgTo_succ (x : VecM) (i : Nat) : sgTo x (i + 1) = sgTo x i ++ [sgF (x.num i)] := by unfold sgTo; rw [List.range_succ, List.map_append]; rfl
/-- The state of axes.Sign: the captured list, as long as it has got. -/
def RW2 (x : VecM) (T : Nat) (W1 : World) (i : Nat) (w' : World) : Prop := ∃ v o n, w' = ext (upd W1 T #[v]) o n ∧ OwnF 22 w' W1.heap.size v (sgTo x i)
theorem upd_self {w : World} {T : Nat} {c : Array Value} {e : TypeId} {f : Nat × Nat} (h : w.heap[T]? = some (.cells c e f)) : upd w T c = w := by
  unfold upd
  cases w with | mk hp tp dr os' out => ?_
  simp only [World.mk.injEq, true_and, and_true] at *
  apply Array.ext_getElem?
  intro i
  rw [Array.getElem?_modify]
  split
  · rename_i he; subst he; rw [h]; rfl
  · rfl
theorem upd_block {w : World} {T : Nat} {c c' : Array Value} {e : TypeId} {f : Nat × Nat} (h : w.heap[T]? = some (.cells c e f)) : (upd w T c').heap[T]? = some (.cells c' e f) := by
  unfold upd
  simp only [Array.getElem?_modify, if_true, h]
  rfl
set_option maxRecDepth 100000 in
set_option maxHeartbeats 1000000 in
/-- axes.Sign. -/
theorem sign_any (x : VecM) (D : Value) (w : World) (hD : FS w D x.ws) (hx : x.right = true) (hwf : x.wf) (hl : x.ws.length ≤ 1000000) :
   Calls Try.prog 97 #[.agg #[D, .int .i64 x.off, .int .i64 x.n, .int .i64 x.inc]] w (fun e w' => ∃ v, e = .returned (.tuple #[v, .int .i64 0]) ∧ FS w' v (sgTo x x.n.toNat) ∧ ∃ o n, w' = ext w o n) := by
  obtain ⟨aD, cD, rfl⟩ := hD.shape
  have hnl := VecM.right_nle hx hl
  have hrt : ∀ w', FS w' (.slice aD x.ws.length cD) x.ws → Calls Try.prog 135 #[.agg #[.slice aD x.ws.length cD, .int .i64 x.off, .int .i64 x.n, .int .i64 x.inc]] w' (fun e w2 => e = .returned (.bool true) ∧ ∃ o n, w2 = ext w' o n) := fun w' h => by
    have := right_any x _ w' h hwf; rw [hx] at this; exact this
  have hEach : ∀ (T : Nat) (w' : World), Grew w w' → w.heap.size ≤ T → w'.heap[T]? = some (.cells #[.slice none 0 0] 24 (0, 0)) →
      Calls Try.prog 117 #[.agg #[.slice aD x.ws.length cD, .int .i64 x.off, .int .i64 x.n, .int .i64 x.inc], .func (.func 173) #[] #[.pointer (some ⟨T, 0, none⟩)]] w' (fun e w2 => e = .returned (.tuple #[]) ∧ Grew w w2 ∧ w'.heap.size ≤ w2.heap.size ∧ ∃ v, FS w2 v (sgTo x x.n.toNat) ∧ (∀ i, w2.cell? ⟨T, i, none⟩ = (#[v] : Array Value)[i]?) ∧ ∀ b i, b < w.heap.size + 1 → b ≠ T → b < w'.heap.size → w2.cell? ⟨b, i, none⟩ = w'.cell? ⟨b, i, none⟩) := fun T w' h1 h2 h3 => by
    have hTlt := some_lt' h3
    obtain ⟨gb, go, hA⟩ : ∃ gb go, 0 < x.n → aD = some ⟨gb, go, none⟩ := by
      by_cases h : 0 < x.n
      · obtain ⟨gb, go, e, _⟩ := hD.at.2 (by have := VecM.right_place hx (i := 0) (by omega); omega)
        exact ⟨gb, go, fun _ => e⟩
      · exact ⟨0, 0, fun h' => absurd h' h⟩
    have hBut : ∀ W1 i w2, Grew w' W1 → RW2 x T W1 i w2 → But W1 [T] w2 := fun W1 i w2 hg hR => by
      obtain ⟨v, o, n, rfl, _⟩ := hR
      exact ((But.refl W1 [T]).upd (.inl (by simp)) _).grew ⟨_, _, rfl⟩
    refine (eachSign x aD gb go cD _ (fun W1 i w2 => Grew w' W1 ∧ RW2 x T W1 i w2) [T] w' hx hl hA ?_ ?_ (by simp; exact hTlt) ?_).mono fun e w2 hh => ?_
    · intro W1 hg
      refine ⟨hg, .slice none 0 0, #[], W1.drawn, ?_, by simpa [sgTo] using OwnF.nil _ _ _⟩
      rw [upd_self (by rw [hg.below.block T hTlt]; exact h3)]; exact ext_zero.symm
    · intro W1 i w2 hR
      exact hBut W1 i w2 hR.1 hR.2
    · intro W1 i w2 hg hi hR
      obtain ⟨_, hR⟩ := hR
      have hB := hBut W1 i w2 hg hR
      obtain ⟨v, o, n, hw2, hown⟩ := hR
      have hb1 : W1.heap[T]? = some (.cells #[.slice none 0 0] 24 (0, 0)) := by rw [hg.below.block T hTlt]; exact h3
      have hb2 := upd_block (c' := #[v]) hb1
      have gall : Grew w w2 := hB.grew0 (Grew.trans h1 hg) (by simp; exact h2)
      have hDw := hD.grew gall
      rw [hA (by omega)] at hDw
      obtain ⟨blk, o', e', _, hc⟩ := hDw.at.2 (by have := VecM.right_place hx hi; omega)
      cases e'
      obtain ⟨b, hb, hf⟩ := hc (x.place i) (VecM.place_lt hx hi)
      refine (sgcl_any i (go + x.place i) gb T b (x.num i) v (sgTo x i) W1 w2 ⟨o, n, hw2⟩ hown (some_lt' hb1) (fun i => cell_of_block hb2) hb hf (fun i => by unfold World.frozen?; simp [hb2]) (by simp [sgTo]; omega)).mono fun e w3 hh => ?_
      obtain ⟨e1, v', o2, n2, e2, e3⟩ := hh
      exact ⟨e1, hg, v', o2, n2, e2, by rw [sgTo_succ]; exact e3⟩
    · obtain ⟨e1, W1, g1, _, hR⟩ := hh
      have hB := hBut W1 _ w2 g1 hR
      obtain ⟨v, o, n, hw2, hown⟩ := hR
      have hb1 : W1.heap[T]? = some (.cells #[.slice none 0 0] 24 (0, 0)) := by rw [g1.below.block T hTlt]; exact h3
      have hb2 := upd_block (c' := #[v]) hb1
      have z1 := g1.below.size
      refine ⟨e1, hB.grew0 (Grew.trans h1 g1) (by simp; exact h2), by have := hB.size; omega, v, hown.fs (by simp [sgTo]; omega), fun i => ?_, fun b i h4 h5 h6 => ?_⟩
      · rw [hw2, cell_ext (by rw [size_upd]; omega)]; exact cell_of_block hb2
      · exact (hB.cell (by omega) (by simpa using h5)).trans (g1.cell h6)
  clear hx hwf
  have hmf := hmf
  go_enter Try.func97, Try.ntmps97
  refine seq_stop ?_
  go_wp2
  refine stop_go (fun W hW => ?_)
  have s1 : w.heap.size < W.heap.size := by rw [hW]; simp only [World.size_alloc]; omega
  have b1 : ∀ i, W.cell? ⟨w.heap.size, i, none⟩ = (#[.slice aD x.ws.length cD, .int .i64 x.off, .int .i64 x.n, .int .i64 x.inc] : Array Value)[i]? := by intro i; rw [hW]; go_simp
  have g0 : Grew w W := by rw [hW]; exact (Grew.refl _).alloc _
  clear hW
  have hDW := hD.grew g0
  have zW := g0.below.size
  go_wp2_with (first | (go_at_call 135; ((with_reducible refine (hrt _ ?_).mono ?_); (focus (first | (with_reducible assumption) | (with_reducible refine FS.ext ?_ _ _; with_reducible assumption) | (with_reducible refine IS.ext ?_ _ _; with_reducible assumption) | (refine hDu _ ?_; with_reducible assumption) | (refine hOu _ ?_; with_reducible assumption) | (refine hDa _ ?_; with_reducible assumption) | (refine hDb _ ?_; with_reducible assumption) | (refine hDc _ ?_; with_reducible assumption) | (refine hDd _ ?_; with_reducible assumption) | (refine FW.fs ?_ (by omega) _; with_reducible assumption) | (refine WS.fs ?_; with_reducible assumption) | (refine FW.fs ?_ (by omega) _; assumption) | omega | assumption)); rintro e w1 ⟨rfl, oa, na, rfl⟩)))
  refine name_call (fun V hV => ?_)
  have hblk : V.heap[W.heap.size + oa.size]? = some (.cells #[.slice none 0 0] 24 (0, 0)) := by
    rw [← hV]
    rw [show W.heap.size + oa.size = (ext W oa na).heap.size by rw [size_ext]]
    generalize ext W oa na = Z
    show (Z.heap.push _)[Z.heap.size]? = _
    simp
  have gV : Grew w V := by rw [← hV]; exact Grew.trans g0 (by (show Grew _ _; repeat (first | (with_reducible exact Grew.refl _) | (with_reducible assumption) | (with_reducible exact Grew.same_o) | (with_reducible exact Grew.app_o) | (with_reducible refine Grew.ext ?_ _ _) | (with_reducible refine Grew.alloc ?_ _) | ((with_reducible refine Grew.setCell ?_ ?_ _); rotate_left; (focus (dsimp only; first | omega | (simp only [size_ext, World.size_alloc, Array.size_append]; omega)))) | (with_reducible refine Grew.drewN ?_ _) | (with_reducible refine Grew.drew ?_))))
  have hc := hEach _ V gV (by omega) hblk
  obtain ⟨T, hT⟩ : ∃ T, T = W.heap.size + oa.size := ⟨_, rfl⟩
  rw [← hT] at hc
  simp only [← hT]
  clear hEach hV hblk hT
  refine hc.mono ?_
  rintro e w1 ⟨rfl, g1, z1, v, hv, hc1, _⟩
  go_wp2
  refine bodyPost_ret (v := .tuple #[v, .int .i64 0]) (by simp [results, Try.results97, go_sem, *]) rfl ?_
  exact ⟨v, rfl, hv, g1⟩
end Go.Proofs.Ytcmggfpcbijcjaa
end
section
/-
  A region that draws, and where several operations act in no fixed order: a tree of orders.
-/
set_option linter.unusedSimpArgs false
set_option linter.unusedVariables false
namespace Sedge
open Go Go.RowKit
/-- A tree of orders: step k i t (kind 0: the same in every world of the class; 3: in every world); alt i t m: either i acts, then t; or one of m; stop: no more. -/
inductive OT where
  | done
  | step (k i : Nat) (t : OT)
  | alt (i : Nat) (t m : OT)
  | stop
def OT.alts : OT → List Nat
  | .alt i _ m => i :: m.alts
  | _ => []
def OT.fuel : OT → Nat
  | .done => 0
  | .step _ _ t => t.fuel + 1
  | .alt _ t _ => t.fuel + 1
  | .stop => 0
section
variable {P : Program} {ops : Array Oper} {Q : Exit → Act → World → Prop} {S : World → Prop}
def wpF (P : Program) (ops : Array Oper) (Q : Exit → Act → World → Prop) (S : World → Prop) : OT → Act → World → Prop
  | .done, a, w => Q .normal a w
  | .stop, _, _ => True
  | .step k i t, a, w =>
    match ops[i]? with
    | none => False
    | some o =>
      if Region.wanted o (yielded ops a.tmps) = true then
        ∃ v, (∀ w', (k = 0 → S w') → (execOp a.eval o).run P w' = .ok (.value v) w') ∧ wpF P ops Q S t (a.put o.dst v) w
      else wpF P ops Q S t (a.put o.dst undef) w
  | .alt i t m, a, w =>
    (match ops[i]? with
    | none => False
    | some o => o.guard = none ∧ o.wp P a w (fun a' w' => S w' ∧ wpF P ops Q S t a' w') Q) ∧ wpF P ops Q S m a w
def okF (ops : Array Oper) : OT → Array Bool → Bool → Bool
  | .done, listed, _ => (Region.ready .any ops listed).isEmpty
  | .stop, _, inner => inner
  | .step _ i t, listed, inner => !inner && (Region.ready .any ops listed).contains i && Region.free .any ops listed i && okF ops t (listed.setIfInBounds i true) false
  | .alt i t m, listed, inner => (inner || Region.ready .any ops listed == i :: m.alts) && okF ops t (listed.setIfInBounds i true) false && t.fuel == (match m with | .alt _ t' _ => t'.fuel | _ => t.fuel) && okF ops m listed true
variable {l : List Oper}
attribute [irreducible] wpF
end
end Sedge
end
section
/-
  Contracts: ref01.Scale; resid.Bounds and its reference.
-/
set_option linter.unusedSimpArgs false
set_option linter.unusedVariables false
open Go Go.RowKit Sedge Ieee
namespace Go.Proofs.Ytcmggfpcbijcjaa
/-- float64(n + 3). -/
def gF (n : Nat) : Nat := floatOfInt .f64 ((n : Int) + 3)
def bndAt (n x b : Nat) : Nat := fadd (fadd (fabs x) (fmul (fscale (gF n) (-52)) b)) (fscale (gF n) (-1070))
def bndTo (L M : List Nat) (i : Nat) : List Nat := (List.range i).map fun j => bndAt L.length (L.getD j 0) (M.getD j 0)
def bndL (L M : List Nat) : List Nat := bndTo L M L.length
end Go.Proofs.Ytcmggfpcbijcjaa
end
section
/-
  Contracts: view.Dense without numbers; (M).Copy and straightedgeref08.Ger.
-/
set_option linter.unusedSimpArgs false
set_option linter.unusedVariables false
open Go Go.RowKit Sedge
namespace Go.Proofs.Ytcmggfpcbijcjaa
section
variable {P : Program} {o : Oper} {a : Act} {w : World} {K : Act → World → Prop} {Q : Exit → Act → World → Prop}
end
/-- Row by row: what is done up to (i, j). -/
def stepR (F s : Nat → Nat → Nat) (i j : Nat) (r c : Nat) : Nat := if r < i ∨ (r = i ∧ c < j) then F r c else s r c
def rgerF (α : Nat) (lx ly : List Nat) (M : Nat → Nat → Nat) (i j : Nat) : Nat := fadd (M i j) (fmul (fmul α (ly.getD j 0)) (lx.getD i 0))
end Go.Proofs.Ytcmggfpcbijcjaa
end
section
/-
  Contracts: the reference's Scal, Sign, Shift (layer 6).
-/
set_option linter.unusedSimpArgs false
set_option linter.unusedVariables false
open Go Go.RowKit Sedge
namespace Go.Proofs.Ytcmggfpcbijcjaa
theorem FS_one {w : World} {t : TypeId} {r y : Nat} (hr : IsF r y) (n : Nat) (hn : n = w.heap.size) : FS (w.alloc (.cells #[.float .f64 r] t)) (.slice (some ⟨n, 0, none⟩) 1 1) [y] := by
  subst hn
  refine ⟨by simp, _, 1, rfl, (fun h => by cases h), fun i hi => ⟨_, _, r, rfl, ?_, ?_⟩⟩
  · have : i = 0 := by simp at hi; exact hi
    subst this
    rw [World.cell?_alloc_new]; rfl
  · have : i = 0 := by simp at hi; exact hi
    subst this
    exact hr
def mapTo (f : Nat → Nat) (i : Nat) : List Nat := (List.range i).map f
theorem mapTo_succ (f : Nat → Nat) (i : Nat) : mapTo f (i + 1) = mapTo f i ++ [f i] := by unfold mapTo; rw [List.range_succ, List.map_append]; rfl
theorem mapTo_length (f : Nat → Nat) (i : Nat) : (mapTo f i).length = i := by simp [mapTo]
end Go.Proofs.Ytcmggfpcbijcjaa
end
section
/-
  Slices of whole numbers that a call makes itself: appends, two slices beside one another.
-/
set_option linter.unusedSimpArgs false
set_option linter.unusedVariables false
namespace Sedge
open Go Go.RowKit
/-- Their own blocks are not one. -/
def ApartV (u v : Value) : Prop := ∀ k, u.ownBlock = some k → v.ownBlock ≠ some k
section
variable {P : Program} {ops : Array Oper} {rest : List Oper} {o : Oper} {a : Act} {Q : Exit → Act → World → Prop}
theorem append1_v {t e e' : TypeId} {z0 : Value} (und : P.underlying t = some (.slice e)) (info : (P.info? e).map (fun i => (i.zero, i.size, i.bytes)) = some (some z0, 1, 8)) (hz0 : z0.cells.size = 1)
    {W w : World} (hW : Grew W w) {v y : Value} {xs : List Value} (hown : w.ownsRow W.heap.size e 1 v xs.length xs) (hy : y.oneCell' = true)
    (hlen : xs.length < 17592186044415) (s x : Operand) (hg : o.guard = none)
    (ho : o.op = .call { callee := .builtin .append, args := #[s, x], argTypes := #[t, t] }) (hs : a.eval s = v) {k : Nat} (hk : k = w.heap.size) (hx : a.eval x = .slice (some ⟨k, 0, none⟩) 1 1)
    (h : ∀ v' oo nn, (ext W oo nn).ownsRow W.heap.size e 1 v' (xs.length + 1) (xs ++ [y]) →
      (∀ e2 u n2 ys, w.ownsRow W.heap.size e2 1 u n2 ys → ApartV u v → (ext W oo nn).ownsRow W.heap.size e2 1 u n2 ys ∧ ApartV u v') → wpList P ops Q rest (a.put o.dst v') (ext W oo nn)) :
    wpList P ops Q (o :: rest) a (w.alloc (.cells #[y] e')) := by
  subst hk
  obtain ⟨i0, hi, hz⟩ := Option.map_eq_some_iff.1 info
  simp only [Prod.mk.injEq] at hz
  obtain ⟨hz1, hz2, hz3⟩ := hz
  have hgA : Grew w (w.alloc (.cells #[y] e')) := (Grew.refl w).alloc _
  have keep : ∀ e2 u n2 ys (w' : World), w.ownsRow W.heap.size e2 1 u n2 ys → (∀ k, u.ownBlock = some k → w'.heap[k]? = w.heap[k]?) → w'.ownsRow W.heap.size e2 1 u n2 ys := fun e2 u n2 ys w' hu hk => by
    obtain ⟨h1, h2⟩ := hu
    refine ⟨h1, ?_⟩
    rcases h2 with h2 | ⟨g, cap, cur, rfl, hB, hh, r⟩
    · exact .inl h2
    · exact .inr ⟨g, cap, cur, rfl, hB, by rw [hk g rfl]; exact hh, r⟩
  have hown' := keep _ _ _ _ (w.alloc (.cells #[y] e')) hown (fun k hk => hgA.below.block k (hown.lt k hk).2)
  refine wpList_append_own_at _ hg s x t ho W.heap.size e i0 z0 1 8 und hi hz1 hz2 hz3 hz0 (by decide) v xs.length xs hs hown' ⟨w.heap.size, 0, none⟩ 1 1 [y] hx rfl ?_ ?_ ?_ ?_ ?_ ?_
  · intro j u hj
    match j, hj with
    | 0, hj =>
      simp at hj; subst hj
      have e1 : (⟨w.heap.size, 0, none⟩ : Addr).add 0 = ⟨w.heap.size, 0, none⟩ := by simp [Addr.add]
      rw [e1, World.cell?_alloc_new]; rfl
  · intro u hu; simp at hu; subst hu; exact hy
  · simp [maxLen]; omega
  · omega
  · have := hW.below.size; simp; omega
  · intro v' w' ho2 hgr hnn hloc
    obtain ⟨oo, nn, rfl⟩ := grew_grown (hW.alloc (.cells #[y] e')) hgr (fun k hk => (hown.lt k hk).1)
    refine h v' oo nn ho2 fun e2 u n2 ys hu hap => ⟨keep _ _ _ _ _ hu fun k hk => ?_, fun k hk => ?_⟩
    · have hlt := (hu.lt k hk).2
      exact (hgr.block k (Nat.lt_of_lt_of_le hlt hgA.below.size) (fun e => hap k hk e.symm)).trans (hgA.below.block k hlt)
    · have hlt := (hu.lt k hk).2
      rcases hloc with h1 | h1
      · rw [h1]; exact hap k hk
      · rw [h1]; intro e; simp at e; omega
end
/-- The slice v of ours owns the whole numbers zs. -/
def OwnI (w : World) (B : Nat) (v : Value) (zs : List Int) : Prop := w.ownsRow B 3 1 v zs.length (zs.map (Value.int .i64))
theorem OwnI.nil (w : World) (B : Nat) : OwnI w B (.slice none 0 0) [] := ⟨by simp, .inl ⟨rfl, rfl⟩⟩
theorem OwnI.grew {w w' : World} {B : Nat} {v : Value} {zs : List Int} (h : OwnI w B v zs) (g : Grew w w') : OwnI w' B v zs := by
  obtain ⟨h0, h1⟩ := h
  refine ⟨h0, ?_⟩
  rcases h1 with h1 | ⟨gg, cap, cur, hv, hB, hh, r⟩
  · exact .inl h1
  · have hlt : gg < w.heap.size := by
      rcases Nat.lt_or_ge gg w.heap.size with h | h
      · exact h
      · rw [Array.getElem?_eq_none h] at hh; cases hh
    exact .inr ⟨gg, cap, cur, hv, hB, by rw [g.below.block gg hlt]; exact hh, r⟩
theorem OwnI.is {w : World} {B : Nat} {v : Value} {zs : List Int} (h : OwnI w B v zs) (hl : zs.length ≤ 9223372036854775807) : IS .i64 w v zs := by
  obtain ⟨_, h1⟩ := h
  rcases h1 with ⟨rfl, h1⟩ | ⟨g, cap, cur, rfl, _, hh, hn, hm, hsz, ht⟩
  · have : zs = [] := List.length_eq_zero_iff.1 h1
    subst this
    exact ⟨by simp, none, 0, rfl, fun i hi => by simp at hi⟩
  · refine ⟨hl, some ⟨g, 0, none⟩, cap, rfl, fun i hi => ⟨g, 0, rfl, ?_⟩⟩
    rw [Nat.mul_one] at ht
    have := take_getElem? (i := i) ht (by simpa using hi)
    simp only [World.cell?, hh, Nat.zero_add, Option.isSome_none, Bool.false_eq_true, if_false]
    rw [← Array.getElem?_toList, this]
    simp [List.getD_eq_getElem?_getD, hi]
end Sedge
end
section
/-
  Plain laws on the reference's digits: lists of 16 bits, what they are worth.
-/
set_option linter.unusedSimpArgs false
set_option linter.unusedVariables false
namespace Sedge
open Ieee

def dv : List Nat → Nat
  | [] => 0
  | d :: l => d + 65536 * dv l
theorem dv_append : ∀ (a b : List Nat), dv (a ++ b) = dv a + 65536 ^ a.length * dv b
  | [], b => by simp [dv]
  | d :: a, b => by
    show d + 65536 * dv (a ++ b) = d + 65536 * dv a + 65536 ^ (a.length + 1) * dv b
    rw [dv_append a b, Nat.pow_succ, Nat.mul_add, Nat.mul_comm (65536 ^ a.length) 65536, Nat.mul_assoc]; omega
def Dg (l : List Nat) : Prop := ∀ d ∈ l, d < 65536
theorem Dg.nil : Dg [] := fun d h => by cases h
theorem Dg.tail {d : Nat} {l : List Nat} (h : Dg (d :: l)) : Dg l := fun x hx => h x (List.mem_cons_of_mem _ hx)
theorem Dg.append {a b : List Nat} (h : Dg a) (k : Dg b) : Dg (a ++ b) := fun x hx => by
  rcases List.mem_append.1 hx with hx | hx
  · exact h x hx
  · exact k x hx
theorem Dg.one {d : Nat} (h : d < 65536) : Dg [d] := fun x hx => by simp at hx; omega
theorem Dg.get {l : List Nat} (h : Dg l) (i : Nat) : l.getD i 0 < 65536 := by
  rw [List.getD_eq_getElem?_getD]
  by_cases hi : i < l.length
  · rw [List.getElem?_eq_getElem hi]; exact h _ (List.getElem_mem hi)
  · rw [List.getElem?_eq_none (by omega)]; decide
theorem Dg.set {l : List Nat} (h : Dg l) (i : Nat) {x : Nat} (hx : x < 65536) : Dg (l.set i x) := fun d hd => by
  rcases List.mem_or_eq_of_mem_set hd with hd | hd
  · exact h d hd
  · omega
theorem Dg.replicate (n : Nat) : Dg (List.replicate n 0) := fun d hd => by rw [List.eq_of_mem_replicate hd]; decide
theorem Dg.dropLast {l : List Nat} (h : Dg l) : Dg l.dropLast := fun d hd => h d (List.dropLast_subset l hd)
theorem dv_lt : ∀ {l : List Nat}, Dg l → dv l < 65536 ^ l.length
  | [], _ => by simp [dv]
  | d :: l, h => by
    have h1 := dv_lt h.tail
    have h2 := h d (List.mem_cons_self ..)
    show d + 65536 * dv l < 65536 ^ (l.length + 1)
    rw [Nat.pow_succ]; omega
theorem dv_replicate : ∀ n, dv (List.replicate n 0) = 0
  | 0 => rfl
  | n + 1 => by show 0 + 65536 * dv (List.replicate n 0) = 0; rw [dv_replicate n]
theorem dv_set : ∀ {l : List Nat} {i : Nat}, i < l.length → ∀ x, dv (l.set i x) + l.getD i 0 * 65536 ^ i = dv l + x * 65536 ^ i
  | [], i, h, x => by simp at h
  | d :: l, 0, h, x => by simp [dv]; omega
  | d :: l, i + 1, h, x => by
    have := dv_set (l := l) (i := i) (by simpa using h) x
    show d + 65536 * dv (l.set i x) + l.getD i 0 * 65536 ^ (i + 1) = d + 65536 * dv l + x * 65536 ^ (i + 1)
    rw [Nat.pow_succ, ← Nat.mul_assoc, ← Nat.mul_assoc]; omega
theorem dv_get_le : ∀ (l : List Nat) (i : Nat), l.getD i 0 * 65536 ^ i ≤ dv l
  | [], i => by simp
  | d :: l, 0 => by simp [dv]
  | d :: l, i + 1 => by
    have := dv_get_le l i
    show l.getD i 0 * 65536 ^ (i + 1) ≤ d + 65536 * dv l
    rw [Nat.pow_succ, ← Nat.mul_assoc]; omega
theorem dv_pos {l : List Nat} (h : l ≠ []) (hl : l.getLast h ≠ 0) : dv l ≠ 0 := by
  intro h0
  have h1 := dv_get_le l (l.length - 1)
  rw [h0] at h1
  have hlen : 0 < l.length := List.length_pos_iff.2 h
  have e : l.getD (l.length - 1) 0 = l.getLast h := by
    rw [List.getLast_eq_getElem, List.getD_eq_getElem?_getD, List.getElem?_eq_getElem (by omega)]; rfl
  rw [e] at h1
  have : 0 < 65536 ^ (l.length - 1) := Nat.pow_pos (by decide)
  have h2 : 0 < l.getLast h * 65536 ^ (l.length - 1) := Nat.mul_pos (by omega) this
  omega
theorem dv_dropLast {l : List Nat} (h : l ≠ []) (hl : l.getLast h = 0) : dv l.dropLast = dv l := by
  have := dv_append l.dropLast [l.getLast h]
  rw [List.dropLast_concat_getLast] at this
  rw [this, hl]; simp [dv]

/-- The sum of so many digits. -/
def ds (f : Nat → Nat) : Nat → Nat
  | 0 => 0
  | k + 1 => ds f k + f k * 65536 ^ k
theorem ds_congr {f g : Nat → Nat} : ∀ {n : Nat}, (∀ k, k < n → f k = g k) → ds f n = ds g n
  | 0, _ => rfl
  | n + 1, h => by
    unfold ds
    rw [ds_congr (fun k hk => h k (by omega)), h n (by omega)]
theorem ds_lt {f : Nat → Nat} (h : ∀ k, f k < 65536) : ∀ n, ds f n < 65536 ^ n
  | 0 => by simp [ds]
  | n + 1 => by
    have h1 := ds_lt h n
    have h2 := h n
    unfold ds
    rw [Nat.pow_succ]
    have : f n * 65536 ^ n ≤ 65535 * 65536 ^ n := Nat.mul_le_mul_right _ (by omega)
    omega
theorem ds_succ' (f : Nat → Nat) : ∀ n, ds f (n + 1) = f 0 + 65536 * ds (fun k => f (k + 1)) n
  | 0 => by simp [ds]
  | n + 1 => by
    have := ds_succ' f n
    show ds f (n + 1) + f (n + 1) * 65536 ^ (n + 1) = f 0 + 65536 * (ds (fun k => f (k + 1)) n + f (n + 1) * 65536 ^ n)
    rw [this, Nat.pow_succ, Nat.mul_add, Nat.mul_left_comm 65536, Nat.mul_comm 65536 (65536 ^ n)]
    omega
theorem ds_list : ∀ (l : List Nat), ds (fun k => l.getD k 0) l.length = dv l
  | [] => rfl
  | d :: l => by
    show ds _ (l.length + 1) = _
    rw [ds_succ']
    have := ds_list l
    show d + 65536 * ds (fun k => l.getD k 0) l.length = _
    rw [this]; rfl
theorem ds_zero {f : Nat → Nat} {n : Nat} (h : ∀ k, k < n → f k = 0) : ds f n = 0 := by
  rw [ds_congr h]
  clear h
  induction n with
  | zero => rfl
  | succ n ih => unfold ds; rw [ih]; simp
theorem ds_add (f : Nat → Nat) (a : Nat) : ∀ b, ds f (a + b) = ds f a + 65536 ^ a * ds (fun k => f (a + k)) b
  | 0 => by simp [ds]
  | b + 1 => by
    show ds f (a + b) + f (a + b) * 65536 ^ (a + b) = ds f a + 65536 ^ a * (ds (fun k => f (a + k)) b + f (a + b) * 65536 ^ b)
    rw [ds_add f a b, Nat.mul_add, Nat.pow_add, Nat.mul_left_comm]; omega
/-- The digit of a place. -/
def digAt (l : List Nat) (E p : Int) : Nat := if p < E ∨ E + l.length ≤ p then 0 else l.getD (p - E).toNat 0
theorem digAt_lt {l : List Nat} (h : Dg l) (E p : Int) : digAt l E p < 65536 := by
  unfold digAt; split
  · decide
  · exact h.get _
theorem ds_digAt {l : List Nat} {E F : Int} {n : Nat} (h1 : F ≤ E) (h2 : E + l.length ≤ F + n) : ds (fun k => digAt l E (F + k)) n = 65536 ^ (E - F).toNat * dv l := by
  obtain ⟨a, ha⟩ : ∃ a : Nat, a = (E - F).toNat := ⟨_, rfl⟩
  obtain ⟨c, hc⟩ : ∃ c : Nat, c = n - a - l.length := ⟨_, rfl⟩
  have en : n = a + (l.length + c) := by omega
  rw [en, ds_add, ds_add, ← ha]
  rw [ds_zero (f := fun k => digAt l E (F + k)) (n := a) (fun k hk => by unfold digAt; rw [if_pos (by omega)])]
  rw [ds_zero (n := c) (fun k hk => by show digAt l E (F + _) = 0; unfold digAt; rw [if_pos (by omega)])]
  rw [ds_congr (g := fun k => l.getD k 0) (n := l.length) (fun k hk => by
    show digAt l E (F + ((a + k : Nat) : Int)) = _
    unfold digAt; rw [if_neg (by omega)]; congr 1; omega)]
  rw [ds_list]; simp
theorem ds_digAt_nil {E F : Int} {n : Nat} : ds (fun k => digAt [] E (F + k)) n = 0 := ds_zero fun k _ => by
  unfold digAt; split <;> simp
theorem p2_pow16 (n : Nat) : ((65536 ^ n : Nat) : Rat) = p2 (16 * n) := by
  have : (65536 : Nat) ^ n = 2 ^ (16 * n) := by rw [Nat.pow_mul]
  rw [this, ← p2_nat]; congr 1
/-- What is worth the digits of places from F on. -/
theorem ds_worth {l : List Nat} {E F : Int} {n : Nat} (h : l = [] ∨ F ≤ E ∧ E + l.length ≤ F + n) : (ds (fun k => digAt l E (F + k)) n : Rat) * p2 (16 * F) = (dv l : Rat) * p2 (16 * E) := by
  rcases h with rfl | ⟨h1, h2⟩
  · rw [ds_digAt_nil]; simp [dv]
  · rw [ds_digAt h1 h2, Rat.natCast_mul, p2_pow16]
    have : p2 (16 * E) = p2 (16 * ((E - F).toNat : Nat)) * p2 (16 * F) := by rw [← p2_add]; congr 1; omega
    rw [this]; grind
/-- The highest digit that differs decides. -/
theorem ds_less {f g : Nat → Nat} (hf : ∀ k, f k < 65536) {p n : Nat} (hp : p < n) (h : f p < g p) (he : ∀ k, p < k → k < n → f k = g k) : ds f n < ds g n := by
  obtain ⟨c, rfl⟩ : ∃ c, n = p + 1 + c := ⟨n - (p + 1), by omega⟩
  rw [ds_add f (p + 1) c, ds_add g (p + 1) c, ds_congr (f := fun k => f (p + 1 + k)) (g := fun k => g (p + 1 + k)) (fun k hk => he _ (by omega) (by omega))]
  refine Nat.add_lt_add_right ?_ _
  unfold ds
  have h1 := ds_lt hf p
  have h2 : (f p + 1) * 65536 ^ p ≤ g p * 65536 ^ p := Nat.mul_le_mul_right _ h
  rw [Nat.add_mul] at h2
  omega
/-- One step of a product's row. -/
theorem mul_step {l : List Nat} {i c a b : Nat} (hi : i < l.length) :
    dv (l.set i ((c + a * b + l.getD i 0) % 65536)) + (c + a * b + l.getD i 0) / 65536 * 65536 ^ (i + 1) = dv l + c * 65536 ^ i + a * b * 65536 ^ i := by
  have h1 := dv_set hi ((c + a * b + l.getD i 0) % 65536)
  have h2 := Nat.div_add_mod (c + a * b + l.getD i 0) 65536
  generalize (c + a * b + l.getD i 0) / 65536 = q at *
  generalize (c + a * b + l.getD i 0) % 65536 = m at *
  rw [Nat.pow_succ]
  generalize 65536 ^ i = P at *
  have h3 : (65536 * q + m) * P = (c + a * b + l.getD i 0) * P := by rw [h2]
  rw [Nat.add_mul, Nat.add_mul, Nat.add_mul, Nat.mul_assoc] at h3
  rw [Nat.mul_comm P 65536, Nat.mul_left_comm q]
  omega
theorem mul_carry {c a b d : Nat} (hc : c < 65536) (ha : a < 65536) (hb : b < 65536) (hd : d < 65536) : c + a * b + d < 4294967296 ∧ (c + a * b + d) / 65536 < 65536 := by
  have : a * b ≤ 65535 * 65535 := Nat.mul_le_mul (by omega) (by omega)
  omega
/-- One step of a shift. -/
theorem shift_step {l : List Nat} {i d r : Nat} (hi : i + 1 < l.length) (hl : Dg l) (hd : d < 65536) (hr : r < 16) (h0 : l.getD i 0 < 2 ^ r) (hz : ∀ k, i < k → l.getD k 0 = 0) :
    dv ((l.set i (l.getD i 0 + d * 2 ^ r % 65536)).set (i + 1) (d * 2 ^ r / 65536)) = dv l + d * 2 ^ r * 65536 ^ i ∧ Dg ((l.set i (l.getD i 0 + d * 2 ^ r % 65536)).set (i + 1) (d * 2 ^ r / 65536)) ∧
    ((l.set i (l.getD i 0 + d * 2 ^ r % 65536)).set (i + 1) (d * 2 ^ r / 65536)).getD (i + 1) 0 < 2 ^ r ∧ ∀ k, i + 1 < k → ((l.set i (l.getD i 0 + d * 2 ^ r % 65536)).set (i + 1) (d * 2 ^ r / 65536)).getD k 0 = 0 := by
  have e : 2 ^ r * 2 ^ (16 - r) = 65536 := by rw [← Nat.pow_add, show r + (16 - r) = 16 by omega]
  have hg : 0 < 2 ^ r := Nat.two_pow_pos r
  have hh : 0 < 2 ^ (16 - r) := Nat.two_pow_pos _
  have hm : l.getD i 0 + d * 2 ^ r % 65536 < 65536 := by
    have h1 : d * 2 ^ r % 65536 = 2 ^ r * (d % 2 ^ (16 - r)) := by rw [← e, Nat.mul_comm d, Nat.mul_mod_mul_left]
    have h2 := Nat.mod_lt d hh
    have h3 : 2 ^ r * (d % 2 ^ (16 - r) + 1) ≤ 2 ^ r * 2 ^ (16 - r) := Nat.mul_le_mul_left _ h2
    rw [Nat.mul_add, e] at h3
    omega
  have hq : d * 2 ^ r / 65536 < 2 ^ r := by
    rw [Nat.div_lt_iff_lt_mul (by decide), Nat.mul_comm]
    exact Nat.mul_lt_mul_of_pos_left hd hg
  have hr2 : 2 ^ r ≤ 32768 := by
    have := Nat.pow_le_pow_right (n := 2) (by decide) (show r ≤ 15 by omega)
    omega
  refine ⟨?_, (hl.set _ hm).set _ (by omega), ?_, ?_⟩
  · have s1 := dv_set (l := l) (i := i) (by omega) (l.getD i 0 + d * 2 ^ r % 65536)
    have s2 := dv_set (l := l.set i (l.getD i 0 + d * 2 ^ r % 65536)) (i := i + 1) (by simpa using hi) (d * 2 ^ r / 65536)
    have e2 : (l.set i (l.getD i 0 + d * 2 ^ r % 65536)).getD (i + 1) 0 = 0 := by
      rw [List.getD_eq_getElem?_getD, List.getElem?_set_ne (by omega), ← List.getD_eq_getElem?_getD]
      exact hz _ (by omega)
    rw [e2] at s2
    have hdm := Nat.div_add_mod (d * 2 ^ r) 65536
    generalize d * 2 ^ r / 65536 = q at *
    generalize d * 2 ^ r % 65536 = m at *
    generalize d * 2 ^ r = T at *
    rw [Nat.pow_succ] at s2
    subst hdm
    rw [Nat.add_mul, Nat.mul_assoc, Nat.mul_left_comm]
    rw [Nat.add_mul] at s1
    rw [Nat.mul_comm (65536 ^ i) 65536, Nat.mul_left_comm q] at s2
    rw [Nat.mul_left_comm q] 
    omega
  · rw [List.getD_eq_getElem?_getD, List.getElem?_set, if_pos rfl, if_pos (by simpa using hi)]
    exact hq
  · intro k hk
    rw [List.getD_eq_getElem?_getD, List.getElem?_set_ne (by omega), List.getElem?_set_ne (by omega), ← List.getD_eq_getElem?_getD]
    exact hz _ (by omega)
end Sedge
end
section
/-
  Slices of digits: how they read; blocks of them that may be written; appends, make.
-/
set_option linter.unusedSimpArgs false
set_option linter.unusedVariables false
namespace Sedge
open Go Go.RowKit

theorem Grew.same_o {X : World} {o : Array Obj} {n n' : Nat} : Grew (Sedge.ext X o n) (Sedge.ext X o n') := ⟨#[], n', by simp⟩
theorem Grew.app_o {X : World} {o o' : Array Obj} {n n' : Nat} : Grew (Sedge.ext X o n) (Sedge.ext X (o ++ o') n') := ⟨o', n', by simp⟩
/-- The slice v reads, in w, as the digits l. -/
def NS (w : World) (v : Value) (l : List Nat) : Prop :=
  ∃ a cap, v = .slice a l.length cap ∧ l.length ≤ cap ∧ ∀ i, i < l.length → ∃ blk o, a = some ⟨blk, o, none⟩ ∧ w.cell? ⟨blk, o + i, none⟩ = some (.int .i64 (l.getD i 0 : Nat))
theorem NS.shape {w : World} {v : Value} {l : List Nat} (h : NS w v l) : ∃ a cap, v = .slice a l.length cap := by
  obtain ⟨a, cap, rfl, _⟩ := h; exact ⟨a, cap, rfl⟩
theorem NS.at {w : World} {a : Option Addr} {n cap : Nat} {l : List Nat} (h : NS w (.slice a n cap) l) : n = l.length ∧ n ≤ cap ∧ (0 < l.length → ∃ blk o, a = some ⟨blk, o, none⟩ ∧ blk < w.heap.size ∧
      ∀ i, i < l.length → w.cell? ⟨blk, o + i, none⟩ = some (.int .i64 (l.getD i 0 : Nat))) := by
  obtain ⟨a', cap', e, h0, hc⟩ := h
  cases e
  refine ⟨rfl, h0, fun hn => ?_⟩
  obtain ⟨blk, o, rfl, h1⟩ := hc 0 hn
  refine ⟨blk, o, rfl, World.block_lt_of_cell? w _ h1, fun i hi => ?_⟩
  obtain ⟨blk', o', he, h1'⟩ := hc i hi
  cases he
  exact h1'
theorem NS.open {w : World} {v : Value} {l : List Nat} (h : NS w v l) (hn : 0 < l.length) :
    ∃ blk o cap, v = .slice (some ⟨blk, o, none⟩) l.length cap ∧ blk < w.heap.size ∧ l.length ≤ cap ∧
      ∀ i, i < l.length → w.cell? ⟨blk, o + i, none⟩ = some (.int .i64 (l.getD i 0 : Nat)) := by
  obtain ⟨a, cap, rfl⟩ := h.shape
  obtain ⟨blk, o, rfl, h1, h2⟩ := h.at.2.2 hn
  exact ⟨blk, o, cap, rfl, h1, h.at.2.1, h2⟩
theorem NS.same {w w' : World} {v : Value} {l : List Nat} (h : NS w v l) (hs : ∀ a : Addr, a.block < w.heap.size → w'.cell? a = w.cell? a) : NS w' v l := by
  obtain ⟨a, cap, hv, h0, hc⟩ := h
  refine ⟨a, cap, hv, h0, fun i hi => ?_⟩
  obtain ⟨blk, o, he, h1⟩ := hc i hi
  exact ⟨blk, o, he, by rw [hs _ (World.block_lt_of_cell? w _ h1)]; exact h1⟩
theorem NS.below {w w' : World} {v : Value} {l : List Nat} (h : NS w v l) (hb : Below w.heap.size w w') : NS w' v l := h.same fun _ ha => hb.cell ha
theorem NS.grew {w w' : World} {v : Value} {l : List Nat} (h : NS w v l) (g : Grew w w') : NS w' v l := h.below g.below
theorem NS.ext {w : World} {v : Value} {l : List Nat} (h : NS w v l) (o : Array Obj) (n : Nat) : NS (ext w o n) v l := h.grew ⟨_, _, rfl⟩
theorem NS.alloc {w : World} {v : Value} {l : List Nat} (h : NS w v l) (o : Obj) : NS (w.alloc o) v l := h.grew ((Grew.refl _).alloc o)
theorem NS.nil (w : World) : NS w (.slice none 0 0) [] := ⟨none, 0, rfl, Nat.le_refl _, fun i hi => by simp at hi⟩
/-- Without the first. -/
theorem NS.tail {w : World} {blk o n cap d : Nat} {l : List Nat} (h : NS w (.slice (some ⟨blk, o, none⟩) n cap) (d :: l)) : NS w (.slice (some ⟨blk, o + 1, none⟩) (n - 1) (cap - 1)) l := by
  obtain ⟨a, c, e, h0, hc⟩ := h
  cases e
  refine ⟨_, _, rfl, by simp at h0; omega, fun i hi => ?_⟩
  obtain ⟨blk', o', he, h1⟩ := hc (i + 1) (by simp; omega)
  cases he
  exact ⟨blk, o + 1, rfl, by rw [show o + 1 + i = o + (i + 1) by omega]; exact h1⟩
theorem NS.tail' {w : World} {blk o n cap d : Nat} {l : List Nat} (h : NS w (.slice (some ⟨blk, o, none⟩) n cap) (d :: l)) : NS w (.slice (if cap = 1 then some ⟨blk, o, none⟩ else some ⟨blk, o + 1, none⟩) l.length (cap - 1)) l := by
  have hn := h.at.1
  have hc := h.at.2.1
  have e : n - 1 = l.length := by rw [hn]; simp
  have h1 := h.tail
  rw [e] at h1
  simp at hn
  by_cases h0 : cap = 1
  · rw [if_pos h0]
    have : l = [] := List.length_eq_zero_iff.1 (by omega)
    subst this
    exact ⟨_, _, rfl, Nat.zero_le _, fun i hi => by simp at hi⟩
  · rw [if_neg h0]; exact h1
theorem NS.dropLast {w : World} {a : Option Addr} {n cap : Nat} {l : List Nat} (h : NS w (.slice a n cap) l) : NS w (.slice a (n - 1) cap) l.dropLast := by
  obtain ⟨a', c, e, h0, hc⟩ := h
  cases e
  refine ⟨a, cap, by simp, by simp; omega, fun i hi => ?_⟩
  have hi' : i < l.length - 1 := by simpa using hi
  obtain ⟨blk', o', he, h1⟩ := hc i (by omega)
  refine ⟨blk', o', he, ?_⟩
  rw [h1]
  congr 2
  rw [List.getD_eq_getElem?_getD, List.getD_eq_getElem?_getD, List.getElem?_dropLast, if_pos hi']

/-- The cells of digits. -/
def ia (l : List Nat) : Array Value := (l.map fun d : Nat => Value.int .i64 d).toArray
@[simp] theorem ia_size (l : List Nat) : (ia l).size = l.length := by simp [ia]
theorem ia_get (l : List Nat) {i : Nat} (h : i < l.length) : (ia l)[i]? = some (.int .i64 (l.getD i 0 : Nat)) := by
  simp [ia, List.getD_eq_getElem?_getD, h]
theorem ia_set (l : List Nat) (i d : Nat) : (ia l).setIfInBounds i (.int .i64 (d : Nat)) = ia (l.set i d) := by
  unfold ia; rw [List.setIfInBounds_toArray, List.map_set]
/-- Block b holds the digits l and no more; it may be written. -/
def IB (w : World) (b : Nat) (l : List Nat) : Prop := ∃ e, w.heap[b]? = some (.cells (ia l) e (0, 0))
section
variable {w : World} {b : Nat} {l : List Nat}
theorem IB.lt (h : IB w b l) : b < w.heap.size := by
  obtain ⟨e, h1⟩ := h
  exact (Array.getElem?_eq_some_iff.1 h1).1
theorem IB.notFrozen (h : IB w b l) (i : Nat) : w.frozen? ⟨b, i, none⟩ = false := by
  obtain ⟨e, h1⟩ := h
  unfold World.frozen?
  simp only [h1]
  simp
theorem IB.self (h : IB w b l) : upd w b (ia l) = w := by
  obtain ⟨e, h1⟩ := h
  unfold upd
  cases w with | mk hp tp dr os' out => ?_
  simp only [World.mk.injEq, true_and, and_true] at *
  apply Array.ext_getElem?
  intro i
  rw [Array.getElem?_modify]
  split
  · rename_i he; subst he; rw [h1]; rfl
  · rfl
theorem IB.cells (h : IB w b l) (cs : Array Value) (i : Nat) : (upd w b cs).cell? ⟨b, i, none⟩ = cs[i]? := by
  obtain ⟨e, h1⟩ := h
  unfold World.cell?
  simp only [block_upd h1]
  simp
theorem IB.get (h : IB w b l) {l' : List Nat} {i : Nat} (hi : i < l'.length) : (upd w b (ia l')).cell? ⟨b, i, none⟩ = some (.int .i64 (l'.getD i 0 : Nat)) := by rw [h.cells, ia_get _ hi]
theorem IB.mk' (h : IB w b l) (l' : List Nat) (o : Array Obj) (n : Nat) : IB (Sedge.ext (upd w b (ia l')) o n) b l' := by
  have hlt := h.lt
  obtain ⟨e, h1⟩ := h
  exact ⟨e, by rw [block_ext (by simpa using hlt), block_upd h1]⟩
theorem IB.ns (h : IB w b l) {cap : Nat} (hc : l.length ≤ cap) : NS w (.slice (some ⟨b, 0, none⟩) l.length cap) l := by
  obtain ⟨e, h1⟩ := h
  refine ⟨_, cap, rfl, hc, fun i hi => ⟨b, 0, rfl, ?_⟩⟩
  unfold World.cell?
  simp only [h1, Nat.zero_add]
  simpa using ia_get l hi
theorem IB.same {w' : World} (h : IB w b l) (hs : w'.heap[b]? = w.heap[b]?) : IB w' b l := by
  obtain ⟨e, h1⟩ := h
  exact ⟨e, hs.trans h1⟩
theorem IB.grew {w' : World} (h : IB w b l) (g : Grew w w') : IB w' b l := h.same (g.below.block b h.lt)
theorem IB.ext (h : IB w b l) (o : Array Obj) (n : Nat) : IB (Sedge.ext w o n) b l := h.grew ⟨_, _, rfl⟩
end
theorem NS.upd_ne {w : World} {v : Value} {l : List Nat} (h : NS w v l) {b : Nat} (hn : NotIn b v) (cs : Array Value) : NS (upd w b cs) v l := by
  obtain ⟨a, cap, hv, h0, hc⟩ := h
  refine ⟨a, cap, hv, h0, fun i hi => ?_⟩
  obtain ⟨blk, o, he, h1⟩ := hc i hi
  refine ⟨blk, o, he, ?_⟩
  rw [cell_upd_ne (by exact hn ⟨blk, o, none⟩ _ _ (by rw [hv, he]))]
  exact h1
/-- The slice v of ours owns the digits l. -/
def OwnN (w : World) (B : Nat) (v : Value) (l : List Nat) : Prop := w.ownsRow B 3 1 v l.length (l.map fun d : Nat => Value.int .i64 d)
theorem OwnN.nil (w : World) (B : Nat) : OwnN w B (.slice none 0 0) [] := ⟨by simp, .inl ⟨rfl, rfl⟩⟩
theorem OwnN.grew {w w' : World} {B : Nat} {v : Value} {l : List Nat} (h : OwnN w B v l) (g : Grew w w') : OwnN w' B v l := by
  obtain ⟨h0, h1⟩ := h
  refine ⟨h0, ?_⟩
  rcases h1 with h1 | ⟨gg, cap, cur, hv, hB, hh, r⟩
  · exact .inl h1
  · have hlt : gg < w.heap.size := by
      rcases Nat.lt_or_ge gg w.heap.size with h | h
      · exact h
      · rw [Array.getElem?_eq_none h] at hh; cases hh
    exact .inr ⟨gg, cap, cur, hv, hB, by rw [g.below.block gg hlt]; exact hh, r⟩
theorem OwnN.ns {w : World} {B : Nat} {v : Value} {l : List Nat} (h : OwnN w B v l) : NS w v l := by
  obtain ⟨_, h1⟩ := h
  rcases h1 with ⟨rfl, h1⟩ | ⟨g, cap, cur, rfl, _, hh, hn, hm, hsz, ht⟩
  · have : l = [] := List.length_eq_zero_iff.1 h1
    subst this
    exact NS.nil w
  · refine ⟨some ⟨g, 0, none⟩, cap, rfl, hn, fun i hi => ⟨g, 0, rfl, ?_⟩⟩
    rw [Nat.mul_one] at ht
    have := take_getElem? (i := i) ht (by simpa using hi)
    simp only [World.cell?, hh, Nat.zero_add, Option.isSome_none, Bool.false_eq_true, if_false]
    rw [← Array.getElem?_toList, this]
    simp [List.getD_eq_getElem?_getD, hi]
theorem OwnN.block {w : World} {B : Nat} {v : Value} {l : List Nat} (h : OwnN w B v l) : ∀ k, v.ownBlock = some k → B ≤ k := by
  obtain ⟨_, h1⟩ := h
  intro k hk
  rcases h1 with ⟨rfl, _⟩ | ⟨g, cap, cur, rfl, hB, _⟩
  · simp [Value.ownBlock] at hk
  · simp [Value.ownBlock] at hk; omega
section
variable {P : Program} {ops : Array Oper} {rest : List Oper} {o : Oper} {a : Act} {Q : Exit → Act → World → Prop}
theorem append1_n {t e' : TypeId} {z0 : Value} (und : P.underlying t = some (.slice 3)) (info : (P.info? 3).map (fun i => (i.zero, i.size, i.bytes)) = some (some z0, 1, 8)) (hz0 : z0.cells.size = 1)
    {W w : World} (hW : Grew W w) {v : Value} {l : List Nat} (hown : OwnN w W.heap.size v l) {d : Nat} {di : Int} (hd : di = (d : Nat))
    (hlen : l.length < 17592186044415) (s x : Operand) (hg : o.guard = none)
    (ho : o.op = .call { callee := .builtin .append, args := #[s, x], argTypes := #[t, t] }) (hs : a.eval s = v) {k : Nat} (hk : k = w.heap.size) (hx : a.eval x = .slice (some ⟨k, 0, none⟩) 1 1)
    (h : ∀ v' oo nn, OwnN (ext W oo nn) W.heap.size v' (l ++ [d]) → wpList P ops Q rest (a.put o.dst v') (ext W oo nn)) :
    wpList P ops Q (o :: rest) a (w.alloc (.cells #[.int .i64 di] e')) := by
  subst hd
  refine append1_v und info hz0 hW (xs := l.map fun d : Nat => Value.int .i64 d) (by simpa [OwnN] using hown) rfl (by simpa using hlen) s x hg ho hs hk hx ?_
  intro v' oo nn h1 _
  exact h v' oo nn (by simpa [OwnN] using h1)
/-- 'make([]int, n)'. -/
theorem make_n {t : TypeId} (und : P.underlying t = some (.slice 3)) (info : (P.info? 3).map (fun i => (i.zero, i.size, i.bytes)) = some (some (.int .i64 0), 1, 8)) {W w : World} (hW : Grew W w) (x c : Operand) (hg : o.guard = none) (hop : o.op = Op.makeSlice t x c) (n : Nat) {L : Int} (hL : L = n) (hl : a.eval x = .int .i64 L) (hc : a.eval c = .int .i64 L)
    (hn : n ≤ 17592186044415)
    (h : ∀ oo nn k, W.heap.size ≤ k → IB (ext W oo nn) k (List.replicate n 0) → wpList P ops Q rest (a.put o.dst (.slice (some ⟨k, 0, none⟩) n n)) (ext W oo nn)) :
    wpList P ops Q (o :: rest) a w := by
  obtain ⟨i0, hi, hz⟩ := Option.map_eq_some_iff.1 info
  simp only [Prod.mk.injEq] at hz
  obtain ⟨hz0, hz1, hz2⟩ := hz
  refine wpList_make_full w hg x c t hop W.heap.size 3 i0 (.int .i64 0) 1 und hi hz0 hz1 .i64 .i64 L L n hl hc hL hL (by rw [hz2]; omega) (by simp [maxLen]; omega) hW.below.size ?_
  intro w' ho hgr
  obtain ⟨oo, nn, rfl⟩ := grew_grown hW hgr (fun k hk => by cases hk)
  refine h oo nn _ hW.below.size ?_
  obtain ⟨_, h1⟩ := ho
  rcases h1 with ⟨h1, _⟩ | ⟨g, cap, cur, he, _, hh, _, _, hsz, ht⟩
  · cases h1
  · cases he
    refine ⟨3, ?_⟩
    rw [hh]
    congr 2
    apply Array.toList_inj.1
    have e0 : cur.toList.length = n * 1 := by simpa using hsz
    rw [List.take_of_length_le (by omega)] at ht
    rw [ht]
    apply List.ext_getElem?
    intro k
    simp [madeCells, Value.cells, Nat.mod_one, ia]
    by_cases hk : k < n <;> simp [hk]
end
end Sedge
end
section
/-
  Contracts: the reference's digits (layer 2): floor, power.
-/
set_option linter.unusedSimpArgs false
set_option linter.unusedVariables false
open Go Go.RowKit Sedge
namespace Go.Proofs.Ytcmggfpcbijcjaa
theorem iinfoN : (Try.prog.info? 3).map (fun i => (i.zero, i.size, i.bytes)) = some (some (Value.int .i64 0), 1, 8) := by kernel_rfl
theorem iundN : Try.prog.underlying 30 = some (.slice 3) := by kernel_rfl
theorem tmod16 (k : Int) : k.tmod 16 = if 0 ≤ k then k % 16 else -((-k) % 16) := by
  split
  · rename_i h; exact Int.tmod_eq_emod_of_nonneg h
  · rename_i h
    have : k.tmod 16 = -((-k).tmod 16) := by rw [Int.neg_tmod, Int.neg_neg]
    rw [this, Int.tmod_eq_emod_of_nonneg (by omega)]
theorem floor_arith (k : Int) : -16 < k.tmod 16 ∧ k.tmod 16 < 16 ∧ (k.tmod 16 + 16).tmod 16 = k % 16 ∧ (k - k % 16).tdiv 16 = k / 16 := by
  have h := tmod16 k
  have hb : -16 < k.tmod 16 ∧ k.tmod 16 < 16 := by rw [h]; split <;> omega
  have e1 : (k.tmod 16 + 16).tmod 16 = (k.tmod 16 + 16) % 16 := Int.tmod_eq_emod_of_nonneg (by omega)
  have e2 : (k - k % 16).tdiv 16 = k / 16 := by
    rw [show k - k % 16 = k / 16 * 16 by omega, Int.mul_tdiv_cancel _ (by decide)]
  refine ⟨hb.1, hb.2, ?_, e2⟩
  rw [e1, h]
  split <;> omega
set_option maxRecDepth 100000 in
set_option maxHeartbeats 1000000 in
theorem floor_any (k : Int) (w : World) (hk : -1000000 ≤ k ∧ k ≤ 1000000) : Calls Try.prog 124 #[.int .i64 k] w (fun e w' => e = .returned (.tuple #[.int .i64 (k / 16), .int .i64 (k % 16)]) ∧ w' = w) := by
  obtain ⟨hb1, hb2, h1, h2⟩ := floor_arith k
  obtain ⟨R, hR⟩ : ∃ R, R = k % 16 := ⟨_, rfl⟩
  obtain ⟨Q, hQ⟩ : ∃ Q, Q = k / 16 := ⟨_, rfl⟩
  rw [← hR] at h1 h2 ⊢
  rw [← hQ] at h2 ⊢
  have a1 : IntKind.i64.wrap (k.tmod 16 + 16) = k.tmod 16 + 16 := IntWalk.i64_in _ (by omega)
  have a2 : IntKind.i64.wrap (k - R) = k - R := IntWalk.i64_in _ (by omega)
  have a3 : IntKind.i64.wrap Q = Q := IntWalk.i64_in _ (by omega)
  clear hR hQ
  go_enter Try.func124, Try.ntmps124
  go_wp2
  refine bodyPost_ret (v := .tuple #[.int .i64 Q, .int .i64 R]) (by simp [results, Try.results124, go_sem, *]) rfl ?_
  exact ⟨rfl, rfl⟩
theorem pow_le16 {j : Nat} (h : j ≤ 16) : 2 ^ j ≤ 65536 := Nat.pow_le_pow_right (n := 2) (by decide) h
set_option maxRecDepth 100000 in
set_option maxHeartbeats 1000000 in
theorem power_any (k : Nat) (w : World) (hk : k ≤ 16) : Calls Try.prog 125 #[.int .i64 k] w (fun e w' => e = .returned (.int .i64 ((2 ^ k : Nat) : Int)) ∧ w' = w) := by
  go_enter Try.func125, Try.ntmps125
  go_wp2
  go_loopw [3, 4] (fun c d wr => ∃ j : Nat, j ≤ k ∧ c = .int .i64 ((2 ^ j : Nat) : Int) ∧ d = .int .i64 j ∧ wr = w) (fun _ d _ => k - (intOf d).toNat)
  case atStart => exact ⟨0, Nat.zero_le _, rfl, rfl, rfl⟩
  case round =>
    obtain ⟨j, hj, rfl, rfl, rfl⟩ := hrel
    have hp := pow_le16 (Nat.le_trans hj hk)
    have hs : 2 ^ (j + 1) = 2 ^ j * 2 := Nat.pow_succ 2 j
    generalize hP : 2 ^ j = P at *
    by_cases hlt : j < k
    · have HS := hid hs
      clear hs
      go_wp2
      go_roundw
      case rel => exact ⟨j + 1, by omega, by rw [HS.out]; go_num, by go_num, by trivial⟩
      case measure => simp [intOf]; omega
    · have e : j = k := by omega
      subst e
      go_wp2
      go_ret
      exact ⟨ret_int (by rw [hP]), rfl⟩
/-- A number of the reference: its places lie from lo up to hi. -/
def DV (w : World) (v : Value) (q : Rat) (lo hi : Int) : Prop :=
  ∃ (neg : Bool) (L : Value) (E : Int) (l : List Nat), v = .agg #[.bool neg, L, .int .i64 E] ∧ NS w L l ∧ Dg l ∧ q = dat neg (dv l) (16 * E) ∧ (dv l = 0 → l = []) ∧ (l = [] → E = 0 ∧ neg = false) ∧ (l ≠ [] → lo ≤ E ∧ E + l.length ≤ hi)
theorem DV.grew {w w' : World} {v : Value} {q : Rat} {lo hi : Int} (h : DV w v q lo hi) (g : Grew w w') : DV w' v q lo hi := by
  obtain ⟨neg, L, E, l, h1, h2, h3⟩ := h
  exact ⟨neg, L, E, l, h1, h2.grew g, h3⟩
theorem DV.mono {w : World} {v : Value} {q : Rat} {lo hi lo' hi' : Int} (h : DV w v q lo hi) (h1 : lo' ≤ lo) (h2 : hi ≤ hi') : DV w v q lo' hi' := by
  obtain ⟨neg, L, E, l, a1, a2, a3, a4, a5, a6, a7⟩ := h
  exact ⟨neg, L, E, l, a1, a2, a3, a4, a5, a6, fun h => by have := a7 h; omega⟩
theorem DV.shape {w : World} {v : Value} {q : Rat} {lo hi : Int} (h : DV w v q lo hi) : ∃ ng a n c E, v = .agg #[.bool ng, .slice a n c, .int .i64 E] := by
  obtain ⟨ng, L, E, l, rfl, hN, _⟩ := h
  obtain ⟨a, c, rfl⟩ := hN.shape
  exact ⟨ng, a, _, c, E, rfl⟩
theorem DV.ext {w : World} {v : Value} {q : Rat} {lo hi : Int} (h : DV w v q lo hi) (o : Array Obj) (n : Nat) : DV (Sedge.ext w o n) v q lo hi := h.grew ⟨_, _, rfl⟩
def lenOf : Value → Nat
  | .slice _ n _ => n
  | _ => 0
def dLen : Value → Nat
  | .agg a => match a[1]? with
    | some L => lenOf L
    | none => 0
  | _ => 0
/-- The block of its digits. -/
def dBlock : Value → Option Nat
  | .agg a => match a[1]? with
    | some L => L.ownBlock
    | none => none
  | _ => none
theorem _root_.Sedge.NS.setCell {w : World} {v : Value} {l : List Nat} (h : NS w v l) {b i : Nat} (hb : ∀ k, v.ownBlock = some k → k ≠ b) (u : Value) : NS (w.setCell ⟨b, i, none⟩ u) v l := by
  obtain ⟨a, cap, hv, h0, hc⟩ := h
  refine ⟨a, cap, hv, h0, fun j hj => ?_⟩
  obtain ⟨blk, o, he, h1⟩ := hc j hj
  refine ⟨blk, o, he, ?_⟩
  rw [← h1]
  have hne : blk ≠ b := hb blk (by rw [hv, he]; rfl)
  unfold World.cell?
  show (match (w.heap.modify b _)[blk]? with | some (.cells cs _ _) => _ | _ => _) = _
  rw [Array.getElem?_modify, if_neg (by omega)]
  rfl
theorem DV.setCell {w : World} {v : Value} {q : Rat} {lo hi : Int} (h : DV w v q lo hi) {b i : Nat} (hb : ∀ k, dBlock v = some k → k ≠ b) (u : Value) : DV (w.setCell ⟨b, i, none⟩ u) v q lo hi := by
  obtain ⟨neg, L, E, l, rfl, h2, h3⟩ := h
  exact ⟨neg, L, E, l, rfl, h2.setCell (fun k hk => hb k hk) u, h3⟩
theorem DV.ext_set {w : World} {v : Value} {q : Rat} {lo hi : Int} {o : Array Obj} {n : Nat} (h : DV (Sedge.ext w o n) v q lo hi) {b i : Nat} (h1 : b < w.heap.size) (hb : ∀ k, dBlock v = some k → k ≠ b) (u : Value) : DV (Sedge.ext (w.setCell ⟨b, i, none⟩ u) o n) v q lo hi := by
  rw [← setCell_ext h1]
  exact h.setCell hb u
theorem DV.ext_set3 {w : World} {v : Value} {q : Rat} {lo hi : Int} {o : Array Obj} {n : Nat} (h : DV (Sedge.ext w o n) v q lo hi) {b i j k : Nat} (h1 : b < w.heap.size) (hb : ∀ k, dBlock v = some k → k ≠ b) (x y z : Value) :
    DV (Sedge.ext (((w.setCell ⟨b, i, none⟩ x).setCell ⟨b, j, none⟩ y).setCell ⟨b, k, none⟩ z) o n) v q lo hi :=
  ((h.ext_set h1 hb x).ext_set (by simpa [size_setCell'] using h1) hb y).ext_set (by simpa [size_setCell'] using h1) hb z
theorem DV.set3 {w : World} {v : Value} {q : Rat} {lo hi : Int} (h : DV w v q lo hi) {b i j k : Nat} (hb : ∀ k, dBlock v = some k → k ≠ b) (x y z : Value) :
    DV (((w.setCell ⟨b, i, none⟩ x).setCell ⟨b, j, none⟩ y).setCell ⟨b, k, none⟩ z) v q lo hi := ((h.setCell hb x).setCell hb y).setCell hb z
theorem grew_set3 {w X : World} (g : Grew w X) {b i j k : Nat} (hb : w.heap.size ≤ b) (x y z : Value) (o : Array Obj) (n : Nat) : Grew w (Sedge.ext (((X.setCell ⟨b, i, none⟩ x).setCell ⟨b, j, none⟩ y).setCell ⟨b, k, none⟩ z) o n) :=
  (((g.setCell (a := ⟨b, i, none⟩) hb x).setCell (a := ⟨b, j, none⟩) hb y).setCell (a := ⟨b, k, none⟩) hb z).ext _ _
theorem dat_shift (neg : Bool) (l : List Nat) (E : Int) : dat neg (dv (0 :: l)) (16 * E) = dat neg (dv l) (16 * (E + 1)) := by
  unfold dat
  have e1 : ((dv (0 :: l) : Nat) : Rat) = p2 16 * (dv l : Rat) := by
    show ((0 + 65536 * dv l : Nat) : Rat) = _
    rw [Nat.zero_add, Rat.natCast_mul, show p2 16 = ((65536 : Nat) : Rat) by decide +kernel]
  have e2 : p2 (16 * (E + 1)) = p2 16 * p2 (16 * E) := by rw [← p2_add]; congr 1; omega
  rw [e1, e2]; grind
end Go.Proofs.Ytcmggfpcbijcjaa
end
section
/-
  Boxes: blocks of cells that may be written; numbers of the reference whose digits lie elsewhere.
-/
set_option linter.unusedSimpArgs false
set_option linter.unusedVariables false
open Go Go.RowKit Sedge
namespace Go.Proofs.Ytcmggfpcbijcjaa
def Box (w : World) (p : Nat) (cs : Array Value) : Prop := ∃ e, w.heap[p]? = some (.cells cs e (0, 0))
section
variable {w w' : World} {p q : Nat} {cs : Array Value}
theorem Box.lt (h : Box w p cs) : p < w.heap.size := by
  obtain ⟨e, h⟩ := h
  exact (Array.getElem?_eq_some_iff.1 h).1
theorem Box.cell (h : Box w p cs) (i : Nat) : w.cell? ⟨p, i, none⟩ = cs[i]? := by
  obtain ⟨e, h⟩ := h
  unfold World.cell?
  simp only [h]
  rfl
theorem Box.frozen (h : Box w p cs) (i : Nat) : w.frozen? ⟨p, i, none⟩ = false := by
  obtain ⟨e, h⟩ := h
  unfold World.frozen?
  simp only [h]
  simp
theorem Box.grew (h : Box w p cs) (g : Grew w w') : Box w' p cs := by
  have hl := h.lt
  obtain ⟨e, h⟩ := h
  exact ⟨e, by rw [g.below.block p hl]; exact h⟩
theorem Box.new (w : World) (cs : Array Value) (e : TypeId) : Box (w.alloc (.cells cs e)) w.heap.size cs := ⟨e, by show (w.heap.push _)[w.heap.size]? = _; simp⟩
theorem Box.new' {w : World} {cs : Array Value} {e : TypeId} {n : Nat} (hn : n = w.heap.size) : Box (w.alloc (.cells cs e)) n cs := by subst hn; exact Box.new w cs e
theorem Box.upd_self (h : Box w p cs) (cs' : Array Value) : Box (upd w p cs') p cs' := by
  obtain ⟨e, h⟩ := h
  exact ⟨e, block_upd h⟩
theorem Box.upd_ne (h : Box w p cs) (hn : p ≠ q) (cs' : Array Value) : Box (upd w q cs') p cs := by
  obtain ⟨e, h⟩ := h
  exact ⟨e, by rw [block_upd_ne hn]; exact h⟩
theorem Box.self (h : Box w p cs) : upd w p cs = w := by
  obtain ⟨e, h1⟩ := h
  unfold upd
  cases w with | mk hp tp dr os' out => ?_
  simp only [World.mk.injEq, true_and, and_true] at *
  apply Array.ext_getElem?
  intro i
  rw [Array.getElem?_modify]
  split
  · rename_i he; subst he; rw [h1]; rfl
  · rfl
theorem Box.set3 (h : Box w p cs) (hs : cs.size = 3) (x y z : Value) : ((w.setCell ⟨p, 0, none⟩ x).setCell ⟨p, 1, none⟩ y).setCell ⟨p, 2, none⟩ z = upd w p #[x, y, z] := by
  have e : w = upd w p cs := h.self.symm
  rw [e, setCell_upd, setCell_upd, setCell_upd, upd_upd]
  congr 1
  match cs, hs with
  | ⟨[a, b, c]⟩, _ => rfl
theorem Box.set3_ext (h : Box w p cs) (hs : cs.size = 3) (x y z : Value) (o : Array Obj) (n : Nat) : Sedge.ext (((w.setCell ⟨p, 0, none⟩ x).setCell ⟨p, 1, none⟩ y).setCell ⟨p, 2, none⟩ z) o n = upd (Sedge.ext w o n) p #[x, y, z] := by
  rw [h.set3 hs, upd_ext h.lt]
end
/-- Its digits lie in none of these blocks. -/
def dNot (v : Value) (S : List Nat) : Prop := ∀ k, dBlock v = some k → dLen v ≠ 0 → k ∉ S
theorem dNot.mono {v : Value} {S T : List Nat} (h : dNot v S) (hs : ∀ k, k ∈ T → k ∈ S) : dNot v T := fun k h1 h2 h3 => h k h1 h2 (hs k h3)
theorem dNot.of_new {v : Value} {S : List Nat} {b : Nat} (h : ∀ k, dBlock v = some k → dLen v ≠ 0 → b ≤ k) (hS : ∀ k, k ∈ S → k < b) : dNot v S := fun k h1 h2 h3 => by
  have := h k h1 h2
  have := hS k h3
  omega
theorem _root_.Sedge.NS.upd_own {w : World} {v : Value} {l : List Nat} (h : NS w v l) {b : Nat} (hn : l ≠ [] → ∀ k, v.ownBlock = some k → k ≠ b) (cs : Array Value) : NS (upd w b cs) v l := by
  by_cases hl : l = []
  · subst hl
    obtain ⟨a, cap, hv, h0, _⟩ := h
    exact ⟨a, cap, hv, h0, fun i hi => by simp at hi⟩
  · refine h.upd_ne (fun a n c e => ?_) cs
    subst e
    exact hn hl _ rfl
theorem DV.upd_own {w : World} {v : Value} {q : Rat} {lo hi : Int} (h : DV w v q lo hi) {b : Nat} (hn : ∀ k, dBlock v = some k → dLen v ≠ 0 → k ≠ b) (cs : Array Value) : DV (upd w b cs) v q lo hi := by
  obtain ⟨ng, Lv, E, dl, rfl, hN, h3⟩ := h
  refine ⟨ng, Lv, E, dl, rfl, hN.upd_own (fun hl k hk => hn k hk ?_) cs, h3⟩
  obtain ⟨sa, sc, rfl⟩ := hN.shape
  show dl.length ≠ 0
  intro h0; exact hl (List.length_eq_zero_iff.1 h0)
theorem DV.upd_not {w : World} {v : Value} {q : Rat} {lo hi : Int} (h : DV w v q lo hi) {b : Nat} {S : List Nat} (hn : dNot v S) (hb : b ∈ S) (cs : Array Value) : DV (upd w b cs) v q lo hi :=
  h.upd_own (fun k h1 h2 e => by subst e; exact hn k h1 h2 hb) cs
end Go.Proofs.Ytcmggfpcbijcjaa
end
section
/-
  Worlds that grew: arrays of new blocks, however they are bracketed.
-/
set_option linter.unusedSimpArgs false
set_option linter.unusedVariables false
namespace Sedge
open Go Go.RowKit
theorem Grew.app_r {X U : World} {o o' : Array Obj} {n : Nat} (h : Grew X (Sedge.ext U o n)) : Grew X (Sedge.ext U (o ++ o') n) := h.trans ⟨o', n, by simp⟩
end Sedge
end
section
/-
  Boxes whose cells are set, one by one.
-/
set_option linter.unusedSimpArgs false
set_option linter.unusedVariables false
open Go Go.RowKit Sedge
namespace Go.Proofs.Ytcmggfpcbijcjaa
theorem Box.setCell_eq {w : World} {p i : Nat} {cs : Array Value} (h : Box w p cs) (v : Value) : w.setCell ⟨p, i, none⟩ v = upd w p (cs.setIfInBounds i v) := by
  have e : w = upd w p cs := h.self.symm
  rw [e, setCell_upd, upd_upd]
theorem _root_.Sedge.But.setCell {V w : World} {G : List Nat} {a : Addr} (h : But V G w) (hg : a.block ∈ G ∨ V.heap.size ≤ a.block) (v : Value) : But V G (w.setCell a v) := by
  refine ⟨h.os, h.tape, h.output, by simpa [World.setCell] using h.size, fun k hk hG => ?_⟩
  have hne : a.block ≠ k := by
    rintro rfl
    rcases hg with hg | hg
    · exact hG hg
    · omega
  rw [← h.block k hk hG]
  show (w.heap.modify _ _)[k]? = _
  rw [Array.getElem?_modify, if_neg hne]
theorem Box.but2 {w w' : World} {G : List Nat} {p : Nat} {cs : Array Value} (h : Box w p cs) (hb : But w G w') (hn : p ∉ G) : Box w' p cs := by
  have hl := h.lt
  obtain ⟨e, he⟩ := h
  exact ⟨e, (hb.block p hl hn).trans he⟩
theorem Box.setCell_ne {w : World} {p : Nat} {cs : Array Value} (h : Box w p cs) {a : Addr} (hn : a.block ≠ p) (v : Value) : Box (w.setCell a v) p cs := by
  obtain ⟨e, he⟩ := h
  refine ⟨e, ?_⟩
  show (w.heap.modify _ _)[p]? = _
  rw [Array.getElem?_modify, if_neg hn]; exact he
end Go.Proofs.Ytcmggfpcbijcjaa
end
