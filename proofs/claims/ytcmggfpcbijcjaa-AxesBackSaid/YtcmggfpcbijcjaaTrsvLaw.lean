/-
  Plain: the steps of a triangular system, column by column and row by row, come to the same.
-/
import Derived.Test.YtcmggfpcbijcjaaFlt
set_option linter.unusedSimpArgs false
set_option linter.unusedVariables false
namespace Sedge
def lessF (s : Nat → Nat) (i k a : Nat) : Nat → Nat := fun r => if r = i then fsub (s i) (fmul a (s k)) else s r
def divF (s : Nat → Nat) (i a : Nat) : Nat → Nat := fun r => if r = i then fdiv (s i) a else s r
theorem lessF_eq {s : Nat → Nat} {i k a : Nat} : lessF s i k a i = fsub (s i) (fmul a (s k)) := by simp [lessF]
theorem lessF_ne {s : Nat → Nat} {i k a r : Nat} (h : r ≠ i) : lessF s i k a r = s r := by simp [lessF, h]
theorem divF_eq {s : Nat → Nat} {i a : Nat} : divF s i a i = fdiv (s i) a := by simp [divF]
theorem divF_ne {s : Nat → Nat} {i a r : Nat} (h : r ≠ i) : divF s i a r = s r := by simp [divF, h]
section
variable (M : Nat → Nat → Nat)
/-- Row i: less its first t products, the columns in their order. -/
def rowIn (s : Nat → Nat) (i : Nat) : Nat → (Nat → Nat)
  | 0 => s
  | t + 1 => lessF (rowIn s i t) i t (M i t)
def rowAll (s : Nat → Nat) : Nat → (Nat → Nat)
  | 0 => s
  | i + 1 => rowIn M (rowAll s i) i i
/-- Column j: out of the t rows below it. -/
def colIn (s : Nat → Nat) (j : Nat) : Nat → (Nat → Nat)
  | 0 => s
  | t + 1 => lessF (colIn s j t) (j + 1 + t) j (M (j + 1 + t) j)
def colAll (n : Nat) (s : Nat → Nat) : Nat → (Nat → Nat)
  | 0 => s
  | j + 1 => colIn M (colAll n s j) j (n - 1 - j)
variable {M} {s : Nat → Nat}
theorem rowIn_ne {i r : Nat} (h : r ≠ i) : ∀ t, rowIn M s i t r = s r
  | 0 => rfl
  | t + 1 => by unfold rowIn; rw [lessF_ne h, rowIn_ne h t]
theorem rowAll_ge {r : Nat} : ∀ k, k ≤ r → rowAll M s k r = s r
  | 0, _ => rfl
  | k + 1, h => by unfold rowAll; rw [rowIn_ne (by omega), rowAll_ge k (by omega)]
theorem rowAll_gt {r : Nat} : ∀ k, r < k → rowAll M s k r = rowAll M s (r + 1) r
  | 0, h => absurd h (by omega)
  | k + 1, h => by
    by_cases e : r = k
    · subst e; rfl
    · show rowIn M (rowAll M s k) k k r = _
      rw [rowIn_ne e, rowAll_gt k (by omega)]
/-- Row r less t products. -/
def gRow (M : Nat → Nat → Nat) (s : Nat → Nat) (r t : Nat) : Nat := rowIn M (rowAll M s r) r t r
theorem gRow_zero {r : Nat} : gRow M s r 0 = s r := rowAll_ge r (Nat.le_refl r)
theorem gRow_succ {r t : Nat} (h : t < r) : gRow M s r (t + 1) = fsub (gRow M s r t) (fmul (M r t) (gRow M s t t)) := by
  show lessF (rowIn M (rowAll M s r) r t) r t (M r t) r = _
  rw [lessF_eq, rowIn_ne (by omega : t ≠ r), rowAll_gt r h]
  rfl
theorem rowAll_g {n r : Nat} (h : r < n) : rowAll M s n r = gRow M s r r := by rw [rowAll_gt n h]; rfl
theorem colIn_eq {v : Nat → Nat} {n j : Nat} (hs : ∀ r, r < n → s r = gRow M v r (min r j)) (hj : j < n) : ∀ t, j + t < n → ∀ r, r < n → colIn M s j t r = if j < r ∧ r ≤ j + t then gRow M v r (j + 1) else s r
  | 0, _, r, _ => by rw [if_neg (by omega)]; rfl
  | t + 1, ht, r, hr => by
    show lessF (colIn M s j t) (j + 1 + t) j (M (j + 1 + t) j) r = _
    have ih := colIn_eq hs hj t (by omega)
    by_cases e : r = j + 1 + t
    · subst e
      rw [lessF_eq, ih _ (by omega), if_neg (by omega), ih j hj, if_neg (by omega), if_pos (by omega), hs _ (by omega), hs j hj, Nat.min_self, Nat.min_eq_right (by omega), gRow_succ (by omega)]
    · rw [lessF_ne e, ih r hr]
      by_cases h1 : j < r ∧ r ≤ j + t
      · rw [if_pos h1, if_pos (by omega)]
      · rw [if_neg h1, if_neg (by omega)]
theorem colAll_eq {n : Nat} : ∀ j, j ≤ n → ∀ r, r < n → colAll M n s j r = gRow M s r (min r j)
  | 0, _, r, _ => by rw [Nat.min_zero, gRow_zero]; rfl
  | j + 1, hj, r, hr => by
    have ih := colAll_eq (n := n) j (by omega)
    show colIn M (colAll M n s j) j (n - 1 - j) r = _
    rw [colIn_eq ih (by omega) _ (by omega) r hr]
    by_cases h1 : j < r
    · rw [if_pos (by omega), Nat.min_eq_right (by omega)]
    · rw [if_neg (by omega), ih r hr, Nat.min_eq_left (by omega), Nat.min_eq_left (by omega)]
/-- Kind 1: column by column is row by row. -/
theorem col_row {n r : Nat} (h : r < n) : colAll M n s n r = rowAll M s n r := by
  rw [colAll_eq n (Nat.le_refl n) r h, Nat.min_eq_left (by omega), rowAll_g h]
end
section
variable (M : Nat → Nat → Nat) (n : Nat)
def rowIn2 (s : Nat → Nat) (i : Nat) : Nat → (Nat → Nat)
  | 0 => s
  | t + 1 => lessF (rowIn2 s i t) i (n - 1 - t) (M i (n - 1 - t))
def rowAll2 (s : Nat → Nat) : Nat → (Nat → Nat)
  | 0 => s
  | k + 1 => divF (rowIn2 M n (rowAll2 s k) (n - 1 - k) k) (n - 1 - k) (M (n - 1 - k) (n - 1 - k))
def colIn2 (s : Nat → Nat) (j : Nat) : Nat → (Nat → Nat)
  | 0 => s
  | t + 1 => lessF (colIn2 s j t) t j (M t j)
def colAll2 (s : Nat → Nat) : Nat → (Nat → Nat)
  | 0 => s
  | k + 1 => colIn2 M (divF (colAll2 s k) (n - 1 - k) (M (n - 1 - k) (n - 1 - k))) (n - 1 - k) (n - 1 - k)
variable {M n} {s : Nat → Nat}
theorem rowIn2_ne {i r : Nat} (h : r ≠ i) : ∀ t, rowIn2 M n s i t r = s r
  | 0 => rfl
  | t + 1 => by unfold rowIn2; rw [lessF_ne h, rowIn2_ne h t]
theorem rowAll2_ge {r : Nat} (hr : r < n) : ∀ k, k ≤ n - 1 - r → rowAll2 M n s k r = s r
  | 0, _ => rfl
  | k + 1, h => by unfold rowAll2; rw [divF_ne (by omega), rowIn2_ne (by omega), rowAll2_ge hr k (by omega)]
theorem rowAll2_gt {r : Nat} (hr : r < n) : ∀ k, n - 1 - r < k → k ≤ n → rowAll2 M n s k r = rowAll2 M n s (n - 1 - r + 1) r
  | 0, h, _ => absurd h (by omega)
  | k + 1, h, hk => by
    by_cases e : k = n - 1 - r
    · subst e; rfl
    · show divF (rowIn2 M n (rowAll2 M n s k) (n - 1 - k) k) (n - 1 - k) _ r = _
      rw [divF_ne (by omega), rowIn2_ne (by omega), rowAll2_gt hr k (by omega) (by omega)]
def gRow2 (M : Nat → Nat → Nat) (n : Nat) (s : Nat → Nat) (r t : Nat) : Nat := rowIn2 M n (rowAll2 M n s (n - 1 - r)) r t r
def fRow2 (M : Nat → Nat → Nat) (n : Nat) (s : Nat → Nat) (r : Nat) : Nat := fdiv (gRow2 M n s r (n - 1 - r)) (M r r)
theorem gRow2_zero {r : Nat} (hr : r < n) : gRow2 M n s r 0 = s r := rowAll2_ge hr _ (Nat.le_refl _)
theorem rowAll2_f {r k : Nat} (hr : r < n) (h : n - 1 - r < k) (hk : k ≤ n) : rowAll2 M n s k r = fRow2 M n s r := by
  rw [rowAll2_gt hr k h hk]
  show divF (rowIn2 M n (rowAll2 M n s (n - 1 - r)) (n - 1 - (n - 1 - r)) (n - 1 - r)) (n - 1 - (n - 1 - r)) (M (n - 1 - (n - 1 - r)) (n - 1 - (n - 1 - r))) r = _
  rw [show n - 1 - (n - 1 - r) = r by omega, divF_eq]; rfl
theorem gRow2_succ {r t : Nat} (hr : r < n) (h : t < n - 1 - r) : gRow2 M n s r (t + 1) = fsub (gRow2 M n s r t) (fmul (M r (n - 1 - t)) (fRow2 M n s (n - 1 - t))) := by
  show lessF (rowIn2 M n (rowAll2 M n s (n - 1 - r)) r t) r (n - 1 - t) (M r (n - 1 - t)) r = _
  rw [lessF_eq, rowIn2_ne (by omega : n - 1 - t ≠ r), rowAll2_f (by omega) (by omega) (by omega)]
  rfl
theorem colIn2_eq {k j : Nat} {u : Nat → Nat} (hj : j = n - 1 - k) (hk : k < n) (hu : ∀ r, r < j → u r = gRow2 M n s r k) (huj : u j = fRow2 M n s j) : ∀ t, t ≤ j → ∀ r, r < n → colIn2 M u j t r = if r < t then gRow2 M n s r (k + 1) else u r
  | 0, _, r, _ => by rw [if_neg (by omega)]; rfl
  | t + 1, ht, r, hr => by
    show lessF (colIn2 M u j t) t j (M t j) r = _
    have ih := colIn2_eq hj hk hu huj t (by omega)
    by_cases e : r = t
    · subst e
      rw [lessF_eq, ih r hr, if_neg (by omega), ih j (by omega), if_neg (by omega), if_pos (by omega), hu r (by omega), huj, gRow2_succ hr (by omega), hj]
    · rw [lessF_ne e, ih r hr]
      by_cases h1 : r < t
      · rw [if_pos h1, if_pos (by omega)]
      · rw [if_neg h1, if_neg (by omega)]
theorem colAll2_eq : ∀ k, k ≤ n → ∀ r, r < n → colAll2 M n s k r = if n - 1 - r < k then fRow2 M n s r else gRow2 M n s r k
  | 0, _, r, hr => by rw [if_neg (by omega), gRow2_zero hr]; rfl
  | k + 1, hk, r, hr => by
    have ih := colAll2_eq k (by omega)
    show colIn2 M (divF (colAll2 M n s k) (n - 1 - k) (M (n - 1 - k) (n - 1 - k))) (n - 1 - k) (n - 1 - k) r = _
    have e1 : n - 1 - (n - 1 - k) = k := by omega
    rw [colIn2_eq (k := k) (s := s) rfl (by omega) (fun q hq => by rw [divF_ne (by omega), ih q (by omega), if_neg (by omega)]) (by rw [divF_eq, ih _ (by omega), if_neg (by omega)]; unfold fRow2; rw [e1]) _ (Nat.le_refl _) r hr]
    by_cases h1 : r < n - 1 - k
    · rw [if_pos h1, if_neg (by omega)]
    · rw [if_neg h1, if_pos (by omega)]
      by_cases h2 : r = n - 1 - k
      · subst h2
        rw [divF_eq, ih _ (by omega), if_neg (by omega)]; unfold fRow2; rw [e1]
      · rw [divF_ne h2, ih r hr, if_pos (by omega)]
/-- Kind 2: column by column is row by row. -/
theorem col_row2 {r : Nat} (h : r < n) : colAll2 M n s n r = rowAll2 M n s n r := by
  rw [colAll2_eq n (Nat.le_refl n) r h, if_pos (by omega), rowAll2_f h (by omega) (Nat.le_refl n)]
end
end Sedge
