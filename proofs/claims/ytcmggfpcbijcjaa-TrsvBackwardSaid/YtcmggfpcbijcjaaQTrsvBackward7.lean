/-
  Texts laid one behind the other (a claim has at most 60 files): FltBest, Close1, FltSum, FltRest, FltGemv, GclP, FltDiv, FltTri, TriSys, TriLaw, FltBack, TrbP, Fork, Par.
-/
import Derived.Laws.FloatBits
import Derived.Laws.Tables
import Derived.Test.YtcmggfpcbijcjaaQTrsvBackward1
import Derived.Test.YtcmggfpcbijcjaaQTrsvBackward2
import Derived.Test.YtcmggfpcbijcjaaQTrsvBackward3
import Derived.Test.YtcmggfpcbijcjaaQTrsvBackward4
import Derived.Test.YtcmggfpcbijcjaaQTrsvBackward5
import Derived.Test.YtcmggfpcbijcjaaQTrsvBackward6
section
/-
  Plain laws on 64-bit floats: what is written is no farther off than any float; sums have no error of their own near 0.
-/
set_option linter.unusedSimpArgs false
set_option linter.unusedVariables false
namespace Sedge
open Ieee

theorem grid_best (m : Nat) (p : Int) (k : Int) : ((keptP m p : Rat) * p2 (lastP m p) - (m : Rat) * p2 p).abs ≤ ((k : Rat) * p2 (lastP m p) - (m : Rat) * p2 p).abs := by
  have h1 := kept_err m p
  have hu := p2_pos (lastP m p)
  have hu1 : 2 * p2 (lastP m p - 1) = p2 (lastP m p) := by rw [← p2_succ]; congr 1; omega
  have hK : ((keptP m p : Nat) : Rat) = ((keptP m p : Int) : Rat) := (Rat.intCast_natCast _).symm
  rw [hK] at h1 ⊢
  generalize p2 (lastP m p - 1) = h at *
  generalize p2 (lastP m p) = u at *
  generalize (m : Rat) * p2 p = Z at *
  generalize (keptP m p : Int) = K at *
  have h2 : -h ≤ (K : Rat) * u - Z ∧ (K : Rat) * u - Z ≤ h := by
    rcases Rat.le_total (a := 0) (b := (K : Rat) * u - Z) with h0 | h0
    · rw [Rat.abs_of_nonneg h0] at h1; constructor <;> grind
    · rw [Rat.abs_of_nonpos h0] at h1; constructor <;> grind
  have hKk : k = K ∨ k + 1 ≤ K ∨ K + 1 ≤ k := by omega
  rcases hKk with rfl | hk | hk
  · exact Rat.le_refl
  · have hk' := Rat.intCast_le_intCast.2 hk
    rw [Rat.intCast_add] at hk'
    have hk2 := Rat.mul_le_mul_of_nonneg_right hk' (Rat.le_of_lt hu)
    have e1 : ((1 : Int) : Rat) = 1 := rfl
    rw [e1] at hk2
    have h3 : (k : Rat) * u - Z ≤ -h := by grind
    have h4 : (k : Rat) * u - Z ≤ 0 := by grind
    rw [Rat.abs_of_nonpos h4]
    exact Rat.le_trans h1 (by grind)
  · have hk' := Rat.intCast_le_intCast.2 hk
    rw [Rat.intCast_add] at hk'
    have hk2 := Rat.mul_le_mul_of_nonneg_right hk' (Rat.le_of_lt hu)
    have e1 : ((1 : Int) : Rat) = 1 := rfl
    rw [e1] at hk2
    have h3 : h ≤ (k : Rat) * u - Z := by grind
    have h4 : 0 ≤ (k : Rat) * u - Z := by grind
    rw [Rat.abs_of_nonneg h4]
    exact Rat.le_trans h1 (by grind)

theorem sgn_sq (s : Bool) : sgn s * sgn s = 1 := by cases s <;> decide +kernel
theorem abs_sgn (s : Bool) (x y : Rat) : (x - sgn s * y).abs = (sgn s * x - y).abs := by
  have : x - sgn s * y = sgn s * (sgn s * x - y) := by
    have := sgn_sq s
    grind
  rw [this, abs_sgn_mul]
theorem abs_le_of {x y : Rat} (h1 : -y ≤ x) (h2 : x ≤ y) : x.abs ≤ y := by
  rcases Rat.le_total (a := 0) (b := x) with h0 | h0
  · rw [Rat.abs_of_nonneg h0]; exact h2
  · rw [Rat.abs_of_nonpos h0]; grind
theorem le_abs (x : Rat) : x ≤ x.abs := by
  rcases Rat.le_total (a := 0) (b := x) with h0 | h0
  · rw [Rat.abs_of_nonneg h0]; exact Rat.le_refl
  · rw [Rat.abs_of_nonpos h0]; grind
theorem neg_le_abs (x : Rat) : -x ≤ x.abs := by
  rcases Rat.le_total (a := 0) (b := x) with h0 | h0
  · rw [Rat.abs_of_nonneg h0]; grind
  · rw [Rat.abs_of_nonpos h0]; exact Rat.le_refl

/-- NO FLOAT IS NEARER. -/
theorem nearest_best (s : Bool) (m : Nat) (p : Int) (h : m ≠ 0) (hf : fin (D64.nearest s m p) = true) {x : Nat} (hx : x < 2 ^ 64) (hfx : fin x = true) :
    (val (D64.nearest s m p) - dat s m p).abs ≤ (val x - dat s m p).abs := by
  rw [(nearest_err s m p h hf).2]
  have e1 : dat s (keptP m p) (lastP m p) - dat s m p = sgn s * ((keptP m p : Rat) * p2 (lastP m p) - (m : Rat) * p2 p) := by unfold dat; grind
  rw [e1, abs_sgn_mul]
  have e2 : dat s m p = sgn s * ((m : Rat) * p2 p) := rfl
  rw [e2, abs_sgn]
  have hk : pKind x = 0 := by
    have := read_eq x hx
    rcases Nat.lt_or_ge 0 (pKind x) with h0 | h0
    · rw [if_neg (by omega)] at this
      obtain ⟨s', m', p', hr⟩ := (fin_iff x).1 hfx
      rw [hr] at this
      split at this <;> cases this
    · omega
  have hr : D64.read x = .number (pNeg x) (pMag x) (pExp x) := by rw [read_eq x hx, if_pos hk]
  have hq := (pExp_ge x hk).1
  have hn := pMag_lt x
  rw [val_of hr]
  generalize pNeg x = t at *
  generalize pMag x = n at *
  generalize pExp x = q at *
  by_cases hqL : lastP m p ≤ q
  · -- on the grid
    have e3 : sgn s * dat t n q = (((if s = t then (1 : Int) else -1) * ((n * 2 ^ (q - lastP m p).toNat : Nat) : Int) : Int) : Rat) * p2 (lastP m p) := by
      have e4 : p2 q = p2 ((q - lastP m p).toNat : Nat) * p2 (lastP m p) := by rw [← p2_add]; congr 1; omega
      unfold dat
      rw [Rat.intCast_mul, Rat.intCast_natCast, Rat.natCast_mul, ← p2_nat, e4]
      have e5 : sgn s * sgn t = (((if s = t then (1 : Int) else -1) : Int) : Rat) := by cases s <;> cases t <;> decide +kernel
      rw [← e5]; grind
    rw [e3]
    exact grid_best m p _
  · have hL : lastP m p = p + m.log2 - 52 := by
      rcases lastP_or m p with h1 | h1
      · exact h1
      · omega
    have hb := grid_best m p ((2 ^ 52 : Nat) : Int)
    refine Rat.le_trans hb ?_
    have hZ : ((2 ^ 52 : Nat) : Rat) * p2 (lastP m p) ≤ (m : Rat) * p2 p := by
      have h3 : p2 (m.log2 : Nat) ≤ (m : Rat) := by rw [p2_nat]; exact Rat.natCast_le_natCast.2 (log2_spec m h).1
      have h4 := Rat.mul_le_mul_of_nonneg_right h3 (Rat.le_of_lt (p2_pos p))
      rw [← p2_nat, ← p2_add]
      rw [← p2_add] at h4
      rw [show ((52 : Nat) : Int) + lastP m p = (m.log2 : Nat) + p by omega]
      exact h4
    have hX : (dat t n q).abs ≤ ((2 ^ 52 : Nat) : Rat) * p2 (lastP m p) := by
      rw [dat_abs, ← p2_nat, ← p2_add]
      have h5 : (n : Rat) ≤ p2 ((53 : Nat) : Int) := by rw [p2_nat]; exact Rat.natCast_le_natCast.2 (Nat.le_of_lt hn)
      have h6 := Rat.mul_le_mul_of_nonneg_right h5 (Rat.le_of_lt (p2_pos q))
      rw [← p2_add] at h6
      exact Rat.le_trans h6 (p2_mono (by omega))
    have hX2 : (sgn s * dat t n q).abs ≤ ((2 ^ 52 : Nat) : Rat) * p2 (lastP m p) := by rw [abs_sgn_mul]; exact hX
    rw [Rat.intCast_natCast]
    have h7 := le_abs (sgn s * dat t n q)
    have h8 := neg_le_abs (sgn s * dat t n q - (m : Rat) * p2 p)
    refine Rat.le_trans (abs_le_of (y := (m : Rat) * p2 p - ((2 ^ 52 : Nat) : Rat) * p2 (lastP m p)) (by grind) (by grind)) ?_
    grind

theorem kept_exact (m : Nat) (p : Int) (h : lastP m p ≤ p) : (keptP m p : Rat) * p2 (lastP m p) = (m : Rat) * p2 p := by
  have h1 := numP_val m p
  have h2 : dropP m p = 0 := by unfold dropP; omega
  have h3 : keptP m p = numP m p := by
    show rne (numP m p) (dropP m p) = _
    rw [h2, rne_zero]
  rw [h3, h1, h2]
  have : ((2 ^ 0 : Nat) : Rat) = 1 := rfl
  rw [this]; grind
/-- What is written, of places that a float may have. -/
theorem write_err' (s : Bool) (m : Nat) (p : Int) (hp : -1074 ≤ p) (hf : fin (D64.write (.number s m p)) = true) :
    (val (D64.write (.number s m p)) - dat s m p).abs ≤ U * (dat s m p).abs := by
  by_cases h : m = 0
  · subst h
    have e : D64.write (.number s 0 p) = D64.word s 0 := by
      show D64.nearest s 0 p = _; unfold Format.nearest; rw [if_pos rfl]
    rw [e, (word_zero s).1, dat_zero]
    decide +kernel
  · have h0 : D64.write (.number s m p) = D64.nearest s m p := rfl
    rw [h0] at hf ⊢
    obtain ⟨h1, h2⟩ := nearest_err s m p h hf
    by_cases hL : lastP m p ≤ p
    · have h3 := kept_exact m p hL
      rw [h2]
      have e1 : dat s (keptP m p) (lastP m p) - dat s m p = 0 := by unfold dat; rw [h3]; grind
      rw [e1]
      have : (0 : Rat).abs = 0 := by decide +kernel
      rw [this]
      exact Rat.mul_nonneg (Rat.le_of_lt U_pos) (by rw [dat_abs]; exact Rat.mul_nonneg Rat.natCast_nonneg (Rat.le_of_lt (p2_pos p)))
    · have hL2 : lastP m p = p + m.log2 - 52 := by
        rcases lastP_or m p with h1 | h1
        · exact h1
        · omega
      refine Rat.le_trans h1 ?_
      rw [dat_abs, hL2]
      have h2 : p2 (p + m.log2 - 52 - 1) = U * (p2 p * p2 (m.log2 : Nat)) := by
        unfold U; rw [← p2_add, ← p2_add]; congr 1; omega
      rw [h2]
      have h3 : p2 (m.log2 : Nat) ≤ (m : Rat) := by rw [p2_nat]; exact Rat.natCast_le_natCast.2 (log2_spec m h).1
      have h4 := Rat.mul_le_mul_of_nonneg_left h3 (Rat.le_of_lt (p2_pos p))
      have h5 := Rat.mul_le_mul_of_nonneg_left h4 (Rat.le_of_lt U_pos)
      grind
theorem sum_val' {s t : Bool} {m n : Nat} {i j : Int} (hi : -1074 ≤ i) (hj : -1074 ≤ j) : ∃ c z b, (Datum.number s m i).sum (.number t n j) = some (.number c z b) ∧ -1074 ≤ b ∧ dat c z b = dat s m i + dat t n j := by
  refine ⟨_, _, _, rfl, ?_, ?_⟩
  · omega
  rw [natAbs_val _ _ (by intro h; simp [h])]
  rw [Rat.intCast_add, Rat.add_mul, signed_val, signed_val]
  congr 2 <;> omega
theorem fin_parts {x : Nat} (hx : x < 2 ^ 64) (hf : fin x = true) : pKind x = 0 ∧ D64.read x = .number (pNeg x) (pMag x) (pExp x) ∧ -1074 ≤ pExp x ∧ pMag x < 2 ^ 53 := by
  have hk : pKind x = 0 := by
    have := read_eq x hx
    rcases Nat.lt_or_ge 0 (pKind x) with h0 | h0
    · rw [if_neg (by omega)] at this
      obtain ⟨s', m', p', hr⟩ := (fin_iff x).1 hf
      rw [hr] at this
      split at this <;> cases this
    · omega
  exact ⟨hk, by rw [read_eq x hx, if_pos hk], (pExp_ge x hk).1, pMag_lt x⟩
theorem fin_kind {x : Nat} (hx : x < 2 ^ 64) : fin x = decide (pKind x = 0) := by
  cases h : fin x
  · symm; rw [decide_eq_false_iff_not]; intro hk
    have : fin x = true := fin_of_read (by rw [read_eq x hx, if_pos hk])
    rw [this] at h; cases h
  · rw [(fin_parts hx h).1]; rfl
theorem val_parts {x : Nat} (hx : x < 2 ^ 64) (hf : pKind x = 0) : val x = dat (pNeg x) (pMag x) (pExp x) := val_of (by rw [read_eq x hx, if_pos hf])
theorem fadd_read' {x y : Nat} (hx : x < 2 ^ 64) (hy : y < 2 ^ 64) (fx : fin x = true) (fy : fin y = true) : ∃ c z b, fadd x y = D64.write (.number c z b) ∧ -1074 ≤ b ∧ dat c z b = val x + val y := by
  obtain ⟨_, rx, px, _⟩ := fin_parts hx fx
  obtain ⟨_, ry, py, _⟩ := fin_parts hy fy
  obtain ⟨c, z, b, h1, h2, h3⟩ := sum_val' (s := pNeg x) (t := pNeg y) (m := pMag x) (n := pMag y) px py
  refine ⟨c, z, b, ?_, h2, ?_⟩
  · unfold fadd Format.add; rw [rx, ry, h1]; rfl
  · rw [h3, val_of rx, val_of ry]
theorem fadd_err' {x y : Nat} (hx : x < 2 ^ 64) (hy : y < 2 ^ 64) (h : fin (fadd x y) = true) : (val (fadd x y) - (val x + val y)).abs ≤ U * (val x + val y).abs := by
  obtain ⟨fx, fy⟩ := fadd_fin h
  obtain ⟨c, z, b, h1, h2, h3⟩ := fadd_read' hx hy fx fy
  rw [h1] at h ⊢
  rw [← h3]
  exact write_err' c z b h2 h
theorem fadd_best {x y f : Nat} (h : fin (fadd x y) = true) (hf : f < 2 ^ 64) (ff : fin f = true) : (val (fadd x y) - (val x + val y)).abs ≤ (val f - (val x + val y)).abs := by
  obtain ⟨fx, fy⟩ := fadd_fin h
  obtain ⟨c, z, b, h1, h2⟩ := fadd_read fx fy
  rw [h1] at h ⊢
  rw [← h2]
  by_cases hz : z = 0
  · subst hz
    have e : D64.write (.number c 0 b) = D64.word c 0 := by
      show D64.nearest c 0 b = _; unfold Format.nearest; rw [if_pos rfl]
    rw [e, (word_zero c).1, dat_zero]
    have : ((0 : Rat) - 0).abs = 0 := by decide +kernel
    rw [this]
    exact Rat.abs_nonneg
  · exact nearest_best c z b hz h hf ff
theorem fsub_read' {x y : Nat} (hx : x < 2 ^ 64) (hy : y < 2 ^ 64) (fx : fin x = true) (fy : fin y = true) : ∃ c z b, fsub x y = D64.write (.number c z b) ∧ -1074 ≤ b ∧ dat c z b = val x - val y := by
  obtain ⟨_, rx, px, _⟩ := fin_parts hx fx
  obtain ⟨_, ry, py, _⟩ := fin_parts hy fy
  obtain ⟨c, z, b, h1, h2, h3⟩ := sum_val' (s := pNeg x) (t := !(pNeg y)) (m := pMag x) (n := pMag y) px py
  refine ⟨c, z, b, ?_, h2, ?_⟩
  · unfold fsub Format.sub; rw [rx, ry]; simp only [Datum.opposite]; rw [h1]; rfl
  · rw [h3, val_of rx, val_of ry, dat_not]; grind
theorem fsub_err' {x y : Nat} (hx : x < 2 ^ 64) (hy : y < 2 ^ 64) (h : fin (fsub x y) = true) : (val (fsub x y) - (val x - val y)).abs ≤ U * (val x - val y).abs := by
  obtain ⟨fx, fy⟩ := fsub_fin h
  obtain ⟨c, z, b, h1, h2, h3⟩ := fsub_read' hx hy fx fy
  rw [h1] at h ⊢
  rw [← h3]
  exact write_err' c z b h2 h
end Sedge
end
section
/-
  Plain: a product added is close.
-/
set_option linter.unusedSimpArgs false
set_option linter.unusedVariables false
namespace Sedge
open Ieee
theorem pow64 : (2 : Nat) ^ D64.width = 2 ^ 64 := by decide +kernel
theorem fmul_lt (x y : Nat) : fmul x y < 2 ^ 64 := by
  unfold fmul
  cases h : D64.mul x y with
  | none => decide
  | some r => rw [← pow64]; exact D64.mul_lt h
theorem fadd_lt (x y : Nat) : fadd x y < 2 ^ 64 := by
  unfold fadd
  cases h : D64.add x y with
  | none => decide
  | some r => rw [← pow64]; exact D64.add_lt h
theorem fsub_lt (x y : Nat) : fsub x y < 2 ^ 64 := by
  unfold fsub
  cases h : D64.sub x y with
  | none => decide
  | some r => rw [← pow64]; exact D64.sub_lt h
theorem fdiv_lt (x y : Nat) : fdiv x y < 2 ^ 64 := by
  unfold fdiv
  cases h : D64.div x y with
  | none => decide
  | some r => rw [← pow64]; exact D64.div_lt h
theorem U_le : U ≤ 1 := by unfold U; decide +kernel
theorem abs_add_le (x y : Rat) : (x + y).abs ≤ x.abs + y.abs := by
  have h1 := le_abs x
  have h2 := le_abs y
  have h3 := neg_le_abs x
  have h4 := neg_le_abs y
  exact abs_le_of (by grind) (by grind)
theorem abs_sub_comm (x y : Rat) : (x - y).abs = (y - x).abs := by
  rw [show x - y = -(y - x) by grind, Rat.abs_neg]
theorem close_law {a x y : Nat} (hy : y < 2 ^ 64) (h : fin (fadd y (fmul a x)) = true) :
    (val (fadd y (fmul a x)) - val a * val x - val y).abs ≤ ((val a * val x).abs + (val y).abs) * p2 (-52) + p2 (-1074) := by
  obtain ⟨fy, fp⟩ := fadd_fin h
  have h1 := fmul_err fp
  have h2 := fadd_err' hy (fmul_lt a x) h
  have h3 := fadd_best h (fmul_lt a x) fp
  have hU := U_pos
  have hU1 := U_le
  have hE := ETA_pos
  have e1 : p2 (-52) = 2 * U := by unfold U; rw [← p2_succ]; rfl
  have e2 : p2 (-1074) = 2 * ETA := by unfold ETA; rw [← p2_succ]; rfl
  rw [e1, e2]
  have e3 : val (fmul a x) - (val y + val (fmul a x)) = -(val y) := by grind
  rw [e3, Rat.abs_neg] at h3
  generalize val (fadd y (fmul a x)) = d at *
  generalize val (fmul a x) = P at *
  generalize val a * val x = A at *
  generalize val y = Y at *
  have t1 := abs_add_le (d - (Y + P)) (P - A)
  have t2 := abs_add_le (Y + A) (P - A)
  have t3 := abs_add_le Y A
  rw [show d - (Y + P) + (P - A) = d - A - Y by grind] at t1
  rw [show Y + A + (P - A) = Y + P by grind] at t2
  have n1 : 0 ≤ A.abs := Rat.abs_nonneg
  have n2 : 0 ≤ Y.abs := Rat.abs_nonneg
  generalize (d - (Y + P)).abs = E2 at *
  generalize (P - A).abs = E1 at *
  generalize (d - A - Y).abs = G at *
  generalize (Y + P).abs = S at *
  generalize (Y + A).abs = T at *
  generalize A.abs = a' at *
  generalize Y.abs = y' at *
  have m1 := Rat.mul_le_mul_of_nonneg_left h1 (Rat.le_of_lt hU)
  rcases Rat.le_total (a := y') (b := U * a') with hc | hc
  · have p0 : 0 ≤ U * y' := Rat.mul_nonneg (Rat.le_of_lt hU) n2
    grind
  · have m2 := Rat.mul_le_mul_of_nonneg_left hc (Rat.le_of_lt hU)
    have m3 := Rat.mul_le_mul_of_nonneg_left (Rat.le_trans t2 (Rat.add_le_add_right.2 t3)) (Rat.le_of_lt hU)
    have m4 := Rat.mul_le_mul_of_nonneg_right hU1 (Rat.le_of_lt hE)
    grind
end Sedge
end
section
/-
  Plain: how far sums of products, made step by step, are from the exact ones.
-/
set_option linter.unusedSimpArgs false
set_option linter.unusedVariables false
namespace Sedge
open Ieee
/-- The exact sum, and the sum without signs. -/
def exS (s0 : Rat) (T : Nat → Rat) : Nat → Rat
  | 0 => s0
  | j + 1 => exS s0 T j + T j
def exB (s0 : Rat) (T : Nat → Rat) : Nat → Rat
  | 0 => s0.abs
  | j + 1 => exB s0 T j + (T j).abs
theorem exB_nonneg (s0 : Rat) (T : Nat → Rat) : ∀ j, 0 ≤ exB s0 T j
  | 0 => Rat.abs_nonneg
  | j + 1 => by
    have h1 := exB_nonneg s0 T j
    have h2 : 0 ≤ (T j).abs := Rat.abs_nonneg
    show 0 ≤ exB s0 T j + (T j).abs
    grind
theorem exS_le (s0 : Rat) (T : Nat → Rat) : ∀ j, (exS s0 T j).abs ≤ exB s0 T j
  | 0 => Rat.le_refl
  | j + 1 => by
    have h1 := exS_le s0 T j
    have h2 := abs_add_le (exS s0 T j) (T j)
    show (exS s0 T j + T j).abs ≤ exB s0 T j + (T j).abs
    grind
theorem exB_mono (s0 : Rat) (T : Nat → Rat) (j : Nat) : exB s0 T j ≤ exB s0 T (j + 1) := by
  have h2 : 0 ≤ (T j).abs := Rat.abs_nonneg
  show exB s0 T j ≤ exB s0 T j + (T j).abs
  grind
theorem U_small : 4096 * U ≤ 1 := by unfold U; decide +kernel
/-- SUMS OF PRODUCTS: the error. -/
theorem sum_err (S P T : Nat → Rat) (n : Nat) (hn : n ≤ 64) (hP : ∀ j, j < n → (P j - T j).abs ≤ U * (T j).abs + ETA) (hS : ∀ j, j < n → (S (j + 1) - (S j + P j)).abs ≤ U * (S j + P j).abs) :
    ∀ j, j ≤ n → (S j - exS (S 0) T j).abs ≤ (j + 1) * (33 / 32) * (U * exB (S 0) T j) + 2 * j * ETA := by
  intro j
  have hU := U_pos
  have hU1 := U_small
  have hE := ETA_pos
  induction j with
  | zero =>
    intro _
    have : S 0 - exS (S 0) T 0 = 0 := by show S 0 - S 0 = 0; grind
    rw [this]
    have h0 : (0 : Rat).abs = 0 := by decide +kernel
    rw [h0]
    have h1 := Rat.mul_nonneg (Rat.le_of_lt hU) (exB_nonneg (S 0) T 0)
    have e0 : ((0 : Nat) : Rat) = 0 := rfl
    rw [e0]
    grind
  | succ j ih =>
    intro hj
    have h1 := ih (by omega)
    have h2 := hP j (by omega)
    have h3 := hS j (by omega)
    have hb := exB_nonneg (S 0) T j
    have hx := exS_le (S 0) T j
    have ej : ((j + 1 : Nat) : Rat) = (j : Rat) + 1 := by rw [Rat.natCast_add]; rfl
    have hj64 : (j : Rat) ≤ 64 := by
      have := Rat.natCast_le_natCast.2 (show j ≤ 64 by omega)
      simpa using this
    have hj0 : (0 : Rat) ≤ (j : Rat) := Rat.natCast_nonneg
    rw [ej]
    show (S (j + 1) - (exS (S 0) T j + T j)).abs ≤ ((j : Rat) + 1 + 1) * (33 / 32) * (U * (exB (S 0) T j + (T j).abs)) + 2 * ((j : Rat) + 1) * ETA
    generalize exB (S 0) T j = B at *
    generalize exS (S 0) T j = X at *
    generalize S (j + 1) = s' at *
    generalize S j = s at *
    generalize P j = p at *
    generalize T j = t at *
    have a1 := abs_add_le (s' - (s + p)) (s - X + (p - t))
    have a2 := abs_add_le (s - X) (p - t)
    have a3 := abs_add_le (X + t) (s - X + (p - t))
    have a4 := abs_add_le X t
    rw [show s' - (s + p) + (s - X + (p - t)) = s' - (X + t) by grind] at a1
    rw [show X + t + (s - X + (p - t)) = s + p by grind] at a3
    have n1 : 0 ≤ t.abs := Rat.abs_nonneg
    generalize (s' - (s + p)).abs = e3 at *
    generalize (s - X + (p - t)).abs = e12 at *
    generalize (s - X).abs = e1 at *
    generalize (p - t).abs = e2 at *
    generalize (s' - (X + t)).abs = G at *
    generalize (s + p).abs = sp at *
    generalize (X + t).abs = xt at *
    generalize X.abs = xa at *
    generalize t.abs = ta at *
    -- e1 <= (j+1) k U B + 2 j ETA ; e2 <= U ta + ETA ; e3 <= U sp ; sp <= B + ta + e12
    have u1 : 0 ≤ U * B := Rat.mul_nonneg (Rat.le_of_lt hU) hb
    have u2 : 0 ≤ U * ta := Rat.mul_nonneg (Rat.le_of_lt hU) n1
    have j1 : (j : Rat) * (U * B) ≤ 64 * (U * B) := Rat.mul_le_mul_of_nonneg_right hj64 u1
    have j2 : (j : Rat) * ETA ≤ 64 * ETA := Rat.mul_le_mul_of_nonneg_right hj64 (Rat.le_of_lt hE)
    have j3 : 0 ≤ (j : Rat) * (U * ta) := Rat.mul_nonneg hj0 u2
    have j4 : 0 ≤ (j : Rat) * ETA := Rat.mul_nonneg hj0 (Rat.le_of_lt hE)
    have j5 : 0 ≤ (j : Rat) * (U * B) := Rat.mul_nonneg hj0 u1
    -- e1 <= 68 U B + 128 ETA
    have k1 : e1 ≤ 68 * (U * B) + 128 * ETA := by grind
    have k2 : U * e1 ≤ U * (68 * (U * B) + 128 * ETA) := Rat.mul_le_mul_of_nonneg_left k1 (Rat.le_of_lt hU)
    have k3 : U * e2 ≤ U * (U * ta + ETA) := Rat.mul_le_mul_of_nonneg_left h2 (Rat.le_of_lt hU)
    have k4 : U * sp ≤ U * (B + ta + (e1 + e2)) := Rat.mul_le_mul_of_nonneg_left (by grind) (Rat.le_of_lt hU)
    have k5 : 4096 * U * (U * B) ≤ 1 * (U * B) := Rat.mul_le_mul_of_nonneg_right hU1 u1
    have k6 : 4096 * U * (U * ta) ≤ 1 * (U * ta) := Rat.mul_le_mul_of_nonneg_right hU1 u2
    have k7 : 4096 * U * ETA ≤ 1 * ETA := Rat.mul_le_mul_of_nonneg_right hU1 (Rat.le_of_lt hE)
    have k8 : U * (68 * (U * B) + 128 * ETA) = 68 * (U * (U * B)) + 128 * (U * ETA) := by grind
    have k9 : U * (U * ta + ETA) = U * (U * ta) + U * ETA := by grind
    have k10 : U * (B + ta + (e1 + e2)) = U * B + U * ta + U * e1 + U * e2 := by grind
    have r1 : ((j : Rat) + 1 + 1) * (33 / 32) * (U * (B + ta)) = 33 / 32 * (j * (U * B)) + 33 / 32 * (j * (U * ta)) + 33 / 16 * (U * B) + 33 / 16 * (U * ta) := by grind
    have r2 : ((j : Rat) + 1) * (33 / 32) * (U * B) = 33 / 32 * (j * (U * B)) + 33 / 32 * (U * B) := by grind
    have r3 : 4096 * U * (U * B) = 4096 * (U * (U * B)) := by grind
    have r4 : 4096 * U * (U * ta) = 4096 * (U * (U * ta)) := by grind
    have r5 : 4096 * U * ETA = 4096 * (U * ETA) := by grind
    have r6 : 2 * ((j : Rat) + 1) * ETA = 2 * (j * ETA) + 2 * ETA := by grind
    have r7 : 2 * (j : Rat) * ETA = 2 * (j * ETA) := by grind
    rw [r1, r6]
    rw [r2, r7] at h1
    rw [r3] at k5
    rw [r4] at k6
    rw [r5] at k7
    rw [k8] at k2
    rw [k9] at k3
    rw [k10] at k4
    generalize (j : Rat) * (U * B) = jUB at *
    generalize (j : Rat) * (U * ta) = jUt at *
    generalize (j : Rat) * ETA = jE at *
    generalize U * (U * B) = UUB at *
    generalize U * (U * ta) = UUt at *
    generalize U * ETA = UE at *
    generalize U * B = UB at *
    generalize U * ta = Ut at *
    generalize U * e1 = Ue1 at *
    generalize U * e2 = Ue2 at *
    generalize U * sp = Usp at *
    clear r1 r2 r3 r4 r5 r6 r7 k8 k9 k10 hU hU1
    grind
end Sedge
end
section
/-
  Plain: the bound of a rest is one.
-/
set_option linter.unusedSimpArgs false
set_option linter.unusedVariables false
namespace Sedge
open Ieee
theorem U_tiny : 1048576 * U ≤ 1 := by unfold U; decide +kernel
/-- A number without its sign. -/
theorem fabs_val {x : Nat} (hx : x < 2 ^ 64) : fin (fabs x) = fin x ∧ (fin x = true → val (fabs x) = (val x).abs) := by
  have hl : fabs x < 2 ^ 64 := Nat.lt_of_le_of_lt (Nat.mod_le _ _) hx
  obtain ⟨h1, h2, h3⟩ := parts_abs x
  refine ⟨by rw [fin_kind hl, fin_kind hx, h1], fun hf => ?_⟩
  have hk := (fin_parts hx hf).1
  rw [val_parts hl (by rw [h1]; exact hk), val_parts hx hk, h2, h3, pNeg_abs, dat_abs]
  unfold dat sgn
  simp
theorem fabs_lt {x : Nat} (hx : x < 2 ^ 64) : fabs x < 2 ^ 64 := Nat.lt_of_le_of_lt (Nat.mod_le _ _) hx
/-- The inequality of the bounds. -/
theorem rest_ineq {n B X E r w gv p q t f : Rat} (hn0 : 0 ≤ n) (hn : n ≤ 16) (hB : 0 ≤ B) (hE : E = (n + 1) * (33 / 32) * (U * B) + 2 * n * ETA) (hX : X.abs ≤ B) (hr : (r - X).abs ≤ E) (hw : (w - B).abs ≤ E)
    (hg : gv = (n + 3) * (2 * U)) (ht : t = (n + 3) * (32 * ETA)) (hp : (p - gv * w).abs ≤ U * (gv * w).abs + ETA) (hq : (q - (r.abs + p)).abs ≤ U * (r.abs + p).abs) (hf : (f - (q + t)).abs ≤ U * (q + t).abs) : r.abs + 2 * E ≤ f := by
  have hU := U_pos
  have hU1 := U_tiny
  have hEt := ETA_pos
  have uB : 0 ≤ U * B := Rat.mul_nonneg (Rat.le_of_lt hU) hB
  have n1 : 0 ≤ n * (U * B) := Rat.mul_nonneg hn0 uB
  have n2 : n * (U * B) ≤ 16 * (U * B) := Rat.mul_le_mul_of_nonneg_right hn uB
  have n3 : 0 ≤ n * ETA := Rat.mul_nonneg hn0 (Rat.le_of_lt hEt)
  have n4 : n * ETA ≤ 16 * ETA := Rat.mul_le_mul_of_nonneg_right hn (Rat.le_of_lt hEt)
  have hE' : E = 33 / 32 * (n * (U * B)) + 33 / 32 * (U * B) + 2 * (n * ETA) := by rw [hE]; grind
  have E0 : 0 ≤ E := by rw [hE']; grind
  have tiny : ∀ x : Rat, 0 ≤ x → 1048576 * (U * x) ≤ x := fun x hx => by
    have := Rat.mul_le_mul_of_nonneg_right hU1 hx
    grind
  have pos : ∀ x : Rat, 0 ≤ x → 0 ≤ U * x := fun x hx => Rat.mul_nonneg (Rat.le_of_lt hU) hx
  have tE := tiny E E0
  have pE := pos E E0
  -- w
  have w1 := le_abs (w - B)
  have w2 := neg_le_abs (w - B)
  have g0 : 0 ≤ gv := by rw [hg]; exact Rat.mul_nonneg (by grind) (by grind)
  have g38 : gv ≤ 38 * U := by
    rw [hg]
    have := Rat.mul_le_mul_of_nonneg_right (show n + 3 ≤ 19 by grind) (show 0 ≤ 2 * U by grind)
    grind
  have gw1 : gv * (B - E) ≤ gv * w := Rat.mul_le_mul_of_nonneg_left (by grind) g0
  have gw2 : gv * w ≤ gv * (B + E) := Rat.mul_le_mul_of_nonneg_left (by grind) g0
  have gE : gv * E ≤ 38 * U * E := Rat.mul_le_mul_of_nonneg_right g38 E0
  have gB : gv * B = 2 * (n * (U * B)) + 6 * (U * B) := by rw [hg]; grind
  have gwL : 2 * (n * (U * B)) + 6 * (U * B) - 38 * (U * E) ≤ gv * w := by grind
  have gwH : gv * w ≤ 38 * (U * B) + 38 * (U * E) := by grind
  have agw : (gv * w).abs ≤ 38 * (U * B) + 38 * (U * E) := abs_le_of (by grind) gwH
  have uagw : U * (gv * w).abs ≤ U * (38 * (U * B) + 38 * (U * E)) := Rat.mul_le_mul_of_nonneg_left agw (Rat.le_of_lt hU)
  have tgw := tiny (38 * (U * B) + 38 * (U * E)) (by grind)
  have p1 := le_abs (p - gv * w)
  have p2' := neg_le_abs (p - gv * w)
  have pab : p.abs ≤ 76 * (U * B) + 76 * (U * E) + ETA := abs_le_of (by grind) (by grind)
  have pa0 : 0 ≤ p.abs := Rat.abs_nonneg
  have ra0 : 0 ≤ r.abs := Rat.abs_nonneg
  have upa := pos p.abs pa0
  have tpa := tiny p.abs pa0
  -- r
  have r1 := abs_add_le X (r - X)
  rw [show X + (r - X) = r by grind] at r1
  have ur : U * r.abs ≤ U * (B + E) := Rat.mul_le_mul_of_nonneg_left (by grind) (Rat.le_of_lt hU)
  have urs : U * (B + E) = U * B + U * E := by grind
  -- q
  have q0 := abs_add_le r.abs p
  rw [Rat.abs_of_nonneg ra0] at q0
  have uq0 : U * (r.abs + p).abs ≤ U * (r.abs + p.abs) := Rat.mul_le_mul_of_nonneg_left q0 (Rat.le_of_lt hU)
  have uqs : U * (r.abs + p.abs) = U * r.abs + U * p.abs := by grind
  have q1 := le_abs (q - (r.abs + p))
  have q2 := neg_le_abs (q - (r.abs + p))
  have qab : q.abs ≤ r.abs + p.abs + (U * r.abs + U * p.abs) := by
    have := le_abs p
    have := neg_le_abs p
    exact abs_le_of (by grind) (by grind)
  have uq : U * q.abs ≤ U * (r.abs + p.abs + (U * r.abs + U * p.abs)) := Rat.mul_le_mul_of_nonneg_left qab (Rat.le_of_lt hU)
  have pur := pos r.abs ra0
  have tq := tiny (U * r.abs + U * p.abs) (by grind)
  have uqss : U * (r.abs + p.abs + (U * r.abs + U * p.abs)) = U * r.abs + U * p.abs + U * (U * r.abs + U * p.abs) := by grind
  -- f
  have t0 : 0 ≤ t := by rw [ht]; exact Rat.mul_nonneg (by grind) (by grind)
  have tt := tiny t t0
  have f1 := neg_le_abs (f - (q + t))
  have f0 := abs_add_le q t
  rw [Rat.abs_of_nonneg t0] at f0
  have uf : U * (q + t).abs ≤ U * (q.abs + t) := Rat.mul_le_mul_of_nonneg_left f0 (Rat.le_of_lt hU)
  have ufs : U * (q.abs + t) = U * q.abs + U * t := by grind
  have ht' : t = 32 * (n * ETA) + 96 * ETA := by rw [ht]; grind
  generalize U * (38 * (U * B) + 38 * (U * E)) = z1 at *
  generalize U * (gv * w).abs = z2 at *
  generalize gv * w = gw at *
  generalize n * (U * B) = nUB at *
  generalize n * ETA = nE at *
  generalize U * B = UB at *
  generalize U * E = UE at *
  generalize U * (U * r.abs + U * p.abs) = z4 at *
  generalize U * r.abs = z5 at *
  generalize U * p.abs = z6 at *
  generalize U * q.abs = z7 at *
  generalize U * (q + t).abs = z8 at *
  generalize U * (r.abs + p).abs = z9 at *
  generalize U * t = z10 at *
  rw [hE']
  clear tiny pos hE hg ht gE gB g38 gw1 gw2
  grind
/-- The values of the constants in the bounds. -/
def cG (n : Nat) : Rat := ((n : Rat) + 3) * p2 (-52)
theorem row_fin {S P : Nat → Nat} {op : Nat → Nat → Nat} (hop : ∀ x y, fin (op x y) = true → fin x = true ∧ fin y = true) {n : Nat} (hS : ∀ j, j < n → S (j + 1) = op (S j) (P j)) (hf : fin (S n) = true) : ∀ j, j ≤ n → fin (S j) = true ∧ (j < n → fin (P j) = true) := by
  have key : ∀ k, k ≤ n → fin (S (n - k)) = true := by
    intro k
    induction k with
    | zero => intro _; exact hf
    | succ k ih =>
      intro hk
      have h1 := ih (by omega)
      have h2 := hS (n - (k + 1)) (by omega)
      rw [show n - (k + 1) + 1 = n - k by omega] at h2
      rw [h2] at h1
      exact (hop _ _ h1).1
  intro j hj
  have h1 := key (n - j) (by omega)
  rw [show n - (n - j) = j by omega] at h1
  refine ⟨h1, fun hlt => ?_⟩
  have h3 := key (n - (j + 1)) (by omega)
  rw [show n - (n - (j + 1)) = j + 1 by omega, hS j hlt] at h3
  exact (hop _ _ h3).2
/-- A row's rest and weight, and how far they are off. -/
theorem rest_err {S W : Nat → Nat} {A X : Nat → Nat} {n : Nat} (hn : n ≤ 64) (hA : ∀ j, A j < 2 ^ 64) (hX : ∀ j, X j < 2 ^ 64) (h0 : S 0 < 2 ^ 64) (hS : ∀ j, j < n → S (j + 1) = fsub (S j) (fmul (A j) (X j)))
    (w0 : W 0 = fabs (S 0)) (hW : ∀ j, j < n → W (j + 1) = fadd (W j) (fmul (fabs (A j)) (fabs (X j)))) (fS : fin (S n) = true) (fW : fin (W n) = true) :
    (val (S n) - exS (val (S 0)) (fun j => -(val (A j) * val (X j))) n).abs ≤ (n + 1) * (33 / 32) * (U * exB (val (S 0)) (fun j => -(val (A j) * val (X j))) n) + 2 * n * ETA ∧
    (val (W n) - exB (val (S 0)) (fun j => -(val (A j) * val (X j))) n).abs ≤ (n + 1) * (33 / 32) * (U * exB (val (S 0)) (fun j => -(val (A j) * val (X j))) n) + 2 * n * ETA := by
  have kS := row_fin (op := fsub) (P := fun j => fmul (A j) (X j)) (fun _ _ => fsub_fin) hS fS
  have kW := row_fin (op := fadd) (P := fun j => fmul (fabs (A j)) (fabs (X j))) (fun _ _ => fadd_fin) hW fW
  have lS : ∀ j, j ≤ n → S j < 2 ^ 64 := fun j hj => by
    cases j with
    | zero => exact h0
    | succ j => rw [hS j (by omega)]; exact fsub_lt _ _
  have lW : ∀ j, j ≤ n → W j < 2 ^ 64 := fun j hj => by
    cases j with
    | zero => rw [w0]; exact fabs_lt h0
    | succ j => rw [hW j (by omega)]; exact fadd_lt _ _
  constructor
  · have := sum_err (fun j => val (S j)) (fun j => -(val (fmul (A j) (X j)))) (fun j => -(val (A j) * val (X j))) n hn ?_ ?_ n (Nat.le_refl _)
    · exact this
    · intro j hj
      have h1 := fmul_err ((kS j (by omega)).2 hj)
      show (-(val (fmul (A j) (X j))) - -(val (A j) * val (X j))).abs ≤ U * (-(val (A j) * val (X j))).abs + ETA
      rw [Rat.abs_neg, show -(val (fmul (A j) (X j))) - -(val (A j) * val (X j)) = -(val (fmul (A j) (X j)) - val (A j) * val (X j)) by grind, Rat.abs_neg]
      exact h1
    · intro j hj
      have h1 := (kS (j + 1) (by omega)).1
      have h2 := hS j hj
      show (val (S (j + 1)) - (val (S j) + -(val (fmul (A j) (X j))))).abs ≤ U * (val (S j) + -(val (fmul (A j) (X j)))).abs
      rw [h2] at h1 ⊢
      have := fsub_err' (lS j (by omega)) (fmul_lt _ _) h1
      rw [show val (S j) + -(val (fmul (A j) (X j))) = val (S j) - val (fmul (A j) (X j)) by grind]
      exact this
  · have f0 := (kS 0 (by omega)).1
    have v0 : val (W 0) = (val (S 0)).abs := by rw [w0]; exact (fabs_val h0).2 f0
    have eB : ∀ k, exS (val (S 0)).abs (fun j => (val (A j) * val (X j)).abs) k = exB (val (S 0)) (fun j => -(val (A j) * val (X j))) k ∧ exB (val (S 0)).abs (fun j => (val (A j) * val (X j)).abs) k = exB (val (S 0)) (fun j => -(val (A j) * val (X j))) k := by
      intro k
      induction k with
      | zero => exact ⟨rfl, Rat.abs_of_nonneg Rat.abs_nonneg⟩
      | succ k ih =>
        have e1 : (-(val (A k) * val (X k))).abs = (val (A k) * val (X k)).abs := Rat.abs_neg
        refine ⟨?_, ?_⟩
        · show exS _ _ k + (val (A k) * val (X k)).abs = exB _ _ k + (-(val (A k) * val (X k))).abs
          rw [ih.1, e1]
        · show exB _ _ k + ((val (A k) * val (X k)).abs).abs = exB _ _ k + (-(val (A k) * val (X k))).abs
          rw [ih.2, e1, Rat.abs_of_nonneg Rat.abs_nonneg]
    have := sum_err (fun j => val (W j)) (fun j => val (fmul (fabs (A j)) (fabs (X j)))) (fun j => (val (A j) * val (X j)).abs) n hn ?_ ?_ n (Nat.le_refl _)
    · have this' : (val (W n) - exS (val (W 0)) (fun j => (val (A j) * val (X j)).abs) n).abs ≤ (n + 1) * (33 / 32) * (U * exB (val (W 0)) (fun j => (val (A j) * val (X j)).abs) n) + 2 * n * ETA := this
      rw [v0, (eB n).1, (eB n).2] at this'
      exact this'
    · intro j hj
      have h1 := (kW j (by omega)).2 hj
      have h2 := fmul_err h1
      obtain ⟨h3, h4⟩ := fmul_fin h1
      rw [(fabs_val (hA j)).1] at h3
      rw [(fabs_val (hX j)).1] at h4
      rw [(fabs_val (hA j)).2 h3, (fabs_val (hX j)).2 h4] at h2
      have e1 : (val (A j)).abs * (val (X j)).abs = (val (A j) * val (X j)).abs := by
        rcases Rat.le_total (a := 0) (b := val (A j)) with p | p <;> rcases Rat.le_total (a := 0) (b := val (X j)) with q | q
        · rw [Rat.abs_of_nonneg p, Rat.abs_of_nonneg q, Rat.abs_of_nonneg (Rat.mul_nonneg p q)]
        · rw [Rat.abs_of_nonneg p, Rat.abs_of_nonpos q, Rat.abs_of_nonpos (by have := Rat.mul_nonneg p (show 0 ≤ -(val (X j)) by grind); grind)]; grind
        · rw [Rat.abs_of_nonpos p, Rat.abs_of_nonneg q, Rat.abs_of_nonpos (by have := Rat.mul_nonneg (show 0 ≤ -(val (A j)) by grind) q; grind)]; grind
        · rw [Rat.abs_of_nonpos p, Rat.abs_of_nonpos q, Rat.abs_of_nonneg (by have := Rat.mul_nonneg (show 0 ≤ -(val (A j)) by grind) (show 0 ≤ -(val (X j)) by grind); grind)]; grind
      rw [e1] at h2
      show (val (fmul (fabs (A j)) (fabs (X j))) - (val (A j) * val (X j)).abs).abs ≤ U * ((val (A j) * val (X j)).abs).abs + ETA
      rw [Rat.abs_of_nonneg (Rat.abs_nonneg (x := val (A j) * val (X j)))] at h2 ⊢
      exact h2
    · intro j hj
      have h1 := (kW (j + 1) (by omega)).1
      have h2 := hW j hj
      show (val (W (j + 1)) - (val (W j) + val (fmul (fabs (A j)) (fabs (X j))))).abs ≤ U * (val (W j) + val (fmul (fabs (A j)) (fabs (X j)))).abs
      rw [h2] at h1 ⊢
      exact fadd_err' (lW j (by omega)) (fmul_lt _ _) h1
/-- THE BOUND: with what both are off, twice. -/
theorem bound_law {S W : Nat → Nat} {A X : Nat → Nat} {n g t : Nat} (hn : n ≤ 16) (hA : ∀ j, A j < 2 ^ 64) (hX : ∀ j, X j < 2 ^ 64) (h0 : S 0 < 2 ^ 64) (hS : ∀ j, j < n → S (j + 1) = fsub (S j) (fmul (A j) (X j)))
    (w0 : W 0 = fabs (S 0)) (hW : ∀ j, j < n → W (j + 1) = fadd (W j) (fmul (fabs (A j)) (fabs (X j)))) (hg : val g = ((n : Rat) + 3) * (2 * U)) (ht : val t = ((n : Rat) + 3) * (32 * ETA)) (htl : t < 2 ^ 64)
    (hf : fin (fadd (fadd (fabs (S n)) (fmul g (W n))) t) = true) :
    (exS (val (S 0)) (fun j => -(val (A j) * val (X j))) n).abs + ((n + 1) * (33 / 32) * (U * exB (val (S 0)) (fun j => -(val (A j) * val (X j))) n) + 2 * n * ETA) ≤ val (fadd (fadd (fabs (S n)) (fmul g (W n))) t) ∧ fin (S n) = true ∧ fin (W n) = true := by
  obtain ⟨f1, f2⟩ := fadd_fin hf
  obtain ⟨f3, f4⟩ := fadd_fin f1
  obtain ⟨f5, f6⟩ := fmul_fin f4
  have hSl : S n < 2 ^ 64 := by
    cases n with
    | zero => exact h0
    | succ n => rw [hS n (by omega)]; exact fsub_lt _ _
  have fS : fin (S n) = true := by rw [← (fabs_val hSl).1]; exact f3
  obtain ⟨e1, e2⟩ := rest_err (by omega) hA hX h0 hS w0 hW fS f6
  have hn0 : (0 : Rat) ≤ n := Rat.natCast_nonneg
  have hn16 : (n : Rat) ≤ 16 := by
    have := Rat.natCast_le_natCast.2 hn
    simpa using this
  have hp := fmul_err f4
  have hq := fadd_err' (fabs_lt hSl) (fmul_lt _ _) f1
  have hff := fadd_err' (fadd_lt _ _) htl hf
  rw [(fabs_val hSl).2 fS] at hq
  rw [ht] at hff
  rw [hg] at hp
  have := rest_ineq hn0 hn16 (exB_nonneg _ _ n) rfl (exS_le _ _ n) e1 e2 rfl rfl hp hq hff
  refine ⟨?_, fS, f6⟩
  have h3 := abs_add_le (val (S n)) (exS (val (S 0)) (fun j => -(val (A j) * val (X j))) n - val (S n))
  rw [abs_sub_comm] at e1
  rw [show val (S n) + (exS (val (S 0)) (fun j => -(val (A j) * val (X j))) n - val (S n)) = exS (val (S 0)) (fun j => -(val (A j) * val (X j))) n by grind] at h3
  grind
end Sedge
end
section
/-
  Plain: a number of a product is close.
-/
set_option linter.unusedSimpArgs false
set_option linter.unusedVariables false
namespace Sedge
open Ieee
theorem fmul_best {x y f : Nat} (h : fin (fmul x y) = true) (hf : f < 2 ^ 64) (ff : fin f = true) : (val (fmul x y) - val x * val y).abs ≤ (val f - val x * val y).abs := by
  obtain ⟨fx, fy⟩ := fmul_fin h
  obtain ⟨c, z, b, h1, h2⟩ := fmul_read fx fy
  rw [h1] at h ⊢
  rw [← h2]
  by_cases hz : z = 0
  · subst hz
    have e : D64.write (.number c 0 b) = D64.word c 0 := by
      show D64.nearest c 0 b = _; unfold Format.nearest; rw [if_pos rfl]
    rw [e, (word_zero c).1, dat_zero]
    have : ((0 : Rat) - 0).abs = 0 := by decide +kernel
    rw [this]
    exact Rat.abs_nonneg
  · exact nearest_best c z b hz h hf ff
theorem val_one : val 4607182418800017408 = 1 := by decide +kernel
theorem eq_of_abs {x y : Rat} (h : (x - y).abs ≤ 0) : x = y := by
  have h1 := le_abs (x - y)
  have h2 := neg_le_abs (x - y)
  grind
theorem fmul_exact {x y f : Nat} (h : fin (fmul x y) = true) (hf : f < 2 ^ 64) (ff : fin f = true) (e : val f = val x * val y) : val (fmul x y) = val x * val y := by
  have h1 := fmul_best h hf ff
  rw [e, show val x * val y - val x * val y = 0 by grind, show (0 : Rat).abs = 0 by decide +kernel] at h1
  exact eq_of_abs h1
theorem fmul_one {x : Nat} (hx : x < 2 ^ 64) (h : fin (fmul 4607182418800017408 x) = true) : val (fmul 4607182418800017408 x) = val x := by
  have h1 := fmul_exact h hx (fmul_fin h).2 (by rw [val_one]; grind)
  rw [h1, val_one]; grind
theorem mul_close {S A X : Nat → Nat} {Y n : Nat} (hn : n ≤ 64) (hX : ∀ j, X j < 2 ^ 64) (hY : Y < 2 ^ 64) (h0 : S 0 = fmul 4607182418800017408 Y) (hS : ∀ j, j < n → S (j + 1) = fadd (S j) (fmul (fmul 4607182418800017408 (X j)) (A j))) (hf : fin (S n) = true) :
    (val (S n) - exS (val Y) (fun j => val (A j) * val (X j)) n).abs ≤ (exB (val Y) (fun j => val (A j) * val (X j)) n * p2 (-51) + ((1 : Nat) : Rat) * p2 (-1070)) * ((n + 1 : Nat) : Rat) := by
  have kS := row_fin (op := fadd) (P := fun j => fmul (fmul 4607182418800017408 (X j)) (A j)) (fun _ _ => fadd_fin) hS hf
  have f0 : fin (S 0) = true := (kS 0 (Nat.zero_le _)).1
  have e0 : val (S 0) = val Y := by rw [h0]; rw [h0] at f0; exact fmul_one hY f0
  have hSl : ∀ j, j ≤ n → S j < 2 ^ 64 := fun j hj => by
    cases j with
    | zero => rw [h0]; exact fmul_lt _ _
    | succ j => rw [hS j (by omega)]; exact fadd_lt _ _
  have h1 := sum_err (fun j => val (S j)) (fun j => val (fmul (fmul 4607182418800017408 (X j)) (A j))) (fun j => val (A j) * val (X j)) n hn (fun j hj => by
      have f1 := (kS j (by omega)).2 hj
      obtain ⟨f2, f3⟩ := fmul_fin f1
      have := fmul_err f1
      rw [fmul_one (hX j) f2] at this
      rw [show val (A j) * val (X j) = val (X j) * val (A j) by grind]
      exact this) (fun j hj => by
      have f1 := (kS (j + 1) (by omega)).1
      show (val (S (j + 1)) - (val (S j) + _)).abs ≤ _
      rw [hS j hj] at f1 ⊢
      exact fadd_err' (hSl j (by omega)) (fmul_lt _ _) f1) n (Nat.le_refl n)
  simp only [e0] at h1
  have hB := exB_nonneg (val Y) (fun j => val (A j) * val (X j)) n
  have e1 : p2 (-51) = 4 * U := by unfold U; rw [show (-51 : Int) = -53 + 1 + 1 by rfl, p2_succ, p2_succ]; grind
  have e2 : p2 (-1070) = 32 * ETA := by
    unfold ETA; rw [show (-1070 : Int) = -1075 + 1 + 1 + 1 + 1 + 1 by rfl, p2_succ, p2_succ, p2_succ, p2_succ, p2_succ]; grind
  rw [e1, e2]
  have hn0 : (0 : Rat) ≤ n := Rat.natCast_nonneg
  have en : ((n + 1 : Nat) : Rat) = (n : Rat) + 1 := by rw [Rat.natCast_add]; rfl
  rw [en]
  have hU := U_pos
  have hE := ETA_pos
  generalize exB (val Y) (fun j => val (A j) * val (X j)) n = B at *
  have u1 : 0 ≤ U * B := Rat.mul_nonneg (Rat.le_of_lt hU) hB
  have u2 : 0 ≤ (n : Rat) * (U * B) := Rat.mul_nonneg hn0 u1
  have u3 : 0 ≤ (n : Rat) * ETA := Rat.mul_nonneg hn0 (Rat.le_of_lt hE)
  refine Rat.le_trans h1 ?_
  rw [show ((n : Rat) + 1) * (33 / 32) * (U * B) + 2 * n * ETA = 33 / 32 * (n * (U * B)) + 33 / 32 * (U * B) + 2 * (n * ETA) by grind]
  rw [show (B * (4 * U) + ((1 : Nat) : Rat) * (32 * ETA)) * ((n : Rat) + 1) = 4 * (n * (U * B)) + 4 * (U * B) + 32 * (n * ETA) + 32 * ETA by rw [show ((1 : Nat) : Rat) = 1 from rfl]; grind]
  grind
end Sedge
end
section
/-
  GemvClose: the product that is made, its numbers; New with its room.
-/
set_option linter.unusedSimpArgs false
set_option linter.unusedVariables false
open Go Go.RowKit Sedge
namespace Go.Proofs.Ytcmggfpcbijcjaa
set_option maxRecDepth 100000 in
/-- straightedgeref03.New. -/
theorem rnewc_any (r c : Nat) (w : World) (hr : r ≤ 1000) (hc : c ≤ 1000) :
   Calls Try.prog 68 #[.int .i64 r, .int .i64 c] w (fun e w' => ∃ k, e = .returned (.agg #[.int .i64 r, .int .i64 c, .slice (some ⟨k, 0, none⟩) (r * c) (r * c)]) ∧ w.heap.size ≤ k ∧ FW w' k (List.replicate (r * c) 0) ∧ ∃ o n, w' = ext w o n) := by
  have hm : r * c ≤ 1000 * 1000 := Nat.mul_le_mul hr hc
  have h2 : IntKind.i64.wrap ((r : Int) * c) = (r : Int) * c := IntWalk.i64_in _ (by rw [← Int.natCast_mul]; omega)
  go_enter Try.func68, Try.ntmps68
  refine seq_stop ?_
  go_wp2
  refine stop_go (fun W hW => ?_)
  have s1 : w.heap.size < W.heap.size := by rw [hW]; simp only [World.size_alloc]; omega
  have b1 : ∀ i, W.cell? ⟨w.heap.size, i, none⟩ = (#[.int .i64 0, .int .i64 0, .slice none 0 0] : Array Value)[i]? := by intro i; rw [hW]; go_simp
  have f1 : ∀ i, W.frozen? ⟨w.heap.size, i, none⟩ = false := by intro i; rw [hW]; go_simp
  have g0 : Grew w W := by rw [hW]; exact (Grew.refl _).alloc _
  clear hW
  go_wp2_with (at_make; refine make_f (L := (r : Int) * (c : Int)) finfo (Grew.refl W) _ _ rfl rfl (r * c) (Int.natCast_mul r c).symm rfl rfl (by omega) ?_; intro oo nn k hk ho; have hF := ho.made)
  refine bodyPost_ret (v := .agg #[.int .i64 r, .int .i64 c, .slice (some ⟨k, 0, none⟩) (r * c) (r * c)]) (by simp [results, Try.results68, go_sem, *]) rfl ?_
  exact ⟨_, rfl, by omega, by (repeat (first | (with_reducible assumption) | ((with_reducible refine FW.ext_set ?_ ?_ ?_ _); rotate_left; (focus (simp only [size_setCell', World.size_alloc, size_ext, size_upd]; omega)); (focus (dsimp only; omega))) | ((with_reducible refine FW.setCell_ne ?_ ?_ _); rotate_left; (focus (dsimp only; omega))) | (with_reducible refine FW.ext ?_ _ _) | (with_reducible refine FW.alloc ?_ _))), by (show Grew _ _; repeat (first | (with_reducible exact Grew.refl _) | (with_reducible assumption) | (with_reducible exact Grew.same_o) | (with_reducible exact Grew.app_o) | (with_reducible refine Grew.ext ?_ _ _) | (with_reducible refine Grew.alloc ?_ _) | ((with_reducible refine Grew.setCell ?_ ?_ _); rotate_left; (focus (dsimp only; first | omega | (simp only [size_ext, World.size_alloc, Array.size_append]; omega)))) | (with_reducible refine Grew.drewN ?_ _) | (with_reducible refine Grew.drew ?_)))⟩
theorem denseL_length (r c : Nat) (l : List Nat) : (denseL r c l).length = r * c := by simp [denseL, denseTo]
theorem dense_num {r c : Nat} {l : List Nat} (hl : l.length = r * c) {i j : Nat} (hi : i < r) (hj : j < c) : (denseL r c l).getD (i + j * r) 0 = l.getD (i * c + j) 0 := by
  have hc : 0 < c := by omega
  have hk : i * c + j < r * c := by
    have := Nat.mul_le_mul_right c (show i + 1 ≤ r by omega)
    rw [Nat.add_mul] at this; omega
  have e1 : (i * c + j) / c = i := by rw [Nat.add_comm, Nat.add_mul_div_right _ _ hc, Nat.div_eq_of_lt hj, Nat.zero_add]
  have e2 : (i * c + j) % c = j := by rw [Nat.add_comm, Nat.add_mul_mod_self_right, Nat.mod_eq_of_lt hj]
  unfold denseL denseTo
  rw [hl, Nat.min_self]
  have h := writes_at (l := List.replicate (r * c) 0) (p := fun k => k / c + k % c * r) (f := fun k => l.getD k 0) (r * c) (fun s t hs ht e => ?_) (fun t ht => ?_) (i * c + j) hk
  · simp only [e1, e2] at h
    exact h
  · have hs1 : s / c < r := by rw [Nat.div_lt_iff_lt_mul hc]; exact hs
    have ht1 : t / c < r := by rw [Nat.div_lt_iff_lt_mul hc]; exact ht
    have hr : 0 < r := by omega
    have m1 : (s / c + s % c * r) % r = s / c := by rw [Nat.add_mul_mod_self_right, Nat.mod_eq_of_lt hs1]
    have m2 : (t / c + t % c * r) % r = t / c := by rw [Nat.add_mul_mod_self_right, Nat.mod_eq_of_lt ht1]
    have n1 : (s / c + s % c * r) / r = s % c := by rw [Nat.add_mul_div_right _ _ hr, Nat.div_eq_of_lt hs1, Nat.zero_add]
    have n2 : (t / c + t % c * r) / r = t % c := by rw [Nat.add_mul_div_right _ _ hr, Nat.div_eq_of_lt ht1, Nat.zero_add]
    have q1 : s / c = t / c := by rw [← m1, ← m2, e]
    have q2 : s % c = t % c := by rw [← n1, ← n2, e]
    rw [← Nat.div_add_mod s c, ← Nat.div_add_mod t c, q1, q2]
  · have ht1 : t / c < r := by rw [Nat.div_lt_iff_lt_mul hc]; exact ht
    have ht2 : t % c < c := Nat.mod_lt _ hc
    rw [List.length_replicate]
    have := Nat.mul_le_mul_right r (show t % c + 1 ≤ c by omega)
    rw [Nat.add_mul, Nat.mul_comm c r] at this
    omega
theorem mul_cl (r c : Nat) (TT X Y : List Nat) (hT : TT.length = r * c) (hr : r ≤ 12) (hr1 : 1 ≤ r) (hc : c ≤ 12) (hc1 : 1 ≤ c) (gm cm bx ox cx g cg : Nat) (w : World) (hM : FW w gm (denseL r c TT)) (hX : FS w (.slice (some ⟨bx, ox, none⟩) X.length cx) X) (hcX : c ≤ X.length) (hXl : X.length ≤ 1000) (hZ : FW w g Y) (hY : Y.length = r)
    (n1 : g ≠ gm) (n2 : g ≠ bx) :
    Calls Try.prog 71 #[.float .f64 4607182418800017408, .agg #[.slice (some ⟨gm, 0, none⟩) (r * c) cm, .int .i64 0, .int .i64 r, .int .i64 c, .int .i64 r], .agg #[.slice (some ⟨bx, ox, none⟩) X.length cx, .int .i64 0, .int .i64 c, .int .i64 1], .float .f64 4607182418800017408, .agg #[.slice (some ⟨g, 0, none⟩) Y.length cg, .int .i64 0, .int .i64 Y.length, .int .i64 1]] w
      (fun e w' => e = .returned (.int .i64 0) ∧ But w [g] w' ∧ ∃ Z, FW w' g Z ∧ Z.length = r ∧ ∀ i, i < r → ∃ S : Nat → Nat, S 0 = fmul 4607182418800017408 (Y.getD i 0) ∧ (∀ j, j < c → S (j + 1) = fadd (S j) (fmul (fmul 4607182418800017408 (X.getD j 0)) (TT.getD (i * c + j) 0))) ∧ Z.getD i 0 = S c) := by
  have hm : r * c ≤ 12 * 12 := Nat.mul_le_mul hr hc
  have hDl := denseL_length r c TT
  have hms : ((c : Int) - 1) * r + ((r : Int) - 1) < (r * c : Nat) := by
    rw [Int.sub_mul, Int.one_mul, Int.natCast_mul, Int.mul_comm]; omega
  have h := mulO_ok 4607182418800017408 4607182418800017408 4607182418800017408 4607182418800017408 ⟨denseL r c TT, 0, r, c, r⟩ ⟨X, 0, c, 1⟩ ⟨Y, 0, r, 1⟩ gm cm bx ox cx g cg w (by decide +kernel) (by decide +kernel)
    ⟨hM.fs (by rw [hDl]; omega) cm, hX, hZ.fs (by omega) cg, FW.plain hM, held_fs hX (by omega), FW.plain hZ,
      by simp only [MatM.good, fitsB, hDl, Bool.and_eq_true, Bool.or_eq_true, decide_eq_true_eq]; refine ⟨by omega, .inr ⟨by omega, by omega⟩⟩,
      by simp only [VecM.right, fitsB, Bool.and_eq_true, Bool.or_eq_true, decide_eq_true_eq]; refine ⟨by omega, .inr ⟨by omega, by omega⟩⟩,
      by simp only [VecM.right, fitsB, Bool.and_eq_true, Bool.or_eq_true, decide_eq_true_eq]; refine ⟨by omega, .inr ⟨by omega, by omega⟩⟩,
      rfl, rfl, by rw [show decide (g = gm) = false by simpa using n1]; simp [meetM], n2, by simp [MatM.wf, I64]; omega, by simp [VecM.wf, I64]; omega, by simp [VecM.wf, I64]; omega, by show (denseL r c TT).length ≤ _; rw [hDl]; omega, by show X.length ≤ _; omega, by show Y.length ≤ _; omega⟩
    hZ (by show (0 : Int) < r; omega) (fun e => absurd e.symm n1) hM.lt (by obtain ⟨blk, o, e, hb, _⟩ := hX.at.2 (by omega); cases e; exact hb)
  rw [show (denseL r c TT).length = r * c from hDl] at h
  rw [hY]
  simp only at h
  rw [hY] at h
  refine h.mono fun e w' hh => ?_
  obtain ⟨rfl, q1, Z, q2, q3⟩ := hh
  refine ⟨rfl, q1, Z, q2, by rw [q3.len]; exact hY, fun i hi => ?_⟩
  have hz := q3.get i (by show (i : Int) < r; omega)
  refine ⟨fun j => mulTo 4607182418800017408 (MatM.num ⟨denseL r c TT, 0, r, c, r⟩) (VecM.num ⟨X, 0, c, 1⟩) (beginF 4607182418800017408 (VecM.num ⟨Y, 0, r, 1⟩ i)) i j, ?_, fun j hj => ?_, ?_⟩
  · show beginF _ _ = _
    have e0 : VecM.num ⟨Y, 0, r, 1⟩ i = Y.getD i 0 := by unfold VecM.num VecM.place; simp
    rw [e0]
    unfold beginF
    rw [if_neg (by decide +kernel)]
  · show fadd _ _ = _
    have e1 : VecM.num ⟨X, 0, c, 1⟩ j = X.getD j 0 := by unfold VecM.num VecM.place; simp
    have e2 : MatM.num ⟨denseL r c TT, 0, r, c, r⟩ i j = TT.getD (i * c + j) 0 := by
      rw [← dense_num hT hi hj]
      unfold MatM.num MatM.place
      simp only
      congr 1
      rw [Int.zero_add, ← Int.natCast_mul, ← Int.natCast_add, Int.toNat_natCast]
    rw [e1, e2]
  · have e3 : VecM.place ⟨Y, 0, r, 1⟩ i = i := by unfold VecM.place; simp
    rw [e3] at hz
    rw [hz]
    simp
end Go.Proofs.Ytcmggfpcbijcjaa
end
section
/-
  Plain: quotients.
-/
set_option linter.unusedSimpArgs false
set_option linter.unusedVariables false
namespace Sedge
open Ieee
theorem dat_ne {s : Bool} {m : Nat} {p : Int} (h : dat s m p ≠ 0) : m ≠ 0 := fun h0 => by subst h0; exact h (dat_zero s p)
theorem dat_eq_zero {s : Bool} {m : Nat} {p : Int} (h : dat s m p = 0) : m = 0 := by
  rcases Nat.eq_zero_or_pos m with h0 | h0
  · exact h0
  · exfalso
    have h1 : (dat s m p).abs = (m : Rat) * p2 p := dat_abs s m p
    rw [h] at h1
    have h2 : (0 : Rat).abs = 0 := by decide +kernel
    rw [h2] at h1
    have h3 : (0 : Rat) < m := Rat.natCast_pos.2 h0
    have := Rat.mul_pos h3 (p2_pos p)
    rw [← h1] at this
    exact absurd this (by decide +kernel)
/-- The digits of a quotient. -/
theorem quot_digits {m n more : Nat} (hm : m ≠ 0) (hn : n ≠ 0) (hmore : more = 54 + n.log2 - m.log2) :
    2 ^ 53 * n ≤ m <<< more ∧ ((2 * ((m <<< more) / n) + ((m <<< more) % n != 0).toNat) * n ≤ 2 * (m <<< more) + n) ∧ (2 * (m <<< more) ≤ (2 * ((m <<< more) / n) + ((m <<< more) % n != 0).toNat) * n + n) := by
  have h1 : 2 ^ 53 * n ≤ m <<< more := by
    rw [Nat.shiftLeft_eq]
    have a1 := (log2_spec m hm).1
    have a2 := (log2_spec n hn).2
    have a3 : 2 ^ m.log2 * 2 ^ more ≤ m * 2 ^ more := Nat.mul_le_mul_right _ a1
    rw [← Nat.pow_add] at a3
    have a4 : 2 ^ (54 + n.log2) ≤ 2 ^ (m.log2 + more) := Nat.pow_le_pow_right (by decide) (by omega)
    have a5 : 2 ^ (54 + n.log2) = 2 ^ 53 * 2 ^ (n.log2 + 1) := by rw [← Nat.pow_add]; congr 1; omega
    have a6 : 2 ^ 53 * n ≤ 2 ^ 53 * 2 ^ (n.log2 + 1) := Nat.mul_le_mul_left _ (Nat.le_of_lt a2)
    omega
  refine ⟨h1, ?_⟩
  generalize m <<< more = d at *
  have hd := Nat.div_add_mod d n
  have hr := Nat.mod_lt d (Nat.pos_of_ne_zero hn)
  generalize d / n = q at *
  generalize d % n = r at *
  have e1 : (2 * q + (r != 0).toNat) * n = 2 * (n * q) + (r != 0).toNat * n := by rw [Nat.add_mul, Nat.mul_assoc, Nat.mul_comm q n]
  rw [e1]
  by_cases h0 : r = 0
  · subst h0; simp; omega
  · have : (r != 0) = true := by simpa using h0
    rw [this]; simp; omega
theorem fdiv_read {x y : Nat} (hx : fin x = true) (hy : fin y = true) (hy0 : val y ≠ 0) : ∃ c z b, fdiv x y = D64.write (.number c z b) ∧ (dat c z b * val y - val x).abs ≤ U * (val x).abs := by
  obtain ⟨s, m, i, hx⟩ := (fin_iff x).1 hx
  obtain ⟨t, n, j, hy⟩ := (fin_iff y).1 hy
  rw [val_of hy] at hy0 ⊢
  rw [val_of hx]
  have hn := dat_ne hy0
  refine ⟨s ^^ t, 2 * ((m <<< (54 + n.log2 - m.log2)) / n) + ((m <<< (54 + n.log2 - m.log2)) % n != 0).toNat, i - j - ((54 + n.log2 - m.log2 : Nat) : Int) - 1, ?_, ?_⟩
  · unfold fdiv Format.div; rw [hx, hy]; simp only [Datum.quotient, if_neg hn]; rfl
  by_cases hm : m = 0
  · subst hm
    have e0 : (0 : Nat) <<< (54 + n.log2 - Nat.log2 0) = 0 := by rw [Nat.shiftLeft_eq]; simp
    rw [e0]
    have e1 : 2 * (0 / n) + (0 % n != 0).toNat = 0 := by simp
    rw [e1, dat_zero, dat_zero]
    have : ((0 : Rat) * dat t n j - 0).abs = 0 := by rw [show (0 : Rat) * dat t n j - 0 = 0 by grind]; decide +kernel
    rw [this]
    have h2 : (0 : Rat).abs = 0 := by decide +kernel
    rw [h2]; grind
  obtain ⟨h1, h2, h3⟩ := quot_digits hm hn rfl
  generalize hmo : 54 + n.log2 - m.log2 = more at *
  generalize hq : 2 * (m <<< more / n) + (m <<< more % n != 0).toNat = Q at *
  have hd : m <<< more = m * 2 ^ more := Nat.shiftLeft_eq m more
  rw [hd] at h1 h2 h3
  -- in units of 2^(i - more - 1)
  have e1 : dat (s ^^ t) Q (i - j - more - 1) * dat t n j - dat s m i = sgn s * (((Q * n : Nat) : Rat) - ((2 * (m * 2 ^ more) : Nat) : Rat)) * p2 (i - more - 1) := by
    unfold dat
    rw [sgn_xor]
    have a1 : p2 (i - j - more - 1) * p2 j = p2 (i - more - 1) := by rw [← p2_add]; congr 1; omega
    have a2 : p2 i = 2 * ((2 ^ more : Nat) : Rat) * p2 (i - more - 1) := by
      rw [← p2_nat, ← p2_succ, ← p2_add]; congr 1; omega
    have a3 := sgn_sq t
    rw [a2]
    simp only [Rat.natCast_mul]
    have b1 : ((2 : Nat) : Rat) = 2 := rfl
    rw [b1]
    grind
  rw [e1]
  have h1' := Rat.natCast_le_natCast.2 h1
  have h2' := Rat.natCast_le_natCast.2 h2
  have h3' := Rat.natCast_le_natCast.2 h3
  have e2 : (dat s m i).abs = ((2 * (m * 2 ^ more) : Nat) : Rat) * p2 (i - more - 1) := by
    rw [dat_abs]
    have a2 : p2 i = 2 * ((2 ^ more : Nat) : Rat) * p2 (i - more - 1) := by
      rw [← p2_nat, ← p2_succ, ← p2_add]; congr 1; omega
    rw [a2]
    simp only [Rat.natCast_mul]
    have b1 : ((2 : Nat) : Rat) = 2 := rfl
    rw [b1]
    grind
  rw [e2]
  have hp := p2_pos (i - more - 1)
  rw [Rat.mul_assoc, abs_sgn_mul]
  have e3 : ((2 ^ 53 * n : Nat) : Rat) = p2 53 * (n : Rat) := by rw [Rat.natCast_mul, ← p2_nat]; rfl
  have e4 : p2 53 * U = 1 := by unfold U; exact p2_inv 53
  have hU := U_pos
  have c1 : ((n : Nat) : Rat) ≤ U * ((2 * (m * 2 ^ more) : Nat) : Rat) := by
    rw [e3] at h1'
    have := Rat.mul_le_mul_of_nonneg_left h1' (Rat.le_of_lt hU)
    have e5 : ((2 * (m * 2 ^ more) : Nat) : Rat) = 2 * ((m * 2 ^ more : Nat) : Rat) := by rw [Rat.natCast_mul]; rfl
    rw [e5]
    have p0 : 0 ≤ U * ((m * 2 ^ more : Nat) : Rat) := Rat.mul_nonneg (Rat.le_of_lt hU) Rat.natCast_nonneg
    have : U * (p2 53 * (n : Rat)) = n := by
      have : U * (p2 53 * (n : Rat)) = p2 53 * U * n := by grind
      rw [this, e4]; grind
    grind
  rw [Rat.natCast_add] at h2' h3'
  generalize ((2 * (m * 2 ^ more) : Nat) : Rat) = D at *
  generalize ((Q * n : Nat) : Rat) = R at *
  have k1 := Rat.mul_le_mul_of_nonneg_right (show R - D ≤ U * D by grind) (Rat.le_of_lt hp)
  have k2 := Rat.mul_le_mul_of_nonneg_right (show -(U * D) ≤ R - D by grind) (Rat.le_of_lt hp)
  exact abs_le_of (by grind) (by grind)
theorem abs_mul (x y : Rat) : (x * y).abs = x.abs * y.abs := by
  rcases Rat.le_total (a := 0) (b := x) with p | p <;> rcases Rat.le_total (a := 0) (b := y) with q | q
  · rw [Rat.abs_of_nonneg p, Rat.abs_of_nonneg q, Rat.abs_of_nonneg (Rat.mul_nonneg p q)]
  · rw [Rat.abs_of_nonneg p, Rat.abs_of_nonpos q, Rat.abs_of_nonpos (by have := Rat.mul_nonneg p (show 0 ≤ -y by grind); grind)]; grind
  · rw [Rat.abs_of_nonpos p, Rat.abs_of_nonneg q, Rat.abs_of_nonpos (by have := Rat.mul_nonneg (show 0 ≤ -x by grind) q; grind)]; grind
  · rw [Rat.abs_of_nonpos p, Rat.abs_of_nonpos q, Rat.abs_of_nonneg (by have := Rat.mul_nonneg (show 0 ≤ -x by grind) (show 0 ≤ -y by grind); grind)]; grind
/-- A QUOTIENT, TIMES WHAT DIVIDED. -/
theorem fdiv_err {x y : Nat} (hx : fin x = true) (hy : fin y = true) (hy0 : val y ≠ 0) (h : fin (fdiv x y) = true) : (val (fdiv x y) * val y - val x).abs ≤ 3 * U * (val x).abs + ETA * (val y).abs := by
  obtain ⟨c, z, b, h1, h2⟩ := fdiv_read hx hy hy0
  rw [h1] at h ⊢
  have h3 := write_err c z b h
  generalize val (D64.write (.number c z b)) = q at *
  generalize dat c z b = d at *
  generalize val x = X at *
  generalize val y = Y at *
  have a1 := abs_add_le ((q - d) * Y) (d * Y - X)
  rw [show (q - d) * Y + (d * Y - X) = q * Y - X by grind, abs_mul] at a1
  have y0 : 0 ≤ Y.abs := Rat.abs_nonneg
  have a2 := Rat.mul_le_mul_of_nonneg_right h3 y0
  have a3 := abs_add_le X (d * Y - X)
  rw [show X + (d * Y - X) = d * Y by grind, abs_mul] at a3
  have hU := U_pos
  have hU1 := U_le
  have x0 : 0 ≤ X.abs := Rat.abs_nonneg
  have a4 := Rat.mul_le_mul_of_nonneg_left a3 (Rat.le_of_lt hU)
  have a5 := Rat.mul_le_mul_of_nonneg_left h2 (Rat.le_of_lt hU)
  have ux : 0 ≤ U * X.abs := Rat.mul_nonneg (Rat.le_of_lt hU) x0
  have a6 := Rat.mul_le_mul_of_nonneg_right hU1 ux
  grind
/-- What a quotient that is finite was made of. -/
theorem fdiv_fin {x y : Nat} (h : fin (fdiv x y) = true) : fin x = true := by
  obtain ⟨s, m, p, ho⟩ := fin_getD h (fun d hd => quotient_notnan hd)
  refine (fin_iff _).2 ?_
  revert ho
  cases D64.read x <;> cases D64.read y <;> simp [Datum.quotient]
end Sedge
end
section
/-
  Plain: a triangular system solved misses little: one row.
-/
set_option linter.unusedSimpArgs false
set_option linter.unusedVariables false
namespace Sedge
open Ieee
theorem back_sum (S P : Nat → Rat) (n : Nat) (hn : n ≤ 16) (h : ∀ m, m < n → (S m - (S (m + 1) - P m)).abs ≤ U * (S (m + 1) - P m).abs) :
    ∀ m, m ≤ n → (S m - exS (S 0) P m).abs ≤ m * (17 / 16) * (U * exB (S 0) P m) := by
  have hU := U_pos
  have hU1 := U_tiny
  intro m
  induction m with
  | zero =>
    intro _
    have e : S 0 - exS (S 0) P 0 = 0 := by show S 0 - S 0 = 0; grind
    rw [e, show (0 : Rat).abs = 0 by decide +kernel, show ((0 : Nat) : Rat) = 0 from rfl]
    grind
  | succ m ih =>
    intro hm
    have h1 := ih (by omega)
    have h2 := h m (by omega)
    have hb := exB_nonneg (S 0) P m
    have hx := exS_le (S 0) P m
    have ej : ((m + 1 : Nat) : Rat) = (m : Rat) + 1 := by rw [Rat.natCast_add]; rfl
    have hm0 : (0 : Rat) ≤ m := Rat.natCast_nonneg
    have hm16 : (m : Rat) ≤ 16 := by
      have := Rat.natCast_le_natCast.2 (show m ≤ 16 by omega)
      simpa using this
    rw [ej]
    show (S (m + 1) - (exS (S 0) P m + P m)).abs ≤ ((m : Rat) + 1) * (17 / 16) * (U * (exB (S 0) P m + (P m).abs))
    generalize exB (S 0) P m = B at *
    generalize exS (S 0) P m = X at *
    generalize S (m + 1) = s' at *
    generalize S m = s at *
    generalize P m = p at *
    -- s' - p = s + d, |d| <= U |s' - p|
    have a1 := abs_add_le (s - (s' - p)) (s' - p - s + s)
    have a2 := abs_add_le (s' - p - s) s
    have a3 := abs_add_le (s - X) X
    have a4 := abs_add_le (s' - p - s) (s - X)
    rw [show s' - p - s + s = s' - p by grind] at a2
    rw [show s - X + X = s by grind] at a3
    rw [show s' - p - s + (s - X) = s' - (X + p) by grind] at a4
    rw [abs_sub_comm s (s' - p)] at h2
    clear a1
    have n1 : 0 ≤ p.abs := Rat.abs_nonneg
    have n2 : 0 ≤ (s' - p).abs := Rat.abs_nonneg
    generalize (s' - p - s).abs = d at *
    generalize (s' - p).abs = q at *
    generalize (s - X).abs = e at *
    generalize (s' - (X + p)).abs = G at *
    generalize s.abs = sa at *
    generalize X.abs = xa at *
    generalize p.abs = pa at *
    -- d <= U q ; q <= d + sa ; sa <= e + xa ; xa <= B ; e <= m k U B ; G <= d + e
    have u1 : 0 ≤ U * B := Rat.mul_nonneg (Rat.le_of_lt hU) hb
    have u2 : 0 ≤ U * pa := Rat.mul_nonneg (Rat.le_of_lt hU) n1
    have j5 : 0 ≤ (m : Rat) * (U * B) := Rat.mul_nonneg hm0 u1
    have j6 : 0 ≤ (m : Rat) * (U * pa) := Rat.mul_nonneg hm0 u2
    have j1 : (m : Rat) * (U * B) ≤ 16 * (U * B) := Rat.mul_le_mul_of_nonneg_right hm16 u1
    have k1 : e ≤ 17 * (U * B) := by grind
    have t1 : 1048576 * (U * B) ≤ B := by have := Rat.mul_le_mul_of_nonneg_right hU1 hb; grind
    have k2 : sa ≤ B + B / 1024 := by grind
    have t2 : 1048576 * (U * q) ≤ q := by have := Rat.mul_le_mul_of_nonneg_right hU1 n2; grind
    have k3 : q ≤ B + B / 256 := by grind
    have k4 : U * q ≤ U * (B + B / 256) := Rat.mul_le_mul_of_nonneg_left k3 (Rat.le_of_lt hU)
    have k5 : U * (B + B / 256) = U * B + U * B / 256 := by grind
    rw [show ((m : Rat) + 1) * (17 / 16) * (U * (B + pa)) = 17 / 16 * (m * (U * B)) + 17 / 16 * (m * (U * pa)) + 17 / 16 * (U * B) + 17 / 16 * (U * pa) by grind]
    rw [show (m : Rat) * (17 / 16) * (U * B) = 17 / 16 * (m * (U * B)) by grind] at h1
    grind
/-- The sums of close terms are close. -/
theorem ex_close (d s : Rat) (P Q : Nat → Rat) : ∀ n, (∀ m, m < n → (P m - Q m).abs ≤ U * (Q m).abs + ETA) → (exS s P n - exS d Q n).abs ≤ (s - d).abs + U * (exB d Q n - d.abs) + n * ETA ∧ exB s P n ≤ exB d Q n + (s - d).abs + U * (exB d Q n - d.abs) + n * ETA
  | 0, _ => by
    show (s - d).abs ≤ (s - d).abs + U * (d.abs - d.abs) + ((0 : Nat) : Rat) * ETA ∧ s.abs ≤ d.abs + (s - d).abs + U * (d.abs - d.abs) + ((0 : Nat) : Rat) * ETA
    have := abs_add_le (s - d) d
    rw [show s - d + d = s by grind] at this
    rw [show ((0 : Nat) : Rat) = 0 from rfl]
    grind
  | n + 1, h => by
    obtain ⟨h1, h2⟩ := ex_close d s P Q n (fun m hm => h m (by omega))
    have h3 := h n (by omega)
    have ej : ((n + 1 : Nat) : Rat) = (n : Rat) + 1 := by rw [Rat.natCast_add]; rfl
    rw [ej]
    show (exS s P n + P n - (exS d Q n + Q n)).abs ≤ (s - d).abs + U * (exB d Q n + (Q n).abs - d.abs) + (n + 1) * ETA ∧ exB s P n + (P n).abs ≤ exB d Q n + (Q n).abs + (s - d).abs + U * (exB d Q n + (Q n).abs - d.abs) + (n + 1) * ETA
    have a1 := abs_add_le (exS s P n - exS d Q n) (P n - Q n)
    have a2 := abs_add_le (P n - Q n) (Q n)
    rw [show exS s P n - exS d Q n + (P n - Q n) = exS s P n + P n - (exS d Q n + Q n) by grind] at a1
    rw [show P n - Q n + Q n = P n by grind] at a2
    constructor <;> grind
theorem exB_ge (d : Rat) (Q : Nat → Rat) : ∀ n, d.abs ≤ exB d Q n
  | 0 => Rat.le_refl
  | n + 1 => by
    have h1 := exB_ge d Q n
    have h2 : 0 ≤ (Q n).abs := Rat.abs_nonneg
    show d.abs ≤ exB d Q n + (Q n).abs
    grind
/-- A ROW OF A TRIANGULAR SYSTEM. -/
theorem tri_row {S P Q : Nat → Rat} {T : Nat} {D dd : Rat} (hT : T ≤ 9) (hdd : 0 ≤ dd) (hS : ∀ m, m < T → (S m - (S (m + 1) - P m)).abs ≤ U * (S (m + 1) - P m).abs) (hP : ∀ m, m < T → (P m - Q m).abs ≤ U * (Q m).abs + ETA)
    (hD : (D - S 0).abs ≤ 3 * U * (S 0).abs + ETA * dd) : (S T - exS D Q T).abs ≤ (exB D Q T * p2 (-51) + (1 + dd) * p2 (-1060)) * ((T : Rat) + 2) := by
  have hU := U_pos
  have hU1 := U_tiny
  have hE := ETA_pos
  have h1 := back_sum S P T (by omega) hS T (Nat.le_refl T)
  obtain ⟨h2, h3⟩ := ex_close D (S 0) P Q T hP
  have hB := exB_nonneg D Q T
  have hge := exB_ge D Q T
  have hBp := exB_nonneg (S 0) P T
  have e1 : p2 (-51) = 4 * U := by unfold U; rw [show (-51 : Int) = -53 + 1 + 1 by rfl, p2_succ, p2_succ]; grind
  have e2 : p2 (-1060) = 32768 * ETA := by
    unfold ETA; rw [show (-1060 : Int) = -1075 + 1 + 1 + 1 + 1 + 1 + 1 + 1 + 1 + 1 + 1 + 1 + 1 + 1 + 1 + 1 by rfl]; simp only [p2_succ]; grind
  rw [e1, e2]
  have hT0 : (0 : Rat) ≤ T := Rat.natCast_nonneg
  have hT9 : (T : Rat) ≤ 9 := by
    have := Rat.natCast_le_natCast.2 hT
    simpa using this
  have a1 := abs_add_le (S T - exS (S 0) P T) (exS (S 0) P T - exS D Q T)
  rw [show S T - exS (S 0) P T + (exS (S 0) P T - exS D Q T) = S T - exS D Q T by grind] at a1
  have a2 := abs_add_le (S 0 - D) D
  rw [show S 0 - D + D = S 0 by grind] at a2
  rw [abs_sub_comm D (S 0)] at hD
  have nD : 0 ≤ D.abs := Rat.abs_nonneg
  have nS : 0 ≤ (S 0).abs := Rat.abs_nonneg
  generalize exB (S 0) P T = BP at *
  generalize exB D Q T = B at *
  generalize (S T - exS (S 0) P T).abs = f1 at *
  generalize (exS (S 0) P T - exS D Q T).abs = f2 at *
  generalize (S T - exS D Q T).abs = G at *
  generalize (S 0 - D).abs = r at *
  generalize (S 0).abs = s0 at *
  generalize D.abs = da at *
  generalize (T : Rat) = t at *
  clear hS hP e1 e2
  have x1 : 0 ≤ ETA * dd := Rat.mul_nonneg (Rat.le_of_lt hE) hdd
  have x2 : 1048576 * (U * s0) ≤ s0 := by have := Rat.mul_le_mul_of_nonneg_right hU1 nS; grind
  have x3 : s0 ≤ da + da / 1024 + 2 * (ETA * dd) := by grind
  have x4 : U * s0 ≤ U * (da + da / 1024 + 2 * (ETA * dd)) := Rat.mul_le_mul_of_nonneg_left x3 (Rat.le_of_lt hU)
  have x5 : 1048576 * (U * (ETA * dd)) ≤ ETA * dd := by have := Rat.mul_le_mul_of_nonneg_right hU1 x1; grind
  have x6 : 0 ≤ U * (B - da) := Rat.mul_nonneg (Rat.le_of_lt hU) (by grind)
  have x7 : 0 ≤ U * da := Rat.mul_nonneg (Rat.le_of_lt hU) nD
  have x8 : U * (da + da / 1024 + 2 * (ETA * dd)) = U * da + U * da / 1024 + 2 * (U * (ETA * dd)) := by grind
  have y1 : r ≤ 7 / 2 * (U * da) + 2 * (ETA * dd) := by grind
  have tE : t * ETA ≤ 9 * ETA := Rat.mul_le_mul_of_nonneg_right hT9 (Rat.le_of_lt hE)
  have t0 : 0 ≤ t * ETA := Rat.mul_nonneg hT0 (Rat.le_of_lt hE)
  have x9 : 1048576 * (U * (B - da)) ≤ B - da := by have := Rat.mul_le_mul_of_nonneg_right hU1 (show 0 ≤ B - da by grind); grind
  have x10 : 1048576 * (U * da) ≤ da := by have := Rat.mul_le_mul_of_nonneg_right hU1 nD; grind
  have y2 : BP ≤ B + B / 1024 + 2 * (ETA * dd) + 9 * ETA := by grind
  have z1 : U * BP ≤ U * (B + B / 1024 + 2 * (ETA * dd) + 9 * ETA) := Rat.mul_le_mul_of_nonneg_left y2 (Rat.le_of_lt hU)
  have z2 : U * (B + B / 1024 + 2 * (ETA * dd) + 9 * ETA) = U * B + U * B / 1024 + 2 * (U * (ETA * dd)) + 9 * (U * ETA) := by grind
  have z3 : 1048576 * (U * ETA) ≤ ETA := by have := Rat.mul_le_mul_of_nonneg_right hU1 (Rat.le_of_lt hE); grind
  have y3 : U * BP ≤ U * B + U * B / 1024 + ETA * dd / 1024 + ETA / 1024 := by grind
  have y4 : t * (U * BP) ≤ t * (U * B + U * B / 1024 + ETA * dd / 1024 + ETA / 1024) := Rat.mul_le_mul_of_nonneg_left y3 hT0
  have uB : 0 ≤ U * B := Rat.mul_nonneg (Rat.le_of_lt hU) hB
  have w1 : 0 ≤ t * (U * B) := Rat.mul_nonneg hT0 uB
  have w2 : 0 ≤ t * (ETA * dd) := Rat.mul_nonneg hT0 x1
  have w3 : t * (U * B + U * B / 1024 + ETA * dd / 1024 + ETA / 1024) = t * (U * B) + t * (U * B) / 1024 + t * (ETA * dd) / 1024 + t * ETA / 1024 := by grind
  have w4 : t * (17 / 16) * (U * BP) = 17 / 16 * (t * (U * BP)) := by grind
  have w5 : U * (B - da) = U * B - U * da := by grind
  have w6 : (B * (4 * U) + (1 + dd) * (32768 * ETA)) * (t + 2) = 4 * (t * (U * B)) + 8 * (U * B) + 32768 * (t * ETA) + 65536 * ETA + 32768 * (t * (ETA * dd)) + 65536 * (ETA * dd) := by grind
  rw [w6]
  have v1 : f1 ≤ 17 / 16 * (t * (U * BP)) := by rw [← w4]; exact h1
  rw [w3] at y4
  rw [w5] at h2
  have v2 : U * da ≤ U * B := Rat.mul_le_mul_of_nonneg_left hge (Rat.le_of_lt hU)
  generalize U * BP = UBP at *
  generalize t * UBP = tUBP at *
  generalize U * B = UB at *
  generalize U * da = Uda at *
  generalize t * UB = tUB at *
  generalize t * ETA = tE' at *
  generalize ETA * dd = Ed at *
  generalize t * Ed = tEd at *
  clear w6 w5 w4 w3 z1 z2 z3 x8 x4 x5 x2 x3 x6 x9 x10 h3 hU1 hU hD y2 y3 a2 hT9 hT0
  grind
end Sedge
end
section
/-
  Plain: what a triangular system comes to, row by row; it misses little.
-/
set_option linter.unusedSimpArgs false
set_option linter.unusedVariables false
namespace Sedge
open Ieee
section
variable {M : Nat → Nat → Nat} {n : Nat} {s : Nat → Nat}
theorem rowIn3_ne {i r : Nat} (h : r ≠ i) : ∀ t, rowIn3 M s i t r = s r
  | 0 => rfl
  | t + 1 => by unfold rowIn3; rw [lessF_ne h, rowIn3_ne h t]
theorem rowAll3_ge {r : Nat} (hr : r < n) : ∀ k, k ≤ n - 1 - r → rowAll3 M n s k r = s r
  | 0, _ => rfl
  | k + 1, h => by unfold rowAll3; rw [rowIn3_ne (by omega), rowAll3_ge hr k (by omega)]
theorem rowAll3_gt {r : Nat} (hr : r < n) : ∀ k, n - 1 - r < k → k ≤ n → rowAll3 M n s k r = rowAll3 M n s (n - 1 - r + 1) r
  | 0, h, _ => absurd h (by omega)
  | k + 1, h, hk => by
    by_cases e : k = n - 1 - r
    · subst e; rfl
    · show rowIn3 M (rowAll3 M n s k) (n - 1 - k) k r = _
      rw [rowIn3_ne (by omega), rowAll3_gt hr k (by omega) (by omega)]
def gRow3 (M : Nat → Nat → Nat) (n : Nat) (s : Nat → Nat) (r t : Nat) : Nat := rowIn3 M (rowAll3 M n s (n - 1 - r)) r t r
theorem gRow3_zero {r : Nat} (hr : r < n) : gRow3 M n s r 0 = s r := rowAll3_ge hr _ (Nat.le_refl _)
theorem rowAll3_f {r k : Nat} (hr : r < n) (h : n - 1 - r < k) (hk : k ≤ n) : rowAll3 M n s k r = gRow3 M n s r (n - 1 - r) := by
  rw [rowAll3_gt hr k h hk]
  show rowIn3 M (rowAll3 M n s (n - 1 - r)) (n - 1 - (n - 1 - r)) (n - 1 - r) r = _
  rw [show n - 1 - (n - 1 - r) = r by omega]; rfl
theorem gRow3_succ {r t : Nat} (hr : r < n) (h : t < n - 1 - r) : gRow3 M n s r (t + 1) = fsub (gRow3 M n s r t) (fmul (M (r + 1 + t) r) (rowAll3 M n s n (r + 1 + t))) := by
  show lessF (rowIn3 M (rowAll3 M n s (n - 1 - r)) r t) r (r + 1 + t) (M (r + 1 + t) r) r = _
  rw [lessF_eq, rowIn3_ne (by omega : r + 1 + t ≠ r), rowAll3_f (by omega) (by omega) (by omega), rowAll3_f (r := r + 1 + t) (k := n) (by omega) (by omega) (by omega)]
  rfl
theorem rowIn4_ne {i r : Nat} (h : r ≠ i) : ∀ t, rowIn4 M s i t r = s r
  | 0 => rfl
  | t + 1 => by unfold rowIn4; rw [lessF_ne h, rowIn4_ne h t]
theorem rowAll4_ge {r : Nat} : ∀ k, k ≤ r → rowAll4 M s k r = s r
  | 0, _ => rfl
  | k + 1, h => by unfold rowAll4; rw [divF_ne (by omega), rowIn4_ne (by omega), rowAll4_ge k (by omega)]
theorem rowAll4_gt {r : Nat} : ∀ k, r < k → rowAll4 M s k r = rowAll4 M s (r + 1) r
  | 0, h => absurd h (by omega)
  | k + 1, h => by
    by_cases e : r = k
    · subst e; rfl
    · show divF (rowIn4 M (rowAll4 M s k) k k) k (M k k) r = _
      rw [divF_ne e, rowIn4_ne e, rowAll4_gt k (by omega)]
def gRow4 (M : Nat → Nat → Nat) (s : Nat → Nat) (r t : Nat) : Nat := rowIn4 M (rowAll4 M s r) r t r
theorem gRow4_zero {r : Nat} : gRow4 M s r 0 = s r := rowAll4_ge r (Nat.le_refl r)
theorem rowAll4_f {r k : Nat} (h : r < k) : rowAll4 M s k r = fdiv (gRow4 M s r r) (M r r) := by
  rw [rowAll4_gt k h]
  show divF (rowIn4 M (rowAll4 M s r) r r) r (M r r) r = _
  rw [divF_eq]; rfl
theorem gRow4_succ {r t : Nat} (hr : r < n) (h : t < r) : gRow4 M s r (t + 1) = fsub (gRow4 M s r t) (fmul (M t r) (rowAll4 M s n t)) := by
  show lessF (rowIn4 M (rowAll4 M s r) r t) r t (M t r) r = _
  rw [lessF_eq, rowIn4_ne (by omega : t ≠ r), rowAll4_f h, rowAll4_f (r := t) (k := n) (by omega)]
  rfl
end
/-- A row of a system: what its number comes from. -/
structure RowOf (a x : Nat → Nat) (b d xi : Nat) (dv : Bool) (T : Nat) (J : Nat → Nat) (s : Nat → Nat) : Prop where
  zero : s 0 = b
  succ : ∀ t, t < T → s (t + 1) = fsub (s t) (fmul (a (J t)) (x (J t)))
  last : xi = if dv then fdiv (s T) d else s T
theorem row1 (M : Nat → Nat → Nat) (n : Nat) (s : Nat → Nat) {i : Nat} (hi : i < n) : ∃ g, RowOf (fun j => M i j) (rowAll M s n) (s i) 0 (rowAll M s n i) false i (fun t => t) g :=
  ⟨gRow M s i, gRow_zero, fun t ht => by rw [gRow_succ ht, rowAll_g (by omega)], by rw [rowAll_g hi]; rfl⟩
theorem row2 (M : Nat → Nat → Nat) (n : Nat) (s : Nat → Nat) {i : Nat} (hi : i < n) : ∃ g, RowOf (fun j => M i j) (rowAll2 M n s n) (s i) (M i i) (rowAll2 M n s n i) true (n - 1 - i) (fun t => n - 1 - t) g :=
  ⟨gRow2 M n s i, gRow2_zero hi, fun t ht => by rw [gRow2_succ hi ht, rowAll2_f (r := n - 1 - t) (k := n) (by omega) (by omega) (Nat.le_refl n)], by rw [rowAll2_f hi (by omega) (Nat.le_refl n)]; rfl⟩
theorem row3 (M : Nat → Nat → Nat) (n : Nat) (s : Nat → Nat) {i : Nat} (hi : i < n) : ∃ g, RowOf (fun j => M j i) (rowAll3 M n s n) (s i) 0 (rowAll3 M n s n i) false (n - 1 - i) (fun t => i + 1 + t) g :=
  ⟨gRow3 M n s i, gRow3_zero hi, fun t ht => by rw [gRow3_succ hi ht], by rw [rowAll3_f hi (by omega) (Nat.le_refl n)]; rfl⟩
theorem row4 (M : Nat → Nat → Nat) (n : Nat) (s : Nat → Nat) {i : Nat} (hi : i < n) : ∃ g, RowOf (fun j => M j i) (rowAll4 M s n) (s i) (M i i) (rowAll4 M s n i) true i (fun t => t) g :=
  ⟨gRow4 M s i, gRow4_zero, fun t ht => by rw [gRow4_succ hi ht], by rw [rowAll4_f hi]; rfl⟩
/-- Its error. -/
theorem row_err {a x : Nat → Nat} {b d xi : Nat} {dv : Bool} {T : Nat} {J s : Nat → Nat} (H : RowOf a x b d xi dv T J s) (hT : T ≤ 9) (hb : b < 2 ^ 64) (hf : fin xi = true) (hd : dv = true → fin d = true ∧ val d ≠ 0) :
    (val b - exS ((if dv then val d else 1) * val xi) (fun m => val (a (J (T - 1 - m))) * val (x (J (T - 1 - m)))) T).abs ≤ (exB ((if dv then val d else 1) * val xi) (fun m => val (a (J (T - 1 - m))) * val (x (J (T - 1 - m)))) T * p2 (-51) + (1 + (if dv then val d else 1).abs) * p2 (-1060)) * ((T : Rat) + 2) := by
  have fT : fin (s T) = true := by
    have h := H.last
    cases dv with
    | true => rw [if_pos rfl] at h; rw [h] at hf; exact fdiv_fin hf
    | false => rw [if_neg (by decide)] at h; rw [h] at hf; exact hf
  have kS := row_fin (op := fsub) (P := fun t => fmul (a (J t)) (x (J t))) (fun _ _ => fsub_fin) H.succ fT
  have hl : ∀ t, t ≤ T → s t < 2 ^ 64 := fun t ht => by
    cases t with
    | zero => rw [H.zero]; exact hb
    | succ t => rw [H.succ t (by omega)]; exact fsub_lt _ _
  have h := tri_row (S := fun m => val (s (T - m))) (P := fun m => val (fmul (a (J (T - 1 - m))) (x (J (T - 1 - m))))) (Q := fun m => val (a (J (T - 1 - m))) * val (x (J (T - 1 - m)))) (D := (if dv then val d else 1) * val xi) (dd := (if dv then val d else 1).abs) hT Rat.abs_nonneg
    (fun m hm => by
      have e1 := H.succ (T - 1 - m) (by omega)
      rw [show T - 1 - m + 1 = T - m by omega] at e1
      have f1 := (kS (T - m) (by omega)).1
      have := fsub_err' (hl (T - 1 - m) (by omega)) (fmul_lt (a (J (T - 1 - m))) (x (J (T - 1 - m)))) (by rw [← e1]; exact f1)
      rw [← e1] at this
      show (val (s (T - m)) - (val (s (T - (m + 1))) - _)).abs ≤ U * (val (s (T - (m + 1))) - _).abs
      rw [show T - (m + 1) = T - 1 - m by omega]
      exact this)
    (fun m hm => fmul_err ((kS (T - 1 - m) (by omega)).2 (by omega)))
    (by
      show (_ - val (s (T - 0))).abs ≤ 3 * U * (val (s (T - 0))).abs + _
      rw [Nat.sub_zero]
      have hL := H.last
      cases dv with
      | true =>
        rw [if_pos rfl] at hL
        simp only [if_true]
        obtain ⟨d1, d2⟩ := hd rfl
        have := fdiv_err fT d1 d2 (by rw [← hL]; exact hf)
        rw [← hL, show val xi * val d = val d * val xi by grind] at this
        exact this
      | false =>
        rw [if_neg (by decide)] at hL
        simp only [Bool.false_eq_true, if_false]
        rw [hL, show 1 * val (s T) - val (s T) = 0 by grind, show (0 : Rat).abs = 0 by decide +kernel, show (1 : Rat).abs = 1 by decide +kernel]
        have h1 := U_pos
        have h2 := ETA_pos
        have h3 : 0 ≤ (val (s T)).abs := Rat.abs_nonneg
        have h4 := Rat.mul_nonneg (Rat.le_of_lt h1) h3
        grind)
  rw [show T - T = 0 by omega, H.zero] at h
  exact h
end Sedge
end
section
/-
  Plain: a triangular system solved, put in again, misses little (TrsvBackward).
-/
set_option linter.unusedSimpArgs false
set_option linter.unusedVariables false
namespace Sedge
open Ieee
def sumR (f : Nat → Rat) : Nat → Rat
  | 0 => 0
  | n + 1 => sumR f n + f n
theorem sumR_congr {f g : Nat → Rat} : ∀ n, (∀ m, m < n → f m = g m) → sumR f n = sumR g n
  | 0, _ => rfl
  | n + 1, h => by
    show sumR f n + f n = sumR g n + g n
    rw [sumR_congr n (fun m hm => h m (by omega)), h n (by omega)]
theorem sumR_shift (f : Nat → Rat) : ∀ n, sumR f (n + 1) = f 0 + sumR (fun m => f (m + 1)) n
  | 0 => by show 0 + f 0 = f 0 + 0; grind
  | n + 1 => by
    show sumR f (n + 1) + f (n + 1) = f 0 + (sumR (fun m => f (m + 1)) n + f (n + 1))
    rw [sumR_shift f n]; grind
theorem sumR_rev : ∀ (n : Nat) (f : Nat → Rat), sumR (fun m => f (n - 1 - m)) n = sumR f n
  | 0, _ => rfl
  | n + 1, f => by
    rw [sumR_shift f n, ← sumR_rev n (fun m => f (m + 1))]
    show sumR (fun m => f (n + 1 - 1 - m)) n + f (n + 1 - 1 - n) = _
    rw [show n + 1 - 1 - n = 0 by omega, sumR_congr n (g := fun m => f (n - 1 - m + 1)) (fun m hm => by show f _ = f _; rw [show n + 1 - 1 - m = n - 1 - m + 1 by omega])]
    grind
theorem exS_sum (s : Rat) (f : Nat → Rat) : ∀ n, exS s f n = s + sumR f n
  | 0 => by show s = s + 0; grind
  | n + 1 => by show exS s f n + f n = s + (sumR f n + f n); rw [exS_sum s f n]; grind
theorem exB_sum (s : Rat) (f : Nat → Rat) : ∀ n, exB s f n = s.abs + sumR (fun m => (f m).abs) n
  | 0 => by show s.abs = s.abs + 0; grind
  | n + 1 => by show exB s f n + (f n).abs = s.abs + (sumR (fun m => (f m).abs) n + (f n).abs); rw [exB_sum s f n]; grind
theorem sumR_zero {f : Nat → Rat} : ∀ n, (∀ m, m < n → f m = 0) → sumR f n = 0
  | 0, _ => rfl
  | n + 1, h => by show sumR f n + f n = 0; rw [sumR_zero n (fun m hm => h m (by omega)), h n (by omega)]; grind
theorem sumR_split (f : Nat → Rat) (a : Nat) : ∀ b, sumR f (a + b) = sumR f a + sumR (fun m => f (a + m)) b
  | 0 => by show sumR f a = sumR f a + 0; grind
  | b + 1 => by
    show sumR f (a + b) + f (a + b) = sumR f a + (sumR (fun m => f (a + m)) b + f (a + b))
    rw [sumR_split f a b]; grind
theorem sum_low {c : Nat → Rat} {i n : Nat} (hi : i < n) (h : ∀ j, i < j → j < n → c j = 0) : sumR c n = c i + sumR (fun m => c (i - 1 - m)) i := by
  rw [sumR_rev i c]
  rw [show n = (i + 1) + (n - (i + 1)) by omega, sumR_split c (i + 1), sumR_zero (f := fun m => c (i + 1 + m)) _ (fun m hm => h _ (by omega) (by omega))]
  show sumR c i + c i + 0 = _
  grind
theorem sum_high {c : Nat → Rat} {i n : Nat} (hi : i < n) (h : ∀ j, j < i → c j = 0) : sumR c n = c i + sumR (fun m => c (i + 1 + m)) (n - 1 - i) := by
  rw [show n = i + ((n - 1 - i) + 1) by omega, sumR_split c i, sumR_zero (f := c) i h, sumR_shift]
  rw [show i + (n - 1 - i + 1) - 1 - i = n - 1 - i by omega, Nat.add_zero, sumR_congr (f := fun m => c (i + (m + 1))) (g := fun m => c (i + 1 + m)) _ (fun m _ => by show c _ = c _; rw [show i + (m + 1) = i + 1 + m by omega])]
  grind
theorem sum_high' {c : Nat → Rat} {i n : Nat} (hi : i < n) (h : ∀ j, j < i → c j = 0) : sumR c n = c i + sumR (fun m => c (n - 1 - m)) (n - 1 - i) := by
  rw [sum_high hi h, ← sumR_rev (n - 1 - i) (fun m => c (i + 1 + m))]
  rw [sumR_congr (f := fun m => c (i + 1 + (n - 1 - i - 1 - m))) (g := fun m => c (n - 1 - m)) _ (fun m hm => by show c _ = c _; rw [show i + 1 + (n - 1 - i - 1 - m) = n - 1 - m by omega])]
/-- The triangular matrix of a kind (straightedgeref09.Part). -/
def pI (k i j : Nat) : Nat := if k = 3 ∨ k = 4 then j else i
def pJ (k i j : Nat) : Nat := if k = 3 ∨ k = 4 then i else j
def partV (k : Nat) (M : Nat → Nat → Nat) (i j : Nat) : Nat := if (k = 1 ∨ k = 3) ∧ i = j then 4607182418800017408 else M (pI k i j) (pJ k i j)
def partO (k i j : Nat) : Bool := if k = 1 ∨ k = 3 then decide (pJ k i j ≤ pI k i j) else decide (pI k i j ≤ pJ k i j)
def trC (k : Nat) (M : Nat → Nat → Nat) (x : Nat → Nat) (i j : Nat) : Rat := if partO k i j = true then val (partV k M i j) * val (x j) else 0
/-- From the row's own order to the order of the columns. -/
theorem tri_end {c Q : Nat → Rat} {b D dd : Rat} {i n T : Nat} (hn : T + 1 ≤ n) (hD : c i = D) (h1 : sumR c n = c i + sumR Q T) (h2 : sumR (fun j => (c j).abs) n = (c i).abs + sumR (fun m => (Q m).abs) T) (hdd : 0 ≤ dd)
    (h : (b - exS D Q T).abs ≤ (exB D Q T * p2 (-51) + (1 + dd) * p2 (-1060)) * ((T : Rat) + 2)) : (exS (-b) c n).abs ≤ (exB 0 c n * p2 (-51) + (1 + dd) * p2 (-1060)) * ((n + 1 : Nat) : Rat) := by
  have e1 : exS (-b) c n = -(b - exS D Q T) := by rw [exS_sum, exS_sum, h1, hD]; grind
  have e2 : exB 0 c n = exB D Q T := by rw [exB_sum, exB_sum, h2, hD, show (0 : Rat).abs = 0 by decide +kernel]; grind
  rw [e1, Rat.abs_neg, e2]
  refine Rat.le_trans h (Rat.mul_le_mul_of_nonneg_left ?_ ?_)
  · have := Rat.natCast_le_natCast.2 hn
    have e3 : ((T + 1 : Nat) : Rat) = (T : Rat) + 1 := by rw [Rat.natCast_add]; rfl
    have e4 : ((n + 1 : Nat) : Rat) = (n : Rat) + 1 := by rw [Rat.natCast_add]; rfl
    rw [e3] at this
    rw [e4]
    grind
  · have a1 := Rat.mul_nonneg (exB_nonneg D Q T) (Rat.le_of_lt (p2_pos (-51)))
    have a2 := Rat.mul_nonneg (show 0 ≤ 1 + dd by grind) (Rat.le_of_lt (p2_pos (-1060)))
    grind
theorem tri_law {k n : Nat} {M : Nat → Nat → Nat} {s x : Nat → Nat} (hn : n ≤ 10) (hk : 1 ≤ k ∧ k ≤ 4) (hx : x = solveF M n k s) (hs : ∀ i, s i < 2 ^ 64) (hf : ∀ i, i < n → fin (x i) = true) (hM : ∀ i, i < n → fin (M i i) = true)
    (hz : k = 2 ∨ k = 4 → ∀ i, i < n → val (M i i) ≠ 0) {i : Nat} (hi : i < n) :
    (exS (-(val (s i))) (trC k M x i) n).abs ≤ (exB 0 (trC k M x i) n * p2 (-51) + (1 + (val (partV k M i i)).abs) * p2 (-1060)) * ((n + 1 : Nat) : Rat) := by
  have hxi := hf i hi
  obtain rfl | rfl | rfl | rfl : k = 1 ∨ k = 2 ∨ k = 3 ∨ k = 4 := by omega
  · have ex : x = rowAll M s n := by rw [hx]; unfold solveF; simp
    obtain ⟨g, hg⟩ := row1 M n s hi
    rw [← ex] at hg
    have he := row_err hg (by omega) (hs i) hxi (fun h => by cases h)
    simp only [Bool.false_eq_true, if_false] at he
    have ev : partV 1 M i i = 4607182418800017408 := by simp [partV]
    rw [ev, val_one]
    have c0 : ∀ j, i < j → j < n → trC 1 M x i j = 0 := fun j h1 _ => by unfold trC partO pI pJ; simp; omega
    have ci : trC 1 M x i i = 1 * val (x i) := by unfold trC; rw [ev, val_one]; simp [partO, pI, pJ]
    have cj : ∀ m, m < i → trC 1 M x i (i - 1 - m) = val (M i (i - 1 - m)) * val (x (i - 1 - m)) := fun m hm => by
      have q : i ≠ i - 1 - m := by omega
      have q2 : i - 1 - m ≤ i := by omega
      unfold trC partO partV pI pJ; simp [q, q2]
    refine tri_end (c := trC 1 M x i) (Q := fun m => val (M i (i - 1 - m)) * val (x (i - 1 - m))) (T := i) (by omega) ci ?_ ?_ Rat.abs_nonneg he
    · rw [sum_low hi c0, sumR_congr _ cj]
    · rw [sum_low hi (fun j h1 h2 => by rw [c0 j h1 h2]; rfl), sumR_congr _ (fun m hm => by rw [cj m hm])]
  · have ex : x = rowAll2 M n s n := by rw [hx]; unfold solveF; simp
    obtain ⟨g, hg⟩ := row2 M n s hi
    rw [← ex] at hg
    have he := row_err hg (by omega) (hs i) hxi (fun h => ⟨hM i hi, hz (.inl rfl) i hi⟩)
    simp only [if_true] at he
    have ev : partV 2 M i i = M i i := by simp [partV, pI, pJ]
    rw [ev]
    have c0 : ∀ j, j < i → trC 2 M x i j = 0 := fun j h1 => by unfold trC partO pI pJ; simp; omega
    have ci : trC 2 M x i i = val (M i i) * val (x i) := by unfold trC; rw [ev]; simp [partO, pI, pJ]
    have cj : ∀ m, m < n - 1 - i → trC 2 M x i (i + 1 + m) = val (M i (n - 1 - (n - 1 - i - 1 - m))) * val (x (n - 1 - (n - 1 - i - 1 - m))) := fun m hm => by
      rw [show n - 1 - (n - 1 - i - 1 - m) = i + 1 + m by omega]
      unfold trC partO partV pI pJ; simp; omega
    refine tri_end (c := trC 2 M x i) (T := n - 1 - i) (by omega) ci ?_ ?_ Rat.abs_nonneg he
    · rw [sum_high hi c0, sumR_congr _ cj]
    · rw [sum_high hi (fun j h1 => by rw [c0 j h1]; rfl), sumR_congr _ (fun m hm => by rw [cj m hm])]
  · have ex : x = rowAll3 M n s n := by rw [hx]; unfold solveF; simp
    obtain ⟨g, hg⟩ := row3 M n s hi
    rw [← ex] at hg
    have he := row_err hg (by omega) (hs i) hxi (fun h => by cases h)
    simp only [Bool.false_eq_true, if_false] at he
    have ev : partV 3 M i i = 4607182418800017408 := by simp [partV]
    rw [ev, val_one]
    have c0 : ∀ j, j < i → trC 3 M x i j = 0 := fun j h1 => by unfold trC partO pI pJ; simp; omega
    have ci : trC 3 M x i i = 1 * val (x i) := by unfold trC; rw [ev, val_one]; simp [partO, pI, pJ]
    have cj : ∀ m, m < n - 1 - i → trC 3 M x i (n - 1 - m) = val (M (i + 1 + (n - 1 - i - 1 - m)) i) * val (x (i + 1 + (n - 1 - i - 1 - m))) := fun m hm => by
      rw [show i + 1 + (n - 1 - i - 1 - m) = n - 1 - m by omega]
      have q : i ≠ n - 1 - m := by omega
      have q2 : i ≤ n - 1 - m := by omega
      unfold trC partO partV pI pJ; simp [q, q2]
    refine tri_end (c := trC 3 M x i) (T := n - 1 - i) (by omega) ci ?_ ?_ Rat.abs_nonneg he
    · rw [sum_high' hi c0, sumR_congr _ cj]
    · rw [sum_high' hi (fun j h1 => by rw [c0 j h1]; rfl), sumR_congr _ (fun m hm => by rw [cj m hm])]
  · have ex : x = rowAll4 M s n := by rw [hx]; unfold solveF; simp
    obtain ⟨g, hg⟩ := row4 M n s hi
    rw [← ex] at hg
    have he := row_err hg (by omega) (hs i) hxi (fun h => ⟨hM i hi, hz (.inr rfl) i hi⟩)
    simp only [if_true] at he
    have ev : partV 4 M i i = M i i := by simp [partV, pI, pJ]
    rw [ev]
    have c0 : ∀ j, i < j → j < n → trC 4 M x i j = 0 := fun j h1 _ => by unfold trC partO pI pJ; simp; omega
    have ci : trC 4 M x i i = val (M i i) * val (x i) := by unfold trC; rw [ev]; simp [partO, pI, pJ]
    have cj : ∀ m, m < i → trC 4 M x i (i - 1 - m) = val (M (i - 1 - m) i) * val (x (i - 1 - m)) := fun m hm => by
      unfold trC partO partV pI pJ; simp; omega
    refine tri_end (c := trC 4 M x i) (T := i) (by omega) ci ?_ ?_ Rat.abs_nonneg he
    · rw [sum_low hi c0, sumR_congr _ cj]
    · rw [sum_low hi (fun j h1 h2 => by rw [c0 j h1 h2]; rfl), sumR_congr _ (fun m hm => by rw [cj m hm])]
end Sedge
end
section
/-
  Plain: the backward error of a row is one.
-/
set_option linter.unusedSimpArgs false
set_option linter.unusedVariables false
namespace Sedge
open Ieee
/-! Words that are not below 0. -/
def nnD : Datum → Prop
  | .number s m _ => s = false ∨ m = 0
  | .infinity s => s = false
  | .nan .. => True
def nn (x : Nat) : Prop := nnD (D64.read x)
theorem nn_word (s : Bool) (n : Nat) (hn : n ≤ IR) (h : s = false ∨ n = 0) : nn (D64.word s n) := by
  unfold nn
  have hI : IR < SW := by decide +kernel
  rw [read_word s n (by omega)]
  split
  · rcases h with h | h
    · exact .inl h
    · exact .inr h
  · rename_i h1
    have hs : s = false := by
      rcases h with h | h
      · exact h
      · subst h; exact absurd (show 0 < BN by decide +kernel) h1
    split
    · exact .inl hs
    · split
      · exact hs
      · trivial
theorem nn_write (d : Datum) (h : nnD d) (hn : d.isNaN = false) : nn (D64.write d) := by
  cases d with
  | number s m p =>
    show nn (D64.nearest s m p)
    by_cases h0 : m = 0
    · subst h0
      have e : D64.nearest s 0 p = D64.word s 0 := by unfold Format.nearest; rw [if_pos rfl]
      rw [e]; exact nn_word s 0 (Nat.zero_le _) (.inr rfl)
    · rw [nearest_eq s m p h0]
      refine nn_word s _ (Nat.min_le_right _ _) (.inl ?_)
      rcases h with h | h
      · exact h
      · exact absurd h h0
  | infinity s =>
    have e : D64.write (.infinity s) = D64.word s IR := by cases s <;> decide +kernel
    rw [e]; exact nn_word s IR (Nat.le_refl _) (.inl h)
  | nan s t => cases hn
theorem nn_QN : nn QN := by
  unfold nn
  have : (D64.read QN).isNaN = true := isNan_QN
  revert this
  cases D64.read QN <;> simp [Datum.isNaN, nnD]
theorem nn_op {o : Option Datum} (h : ∀ d, o = some d → nnD d) (hn : ∀ d, o = some d → d.isNaN = false) : nn ((o.map D64.write).getD QN) := by
  cases o with
  | none => exact nn_QN
  | some d => exact nn_write d (h d rfl) (hn d rfl)
theorem nn_signed {s : Bool} {m k : Nat} (h : s = false ∨ m = 0) : 0 ≤ signed s m k := by
  unfold signed
  rcases h with h | h
  · subst h; simp only [Bool.false_eq_true, if_false]; exact Int.natCast_nonneg _
  · subst h; simp [Nat.shiftLeft_eq]
theorem nn_fadd {x y : Nat} (hx : nn x) (hy : nn y) : nn (fadd x y) := by
  refine nn_op (fun d hd => ?_) (fun d hd => sum_notnan hd)
  unfold nn at hx hy
  revert hd hx hy
  cases D64.read x <;> cases D64.read y <;> simp only [Datum.sum, nnD]
  · rename_i s m i t n j
    intro h1 h2 h3
    cases h3
    have a1 := nn_signed (k := (i - min i j).toNat) h1
    have a2 := nn_signed (k := (j - min i j).toNat) h2
    rcases Int.lt_or_le 0 (signed s m (i - min i j).toNat + signed t n (j - min i j).toNat) with h | h
    · left
      simp only [show ¬ (signed s m (i - min i j).toNat + signed t n (j - min i j).toNat = 0) by omega, if_false]
      simp; omega
    · right; omega
  all_goals first | (intro h1 h2 h3; cases h3; first | exact h1 | exact h2) | (intro h1 h2 h3; split at h3 <;> cases h3; first | exact h1 | exact h2) | (intro h1 h2 h3; cases h3)
theorem nn_fmul {x y : Nat} (hx : nn x) (hy : nn y) : nn (fmul x y) := by
  refine nn_op (fun d hd => ?_) (fun d hd => product_notnan hd)
  unfold nn at hx hy
  revert hd hx hy
  cases D64.read x <;> cases D64.read y <;> simp only [Datum.product, nnD]
  · intro h1 h2 h3
    cases h3
    rcases h1 with rfl | rfl
    · rcases h2 with rfl | rfl
      · left; rfl
      · right; simp
    · right; simp
  all_goals first | (intro h1 h2 h3; cases h3; done) | (intro h1 h2 h3; cases h3; simp_all; done) | (intro h1 h2 h3; split at h3 <;> cases h3; simp_all [nnD])
theorem nn_fdiv {x y : Nat} (hx : nn x) (hy : nn y) (h0 : ∀ s p, D64.read y ≠ .number s 0 p) : nn (fdiv x y) := by
  refine nn_op (fun d hd => ?_) (fun d hd => quotient_notnan hd)
  unfold nn at hx hy
  revert hd hx hy h0
  cases D64.read x <;> cases D64.read y <;> simp only [Datum.quotient, nnD]
  · rename_i s m i t n j
    intro h1 h2 h0 h3
    by_cases hn : n = 0
    · subst hn; exact absurd rfl (h0 t j)
    · rw [if_neg hn] at h3
      cases h3
      have ht : t = false := by
        rcases h2 with h2 | h2
        · exact h2
        · exact absurd h2 hn
      subst ht
      rcases h1 with rfl | rfl
      · left; rfl
      · right; simp [Nat.shiftLeft_eq]
  · intro h1 h2 h0 h3
    cases h3
    exact .inr rfl
  case infinity.number s t n j =>
    intro h1 h2 h0 h3
    cases h3
    subst h1
    rcases h2 with rfl | rfl
    · show (false ^^ false) = false
      rfl
    · exact absurd rfl (h0 t j)
  all_goals (intro h1 h2 h0 h3; cases h3)
theorem nn_fabs {x : Nat} (hx : x < 2 ^ 64) : nn (fabs x) := by
  unfold nn
  rw [read_eq _ (fabs_lt hx), pNeg_abs]
  split
  · exact .inl rfl
  · split
    · rfl
    · trivial
theorem nn_val {x : Nat} (h : nn x) (hf : fin x = true) : 0 ≤ val x := by
  obtain ⟨s, m, p, hr⟩ := (fin_iff x).1 hf
  unfold nn at h
  rw [hr] at h
  rw [val_of hr]
  rcases h with rfl | rfl
  · unfold dat sgn
    have := Rat.mul_nonneg (Rat.natCast_nonneg (a := m)) (Rat.le_of_lt (p2_pos p))
    simp; exact this
  · rw [dat_zero]; exact Rat.le_refl
/-- How finite numbers are ordered. -/
theorem order_val {x y : Nat} (hx : fin x = true) (hy : fin y = true) : (fgt x y = true ↔ val y < val x) ∧ (feq x y = true ↔ val x = val y) ∧ (flt x y = true ↔ val x < val y) := by
  obtain ⟨s, m, i, hx⟩ := (fin_iff x).1 hx
  obtain ⟨t, n, j, hy⟩ := (fin_iff y).1 hy
  have h1 := signed_val s m (i - min i j).toNat (min i j)
  have h2 := signed_val t n (j - min i j).toNat (min i j)
  rw [show min i j + ((i - min i j).toNat : Int) = i by omega] at h1
  rw [show min i j + ((j - min i j).toNat : Int) = j by omega] at h2
  have e : D64.order x y = some (compare (signed s m (i - min i j).toNat) (signed t n (j - min i j).toNat)) := by
    unfold Format.order; rw [hx, hy]; rfl
  rw [val_of hx, val_of hy, ← h1, ← h2]
  unfold fgt feq flt
  rw [e]
  generalize signed s m (i - min i j).toNat = a
  generalize signed t n (j - min i j).toNat = b
  have hp := p2_pos (min i j)
  generalize p2 (min i j) = g at *
  have key : ∀ c d : Int, c < d → (c : Rat) * g < (d : Rat) * g := fun c d h => Rat.mul_lt_mul_of_pos_right (Rat.intCast_lt_intCast.2 h) hp
  have irr : ∀ r : Rat, ¬ r < r := fun r => Rat.lt_irrefl
  rw [some_beq, some_beq, some_beq, cmp_gt, cmp_eq, cmp_lt]
  simp only [decide_eq_true_eq]
  rcases Int.lt_trichotomy a b with h | h | h
  · have := key a b h
    refine ⟨⟨fun h' => by omega, fun h' => by grind⟩, ⟨fun h' => by omega, fun h' => by grind⟩, ⟨fun _ => this, fun _ => h⟩⟩
  · subst h
    refine ⟨⟨fun h' => by omega, fun h' => absurd h' (irr _)⟩, ⟨fun _ => rfl, fun _ => rfl⟩, ⟨fun h' => by omega, fun h' => absurd h' (irr _)⟩⟩
  · have := key b a h
    refine ⟨⟨fun _ => this, fun _ => h⟩, ⟨fun h' => by omega, fun h' => by grind⟩, ⟨fun h' => by omega, fun h' => by grind⟩⟩
theorem back_ineq {B X E F w ρ q1 qv : Rat} (hB : 0 ≤ B) (hXE : X.abs + E ≤ F) (hEU : U * B ≤ E) (hw : (w - B).abs ≤ E) (w0 : 0 < w) (r0 : 0 ≤ ρ) (hr : (ρ * w - F).abs ≤ 3 * U * F.abs + ETA * w.abs)
    (h1 : (q1 - ρ * (8 * U)).abs ≤ U * (ρ * (8 * U)).abs + ETA) (hq : (qv - (ρ + q1)).abs ≤ U * (ρ + q1).abs) (q0 : 0 ≤ qv) (hle : qv ≤ 1) (hq1 : 0 ≤ q1) : X.abs ≤ qv * B := by
  have hU := U_pos
  have hU1 := U_tiny
  have hEt := ETA_pos
  have uB : 0 ≤ U * B := Rat.mul_nonneg (Rat.le_of_lt hU) hB
  have E0 : 0 ≤ E := Rat.le_trans uB hEU
  have X0 : 0 ≤ X.abs := Rat.abs_nonneg
  have F0 : 0 ≤ F := by grind
  have w0' := Rat.le_of_lt w0
  rw [Rat.abs_of_nonneg F0, Rat.abs_of_nonneg w0'] at hr
  have tiny : ∀ x : Rat, 0 ≤ x → 1048576 * (U * x) ≤ x := fun x hx => by
    have := Rat.mul_le_mul_of_nonneg_right hU1 hx
    grind
  have pos : ∀ x : Rat, 0 ≤ x → 0 ≤ U * x := fun x hx => Rat.mul_nonneg (Rat.le_of_lt hU) hx
  have ur := pos ρ r0
  have uur := pos _ ur
  have tur := tiny _ ur
  have tr := tiny ρ r0
  have e1 : ρ * (8 * U) = 8 * (U * ρ) := by grind
  rw [e1, Rat.abs_of_nonneg (show 0 ≤ 8 * (U * ρ) by grind)] at h1
  have a1 := neg_le_abs (q1 - 8 * (U * ρ))
  have a1' := le_abs (q1 - 8 * (U * ρ))
  have e2 : U * (8 * (U * ρ)) = 8 * (U * (U * ρ)) := by grind
  rw [Rat.abs_of_nonneg (show 0 ≤ ρ + q1 by grind)] at hq
  have a2 := neg_le_abs (qv - (ρ + q1))
  have e3 : U * (ρ + q1) = U * ρ + U * q1 := by grind
  have uq1 : U * q1 ≤ U * (9 * (U * ρ) + ETA) := Rat.mul_le_mul_of_nonneg_left (by grind) (Rat.le_of_lt hU)
  have e4 : U * (9 * (U * ρ) + ETA) = 9 * (U * (U * ρ)) + U * ETA := by grind
  have tE := tiny ETA (Rat.le_of_lt hEt)
  -- qv >= rho (1 + 6U) - 2 ETA
  have k1 : ρ + 6 * (U * ρ) - 2 * ETA ≤ qv := by grind
  -- times w
  have k2 := Rat.mul_le_mul_of_nonneg_right k1 w0'
  have a3 := neg_le_abs (ρ * w - F)
  have e5 : (ρ + 6 * (U * ρ) - 2 * ETA) * w = ρ * w + 6 * (U * (ρ * w)) - 2 * (ETA * w) := by grind
  have k3 : F - 3 * (U * F) - ETA * w ≤ ρ * w := by grind
  have k4 : U * (F - 3 * (U * F) - ETA * w) ≤ U * (ρ * w) := Rat.mul_le_mul_of_nonneg_left k3 (Rat.le_of_lt hU)
  have e6 : U * (F - 3 * (U * F) - ETA * w) = U * F - 3 * (U * (U * F)) - U * (ETA * w) := by grind
  have uF := pos F F0
  have tuF := tiny _ uF
  have ew : 0 ≤ ETA * w := Rat.mul_nonneg (Rat.le_of_lt hEt) w0'
  have tew := tiny _ ew
  have k5 : F + 2 * (U * F) - 4 * (ETA * w) ≤ qv * w := by grind
  -- U F covers ETA w
  have b1 := le_abs (w - B)
  have uw : U * w ≤ U * (B + E) := Rat.mul_le_mul_of_nonneg_left (by grind) (Rat.le_of_lt hU)
  have e7 : U * (B + E) = U * B + U * E := by grind
  have tEE := tiny E E0
  have c1 : U * w ≤ 2 * F := by grind
  have c2 : U * (U * w) ≤ U * (2 * F) := Rat.mul_le_mul_of_nonneg_left c1 (Rat.le_of_lt hU)
  have c3 : 4 * ETA ≤ U * U := by unfold ETA U; decide +kernel
  have c4 := Rat.mul_le_mul_of_nonneg_right c3 w0'
  have e8 : U * U * w = U * (U * w) := by grind
  have e9 : U * (2 * F) = 2 * (U * F) := by grind
  have k6 : F ≤ qv * w := by grind
  -- B >= w - E
  have d1 : w - E ≤ B := by grind
  have d2 := Rat.mul_le_mul_of_nonneg_left d1 q0
  have d3 := Rat.mul_le_mul_of_nonneg_right hle E0
  have e10 : qv * (w - E) = qv * w - qv * E := by grind
  grind
/-- THE BACKWARD ERROR OF A ROW. -/
theorem back_law {S W : Nat → Nat} {A X : Nat → Nat} {n g t tw : Nat} (hn : n ≤ 16) (hA : ∀ j, A j < 2 ^ 64) (hX : ∀ j, X j < 2 ^ 64) (h0 : S 0 < 2 ^ 64) (hS : ∀ j, j < n → S (j + 1) = fsub (S j) (fmul (A j) (X j)))
    (w0 : W 0 = fabs (S 0)) (hW : ∀ j, j < n → W (j + 1) = fadd (W j) (fmul (fabs (A j)) (fabs (X j)))) (hg : val g = ((n : Rat) + 3) * (2 * U)) (ht : val t = ((n : Rat) + 3) * (32 * ETA)) (htl : t < 2 ^ 64) (ng : nn g) (nt : nn t)
    (htw : val tw = 8 * U) (ntw : nn tw) (hnz : feq (W n) 0 = false) {f Q q : Nat} (hf : f = fadd (fadd (fabs (S n)) (fmul g (W n))) t) (hQ : Q = fadd (fdiv f (W n)) (fmul (fdiv f (W n)) tw))
    (hq : q = if fgt Q 4607182418800017408 = true then 4607182418800017408 else Q) (hnan : isNan q = false) :
    fin q = true ∧ 0 ≤ val q ∧ val q ≤ 1 ∧ ∀ v, val q ≤ v → (exS (val (S 0)) (fun j => -(val (A j) * val (X j))) n).abs ≤ v * exB (val (S 0)) (fun j => -(val (A j) * val (X j))) n := by
  have hB := exB_nonneg (val (S 0)) (fun j => -(val (A j) * val (X j))) n
  have hXB := exS_le (val (S 0)) (fun j => -(val (A j) * val (X j))) n
  have f1 : fin 4607182418800017408 = true := by decide +kernel
  have v1 : val 4607182418800017408 = 1 := by decide +kernel
  have f0 : fin 0 = true := by decide +kernel
  have v0 : val 0 = 0 := by decide +kernel
  have fin1 : ∀ v, val q ≤ v → q = 4607182418800017408 → (exS (val (S 0)) (fun j => -(val (A j) * val (X j))) n).abs ≤ v * exB (val (S 0)) (fun j => -(val (A j) * val (X j))) n := fun v hv e => by
    rw [e, v1] at hv
    have := Rat.mul_le_mul_of_nonneg_right hv hB
    grind
  -- not below 0
  have nW : ∀ j, j ≤ n → nn (W j) := fun j => by
    induction j with
    | zero => intro _; rw [w0]; exact nn_fabs h0
    | succ j ih => intro hj; rw [hW j (by omega)]; exact nn_fadd (ih (by omega)) (nn_fmul (nn_fabs (hA j)) (nn_fabs (hX j)))
  have hSl : S n < 2 ^ 64 := by
    cases n with
    | zero => exact h0
    | succ n => rw [hS n (by omega)]; exact fsub_lt _ _
  have nf : nn f := by rw [hf]; exact nn_fadd (nn_fadd (nn_fabs hSl) (nn_fmul ng (nW n (Nat.le_refl _)))) nt
  have wz : ∀ s p, D64.read (W n) ≠ .number s 0 p := fun s p hr => by
    have h2 : fin (W n) = true := fin_of_read hr
    have h3 : feq (W n) 0 = true := (order_val h2 f0).2.1.2 (by rw [val_of hr, dat_zero, v0])
    rw [h3] at hnz; cases hnz
  have nq : nn (fdiv f (W n)) := nn_fdiv nf (nW n (Nat.le_refl _)) wz
  have nQ : nn Q := by rw [hQ]; exact nn_fadd nq (nn_fmul nq ntw)
  by_cases hgt : fgt Q 4607182418800017408 = true
  · rw [if_pos hgt] at hq
    refine ⟨by rw [hq]; exact f1, by rw [hq, v1]; decide +kernel, by rw [hq, v1]; exact Rat.le_refl, fun v hv => fin1 v hv hq⟩
  · rw [if_neg hgt] at hq
    subst hq
    have hfq : fin q = true := by
      rcases read_number_or q with ⟨s, m, p, h⟩ | ⟨s, h⟩ | ⟨s, t, h⟩
      · exact fin_of_read h
      · exfalso
        unfold nn at nQ
        rw [h] at nQ
        cases nQ
        refine hgt ?_
        unfold fgt Format.order
        rw [h]
        have : D64.read 4607182418800017408 = .number false 4503599627370496 (-52) := read_one
        rw [this]
        rfl
      · exfalso
        unfold isNan at hnan
        rw [h] at hnan
        cases hnan
    have hle : val q ≤ 1 := by
      have := (order_val hfq f1).1
      rw [v1] at this
      rcases Rat.le_total (a := val q) (b := 1) with h | h
      · exact h
      · by_cases h2 : (1 : Rat) < val q
        · exact absurd (this.2 h2) hgt
        · grind
    have hq0 : 0 ≤ val q := nn_val nQ hfq
    refine ⟨hfq, hq0, hle, fun v hv => ?_⟩
    rw [hQ] at hfq
    obtain ⟨p1, p2'⟩ := fadd_fin hfq
    have ff := fdiv_fin p1
    rw [hf] at ff
    obtain ⟨b1, b2, b3⟩ := bound_law hn hA hX h0 hS w0 hW hg ht htl ff
    obtain ⟨c1, c2⟩ := rest_err (by omega) hA hX h0 hS w0 hW b2 b3
    rw [← hf] at b1 ff
    have hwn : val (W n) ≠ 0 := fun h => by
      have h3 : feq (W n) 0 = true := (order_val b3 f0).2.1.2 (by rw [h, v0])
      rw [h3] at hnz; cases hnz
    have hw0 : 0 ≤ val (W n) := nn_val (nW n (Nat.le_refl _)) b3
    have hwp : 0 < val (W n) := by grind
    have d1 := fdiv_err ff b3 hwn p1
    have d2 := fmul_err p2'
    have d3 := fadd_err' (fdiv_lt _ _) (fmul_lt _ _) hfq
    rw [htw] at d2
    rw [← hQ] at d3
    have hU := U_pos
    have hEt := ETA_pos
    have hn0 : (0 : Rat) ≤ n := Rat.natCast_nonneg
    have uB := Rat.mul_nonneg (Rat.le_of_lt hU) hB
    have hEU : U * exB (val (S 0)) (fun j => -(val (A j) * val (X j))) n ≤ (n + 1) * (33 / 32) * (U * exB (val (S 0)) (fun j => -(val (A j) * val (X j))) n) + 2 * n * ETA := by
      have h1 := Rat.mul_nonneg hn0 uB
      have h2 := Rat.mul_nonneg hn0 (Rat.le_of_lt hEt)
      grind
    have := back_ineq hB b1 hEU c2 hwp (nn_val nq p1) d1 d2 d3 hq0 hle (nn_val (nn_fmul nq ntw) p2')
    have h2 := Rat.mul_le_mul_of_nonneg_right hv hB
    grind
end Sedge
end
section
/-
  TrsvBackward: the system that is solved, its numbers; ref09.Part.
-/
set_option linter.unusedSimpArgs false
set_option linter.unusedVariables false
open Go Go.RowKit Sedge
namespace Go.Proofs.Ytcmggfpcbijcjaa
set_option maxRecDepth 100000 in
set_option maxHeartbeats 4000000 in
/-- straightedgeref09.Part. -/
theorem part_any (k n i j : Nat) (M : Nat → Nat → Nat) (A : Value) (ws : List Nat) (w : World) (hA : FS w A ws) (hk : 1 ≤ k ∧ k ≤ 4) (hn : n ≤ 100) (hi : i < n) (hj : j < n) (hl : ws.length = n * n) (hM : ∀ i j, i < n → j < n → ws.getD (i * n + j) 0 = M i j) :
   Calls Try.prog 82 #[.int .i64 k, .agg #[.int .i64 n, .int .i64 n, A], .int .i64 i, .int .i64 j] w (fun e w' => ∃ b, e = .returned (.tuple #[.float .f64 b, .bool (partO k i j)]) ∧ IsF b (partV k M i j) ∧ ∃ o n, w' = ext w o n) := by
  have hAt : ∀ (i j : Nat) w', i < n → j < n → Grew w w' → Calls Try.prog 72 #[.agg #[.int .i64 n, .int .i64 n, A], .int .i64 i, .int .i64 j] w' (fun e w2 => ∃ b, e = .returned (.float .f64 b) ∧ IsF b (M i j) ∧ ∃ o n, w2 = ext w' o n) := fun i j w' hi hj gg => by
    have hk : i * n + j < n * n := by
      have := Nat.mul_le_mul_right n (show i + 1 ≤ n by omega)
      rw [Nat.add_mul] at this; omega
    have h := rat_any n n i j A ws w' (hA.grew gg) (by omega) (by omega) (by omega) (by omega) (by omega)
    rw [hM i j hi hj] at h
    exact h
  have h1 : IsF 4607182418800017408 4607182418800017408 := by decide +kernel
  have h12 := hAt i j
  have h21 := hAt j i
  have H1 := hid h1
  clear hA hM hl hAt h1
  have hr2 : ∀ (b : Nat) (t : Bool) w', IsF b (partV k M i j) → t = partO k i j → Grew w w' → ∃ b', (Ending.returned (.tuple #[.float .f64 b, .bool t])) = .returned (.tuple #[.float .f64 b', .bool (partO k i j)]) ∧ IsF b' (partV k M i j) ∧ ∃ o n, w' = ext w o n := fun b t w' q1 q2 q3 => ⟨b, by rw [q2], q1, q3⟩
  have HR := hid hr2
  clear hr2
  obtain rfl | rfl | rfl | rfl : k = 1 ∨ k = 2 ∨ k = 3 ∨ k = 4 := by omega
  · by_cases e : i = j
    · subst e
      go_enter Try.func82, Try.ntmps82
      refine seq_stop ?_
      go_wp2
      refine stop_go (fun W hW => ?_)
      have s1 : w.heap.size < W.heap.size := by rw [hW]; simp only [World.size_alloc]; omega
      have b1 : ∀ i, W.cell? ⟨w.heap.size, i, none⟩ = (#[.int .i64 n, .int .i64 n, A] : Array Value)[i]? := by intro i; rw [hW]; go_simp
      have g0 : Grew w W := by rw [hW]; exact (Grew.refl _).alloc _
      clear hW
      go_wp2
      go_ret2
      exact HR.out _ _ _ (by simp [partV]; exact H1.out) (by simp [partO, pI, pJ]) (by (show Grew _ _; (try simp only [← Array.append_assoc]); repeat (first | (with_reducible exact Grew.same_o) | (with_reducible exact Grew.refl _) | (with_reducible assumption) | (with_reducible refine Grew.alloc ?_ _) | (with_reducible refine Grew.app_r ?_) | ((with_reducible refine Grew.setCell ?_ ?_ _); rotate_left; (focus (dsimp only; first | omega | (simp only [size_ext, World.size_alloc, Array.size_append]; omega)))) | (with_reducible refine Grew.ext ?_ _ _) | (with_reducible refine Grew.drewN ?_ _) | (with_reducible refine Grew.drew ?_))))
    · have d1 : ((i : Int) == (j : Int)) = false := by simp; omega
      go_enter Try.func82, Try.ntmps82
      refine seq_stop ?_
      go_wp2
      refine stop_go (fun W hW => ?_)
      have s1 : w.heap.size < W.heap.size := by rw [hW]; simp only [World.size_alloc]; omega
      have b1 : ∀ i, W.cell? ⟨w.heap.size, i, none⟩ = (#[.int .i64 n, .int .i64 n, A] : Array Value)[i]? := by intro i; rw [hW]; go_simp
      have g0 : Grew w W := by rw [hW]; exact (Grew.refl _).alloc _
      clear hW
      go_wp2_with (first | (go_at_call 72; ((with_reducible refine (h12 _ hi hj (Grew.trans g0 (by (show Grew _ _; (try simp only [← Array.append_assoc]); repeat (first | (with_reducible exact Grew.same_o) | (with_reducible exact Grew.refl _) | (with_reducible assumption) | (with_reducible refine Grew.alloc ?_ _) | (with_reducible refine Grew.app_r ?_) | ((with_reducible refine Grew.setCell ?_ ?_ _); rotate_left; (focus (dsimp only; first | omega | (simp only [size_ext, World.size_alloc, Array.size_append]; omega)))) | (with_reducible refine Grew.ext ?_ _ _) | (with_reducible refine Grew.drewN ?_ _) | (with_reducible refine Grew.drew ?_)))))).mono ?_); rintro e w1 ⟨b, rfl, hb, o1, n1, rfl⟩)))
      go_ret2
      exact HR.out _ _ _ (by simpa [partV, pI, pJ, e] using hb) (by simp [partO, pI, pJ]; omega) (Grew.trans g0 (by (show Grew _ _; (try simp only [← Array.append_assoc]); repeat (first | (with_reducible exact Grew.same_o) | (with_reducible exact Grew.refl _) | (with_reducible assumption) | (with_reducible refine Grew.alloc ?_ _) | (with_reducible refine Grew.app_r ?_) | ((with_reducible refine Grew.setCell ?_ ?_ _); rotate_left; (focus (dsimp only; first | omega | (simp only [size_ext, World.size_alloc, Array.size_append]; omega)))) | (with_reducible refine Grew.ext ?_ _ _) | (with_reducible refine Grew.drewN ?_ _) | (with_reducible refine Grew.drew ?_)))))
  · go_enter Try.func82, Try.ntmps82
    refine seq_stop ?_
    go_wp2
    refine stop_go (fun W hW => ?_)
    have s1 : w.heap.size < W.heap.size := by rw [hW]; simp only [World.size_alloc]; omega
    have b1 : ∀ i, W.cell? ⟨w.heap.size, i, none⟩ = (#[.int .i64 n, .int .i64 n, A] : Array Value)[i]? := by intro i; rw [hW]; go_simp
    have g0 : Grew w W := by rw [hW]; exact (Grew.refl _).alloc _
    clear hW
    go_wp2_with (first | (go_at_call 72; ((with_reducible refine (h12 _ hi hj (Grew.trans g0 (by (show Grew _ _; (try simp only [← Array.append_assoc]); repeat (first | (with_reducible exact Grew.same_o) | (with_reducible exact Grew.refl _) | (with_reducible assumption) | (with_reducible refine Grew.alloc ?_ _) | (with_reducible refine Grew.app_r ?_) | ((with_reducible refine Grew.setCell ?_ ?_ _); rotate_left; (focus (dsimp only; first | omega | (simp only [size_ext, World.size_alloc, Array.size_append]; omega)))) | (with_reducible refine Grew.ext ?_ _ _) | (with_reducible refine Grew.drewN ?_ _) | (with_reducible refine Grew.drew ?_)))))).mono ?_); rintro e w1 ⟨b, rfl, hb, o1, n1, rfl⟩)))
    go_ret2
    exact HR.out _ _ _ (by simpa [partV, pI, pJ] using hb) (by simp [partO, pI, pJ]) (Grew.trans g0 (by (show Grew _ _; (try simp only [← Array.append_assoc]); repeat (first | (with_reducible exact Grew.same_o) | (with_reducible exact Grew.refl _) | (with_reducible assumption) | (with_reducible refine Grew.alloc ?_ _) | (with_reducible refine Grew.app_r ?_) | ((with_reducible refine Grew.setCell ?_ ?_ _); rotate_left; (focus (dsimp only; first | omega | (simp only [size_ext, World.size_alloc, Array.size_append]; omega)))) | (with_reducible refine Grew.ext ?_ _ _) | (with_reducible refine Grew.drewN ?_ _) | (with_reducible refine Grew.drew ?_)))))
  · by_cases e : i = j
    · subst e
      go_enter Try.func82, Try.ntmps82
      refine seq_stop ?_
      go_wp2
      refine stop_go (fun W hW => ?_)
      have s1 : w.heap.size < W.heap.size := by rw [hW]; simp only [World.size_alloc]; omega
      have b1 : ∀ i, W.cell? ⟨w.heap.size, i, none⟩ = (#[.int .i64 n, .int .i64 n, A] : Array Value)[i]? := by intro i; rw [hW]; go_simp
      have g0 : Grew w W := by rw [hW]; exact (Grew.refl _).alloc _
      clear hW
      go_wp2
      go_ret2
      exact HR.out _ _ _ (by simp [partV]; exact H1.out) (by simp [partO, pI, pJ]) (by (show Grew _ _; (try simp only [← Array.append_assoc]); repeat (first | (with_reducible exact Grew.same_o) | (with_reducible exact Grew.refl _) | (with_reducible assumption) | (with_reducible refine Grew.alloc ?_ _) | (with_reducible refine Grew.app_r ?_) | ((with_reducible refine Grew.setCell ?_ ?_ _); rotate_left; (focus (dsimp only; first | omega | (simp only [size_ext, World.size_alloc, Array.size_append]; omega)))) | (with_reducible refine Grew.ext ?_ _ _) | (with_reducible refine Grew.drewN ?_ _) | (with_reducible refine Grew.drew ?_))))
    · have d1 : ((j : Int) == (i : Int)) = false := by simp; omega
      go_enter Try.func82, Try.ntmps82
      refine seq_stop ?_
      go_wp2
      refine stop_go (fun W hW => ?_)
      have s1 : w.heap.size < W.heap.size := by rw [hW]; simp only [World.size_alloc]; omega
      have b1 : ∀ i, W.cell? ⟨w.heap.size, i, none⟩ = (#[.int .i64 n, .int .i64 n, A] : Array Value)[i]? := by intro i; rw [hW]; go_simp
      have g0 : Grew w W := by rw [hW]; exact (Grew.refl _).alloc _
      clear hW
      go_wp2_with (first | (go_at_call 72; ((with_reducible refine (h21 _ hj hi (Grew.trans g0 (by (show Grew _ _; (try simp only [← Array.append_assoc]); repeat (first | (with_reducible exact Grew.same_o) | (with_reducible exact Grew.refl _) | (with_reducible assumption) | (with_reducible refine Grew.alloc ?_ _) | (with_reducible refine Grew.app_r ?_) | ((with_reducible refine Grew.setCell ?_ ?_ _); rotate_left; (focus (dsimp only; first | omega | (simp only [size_ext, World.size_alloc, Array.size_append]; omega)))) | (with_reducible refine Grew.ext ?_ _ _) | (with_reducible refine Grew.drewN ?_ _) | (with_reducible refine Grew.drew ?_)))))).mono ?_); rintro e w1 ⟨b, rfl, hb, o1, n1, rfl⟩)))
      go_ret2
      exact HR.out _ _ _ (by simpa [partV, pI, pJ, e] using hb) (by simp [partO, pI, pJ]; omega) (Grew.trans g0 (by (show Grew _ _; (try simp only [← Array.append_assoc]); repeat (first | (with_reducible exact Grew.same_o) | (with_reducible exact Grew.refl _) | (with_reducible assumption) | (with_reducible refine Grew.alloc ?_ _) | (with_reducible refine Grew.app_r ?_) | ((with_reducible refine Grew.setCell ?_ ?_ _); rotate_left; (focus (dsimp only; first | omega | (simp only [size_ext, World.size_alloc, Array.size_append]; omega)))) | (with_reducible refine Grew.ext ?_ _ _) | (with_reducible refine Grew.drewN ?_ _) | (with_reducible refine Grew.drew ?_)))))
  · go_enter Try.func82, Try.ntmps82
    refine seq_stop ?_
    go_wp2
    refine stop_go (fun W hW => ?_)
    have s1 : w.heap.size < W.heap.size := by rw [hW]; simp only [World.size_alloc]; omega
    have b1 : ∀ i, W.cell? ⟨w.heap.size, i, none⟩ = (#[.int .i64 n, .int .i64 n, A] : Array Value)[i]? := by intro i; rw [hW]; go_simp
    have g0 : Grew w W := by rw [hW]; exact (Grew.refl _).alloc _
    clear hW
    go_wp2_with (first | (go_at_call 72; ((with_reducible refine (h21 _ hj hi (Grew.trans g0 (by (show Grew _ _; (try simp only [← Array.append_assoc]); repeat (first | (with_reducible exact Grew.same_o) | (with_reducible exact Grew.refl _) | (with_reducible assumption) | (with_reducible refine Grew.alloc ?_ _) | (with_reducible refine Grew.app_r ?_) | ((with_reducible refine Grew.setCell ?_ ?_ _); rotate_left; (focus (dsimp only; first | omega | (simp only [size_ext, World.size_alloc, Array.size_append]; omega)))) | (with_reducible refine Grew.ext ?_ _ _) | (with_reducible refine Grew.drewN ?_ _) | (with_reducible refine Grew.drew ?_)))))).mono ?_); rintro e w1 ⟨b, rfl, hb, o1, n1, rfl⟩)))
    go_ret2
    exact HR.out _ _ _ (by simpa [partV, pI, pJ] using hb) (by simp [partO, pI, pJ]) (Grew.trans g0 (by (show Grew _ _; (try simp only [← Array.append_assoc]); repeat (first | (with_reducible exact Grew.same_o) | (with_reducible exact Grew.refl _) | (with_reducible assumption) | (with_reducible refine Grew.alloc ?_ _) | (with_reducible refine Grew.app_r ?_) | ((with_reducible refine Grew.setCell ?_ ?_ _); rotate_left; (focus (dsimp only; first | omega | (simp only [size_ext, World.size_alloc, Array.size_append]; omega)))) | (with_reducible refine Grew.ext ?_ _ _) | (with_reducible refine Grew.drewN ?_ _) | (with_reducible refine Grew.drew ?_)))))
/-- trsv.Solve, of the system that is made. -/
theorem sys_cl (n k : Nat) (TT Y : List Nat) (hT : TT.length = n * n) (hn : n ≤ 10) (hn1 : 1 ≤ n) (hk : 1 ≤ k ∧ k ≤ 4) (gm cm g cg : Nat) (w : World) (hM : FW w gm (denseL n n TT)) (hZ : FW w g Y) (hY : Y.length = n) (n1 : g ≠ gm) (fT : ∀ q, fin (TT.getD q 0) = true) (hYl : ∀ i, Y.getD i 0 < 2 ^ 64) :
    Calls Try.prog 79 #[.int .i64 k, .agg #[.slice (some ⟨gm, 0, none⟩) (n * n) cm, .int .i64 0, .int .i64 n, .int .i64 n, .int .i64 n], .agg #[.slice (some ⟨g, 0, none⟩) Y.length cg, .int .i64 0, .int .i64 Y.length, .int .i64 1]] w
      (fun e w' => ∃ E : Int, e = .returned (.int .i64 E) ∧ (E = 0 ∨ E = 4) ∧ But w [g] w' ∧ (E = 0 → ∃ (M : Nat → Nat → Nat) (Z : List Nat), FW w' g Z ∧ Z.length = n ∧ (∀ i j, i < n → j < n → TT.getD (i * n + j) 0 = M i j) ∧ (finL Z = true → ∀ i, i < n → (exS (-(val (Y.getD i 0))) (trC k M (fun j => Z.getD j 0) i) n).abs ≤ (exB 0 (trC k M (fun j => Z.getD j 0) i) n * p2 (-51) + (1 + (val (partV k M i i)).abs) * p2 (-1060)) * ((n + 1 : Nat) : Rat)))) := by
  have hm : n * n ≤ 10 * 10 := Nat.mul_le_mul hn hn
  have hDl := denseL_length n n TT
  have h := tsolve_any k ⟨denseL n n TT, 0, n, n, n⟩ ⟨Y, 0, n, 1⟩ gm g cm cg w (hM.fs (by rw [hDl]; omega) cm) hZ (FW.plain hM) (fun e => absurd e n1) (by simp [MatM.wf, I64]; omega) (by simp [VecM.wf, I64]; omega) (by show (n : Int) ≤ 1000; omega) (by show (denseL n n TT).length ≤ _; rw [hDl]; omega) (by show Y.length ≤ _; omega)
  rw [show decide (g = gm) = false by simpa using n1] at h
  simp only at h
  rw [show (denseL n n TT).length = n * n from hDl] at h
  rw [hY] at h ⊢
  have hgood : MatM.good ⟨denseL n n TT, 0, n, n, n⟩ = true := by
    simp only [MatM.good, fitsB, hDl, Bool.and_eq_true, Bool.or_eq_true, decide_eq_true_eq]
    have : ((n : Int) - 1) * n + ((n : Int) - 1) < (n * n : Nat) := by rw [Int.sub_mul, Int.one_mul, Int.natCast_mul]; omega
    refine ⟨by omega, .inr ⟨by omega, by omega⟩⟩
  have hright : VecM.right ⟨Y, 0, n, 1⟩ = true := by
    simp only [VecM.right, fitsB, Bool.and_eq_true, Bool.or_eq_true, decide_eq_true_eq]; refine ⟨by omega, .inr ⟨by omega, by omega⟩⟩
  have hsq : sqE k ⟨denseL n n TT, 0, n, n, n⟩ n = 0 := by
    unfold sqE; rw [hgood, if_neg (by simp; omega), if_pos ⟨rfl, rfl⟩]
  have hE : tsolveE k ⟨denseL n n TT, 0, n, n, n⟩ ⟨Y, 0, n, 1⟩ false = if zeroTo k ⟨denseL n n TT, 0, n, n, n⟩ n = true then 4 else 0 := by
    unfold tsolveE
    rw [hright, if_neg (by decide)]
    simp only [hsq]
    rw [if_neg (by decide), if_neg (by simp [meetM])]
    simp
  refine h.mono fun e w' hh => ?_
  obtain ⟨rfl, q1, q2⟩ := hh
  refine ⟨_, rfl, ?_, q1, fun hE0 => ?_⟩
  · rw [hE]; split
    · exact .inr rfl
    · exact .inl rfl
  · have hz : zeroTo k ⟨denseL n n TT, 0, n, n, n⟩ n = false := by
      rw [hE] at hE0
      cases hzz : zeroTo k ⟨denseL n n TT, 0, n, n, n⟩ n
      · rfl
      · rw [hzz] at hE0; simp at hE0
    have eM : ∀ i j, i < n → j < n → MatM.num ⟨denseL n n TT, 0, n, n, n⟩ i j = TT.getD (i * n + j) 0 := fun i j hi hj => by
      rw [← dense_num hT hi hj]
      unfold MatM.num MatM.place
      simp only
      congr 1
      rw [Int.zero_add, ← Int.natCast_mul, ← Int.natCast_add, Int.toNat_natCast]
    have eY : ∀ i, VecM.num ⟨Y, 0, n, 1⟩ i = Y.getD i 0 := fun i => by unfold VecM.num VecM.place; simp
    unfold tsolveL at q2
    rw [if_pos hE0] at q2
    obtain ⟨M, hMd⟩ : ∃ M, M = MatM.num ⟨denseL n n TT, 0, n, n, n⟩ := ⟨_, rfl⟩
    rw [← hMd] at q2 eM
    simp only [Int.toNat_natCast] at q2
    obtain ⟨F, hF⟩ : ∃ F, F = solveF M n k (VecM.num ⟨Y, 0, n, 1⟩) := ⟨_, rfl⟩
    rw [← hF] at q2
    have eZ : ∀ i, i < n → (VecMwrite ⟨Y, 0, n, 1⟩ ((List.range n).map F)).getD i 0 = F i := fun i hi => by
      unfold VecMwrite VecMwriteTo
      have hpl : ∀ t, VecM.place ⟨Y, 0, n, 1⟩ t = t := fun t => by unfold VecM.place; simp
      rw [show min (Int.toNat (n : Int)) ((List.range n).map F).length = n by simp]
      have := writes_at (l := Y) (p := VecM.place ⟨Y, 0, n, 1⟩) (f := fun t => ((List.range n).map F).getD t 0) n (fun a b _ _ e => by rw [hpl, hpl] at e; exact e) (fun a ha => by rw [hpl]; omega) i hi
      rw [hpl] at this
      refine this.trans ?_
      show ((List.range n).map F).getD i 0 = F i
      rw [List.getD_eq_getElem?_getD, List.getElem?_map, List.getElem?_range hi]; rfl
    have lZ : (VecMwrite ⟨Y, 0, n, 1⟩ ((List.range n).map F)).length = n := by unfold VecMwrite VecMwriteTo; rw [writes_length]; exact hY
    refine ⟨M, _, q2, lZ, fun i j hi hj => (eM i j hi hj).symm, fun hfz i hi => ?_⟩
    have hfl := q2.fs (by rw [lZ]; omega) 0
    have fF : ∀ i, i < n → fin (F i) = true := fun i hi => by
      have h1 : finB ((VecMwrite ⟨Y, 0, n, 1⟩ ((List.range n).map F)).getD i 0) = true := by
        unfold finL at hfz
        rw [List.all_eq_true] at hfz
        refine hfz _ ?_
        rw [List.getD_eq_getElem?_getD, List.getElem?_eq_getElem (by omega)]; exact List.getElem_mem _
      have h2 : (VecMwrite ⟨Y, 0, n, 1⟩ ((List.range n).map F)).getD i 0 < 2 ^ 64 := by
        obtain ⟨_, a, cap, e, _, hc⟩ := hfl
        obtain ⟨blk, o, b, _, _, hfb⟩ := hc i (by omega)
        exact hfb.lt
      rw [← eZ i hi, fin_kind h2]; exact h1
    have fM : ∀ i, i < n → fin (M i i) = true := fun i hi => by rw [eM i i hi hi]; exact fT _
    have hlaw := tri_law hn hk hF (fun i => by rw [eY]; exact hYl i) fF fM (fun hk2 i hi => by
      have h0 : feq0 (M i i) = false := by
        unfold zeroTo at hz
        have e2 : (decide ((k : Int) = 2) || decide ((k : Int) = 4)) = true := by simp; omega
        rw [e2, Bool.true_and] at hz
        have := List.any_eq_false.1 hz i (List.mem_range.2 hi)
        rw [← hMd] at this
        simpa using this
      intro hv
      have := (order_val (fM i hi) (show fin 0 = true by decide +kernel)).2.1
      have e3 : feq (M i i) 0 = true := this.2 (by rw [hv]; decide +kernel)
      have e4 : feq (M i i) 0 = feq0 (M i i) := rfl
      rw [e4, h0] at e3
      cases e3) hi
    rw [eY] at hlaw
    have hcg : ∀ (a : Rat) m, m ≤ n → exS a (trC k M F i) m = exS a (trC k M (fun j => (VecMwrite ⟨Y, 0, n, 1⟩ ((List.range n).map F)).getD j 0) i) m ∧ exB a (trC k M F i) m = exB a (trC k M (fun j => (VecMwrite ⟨Y, 0, n, 1⟩ ((List.range n).map F)).getD j 0) i) m := fun a m => by
      induction m with
      | zero => intro _; exact ⟨rfl, rfl⟩
      | succ m ih =>
        intro hm
        obtain ⟨i1, i2⟩ := ih (by omega)
        have e : trC k M F i m = trC k M (fun j => (VecMwrite ⟨Y, 0, n, 1⟩ ((List.range n).map F)).getD j 0) i m := by unfold trC; simp only [eZ m (by omega)]
        exact ⟨by show _ + _ = _ + _; rw [i1, e], by show _ + _ = _ + _; rw [i2, e]⟩
    rw [← (hcg _ n (Nat.le_refl n)).1, ← (hcg _ n (Nat.le_refl n)).2]
    exact hlaw
end Go.Proofs.Ytcmggfpcbijcjaa
end
section
/-
  A region that draws, and where several operations act in no fixed order: a tree of orders.
-/
set_option linter.unusedSimpArgs false
set_option linter.unusedVariables false
namespace Sedge
open Go Go.RowKit
/-- A tree of orders: step k i t (kind 0: the same in every world of the class; 3: in every world); alt i t m: either i acts, then t; or one of m; stop: no more. -/
inductive OT where
  | done
  | step (k i : Nat) (t : OT)
  | alt (i : Nat) (t m : OT)
  | stop
def OT.alts : OT → List Nat
  | .alt i _ m => i :: m.alts
  | _ => []
def OT.fuel : OT → Nat
  | .done => 0
  | .step _ _ t => t.fuel + 1
  | .alt _ t _ => t.fuel + 1
  | .stop => 0
section
variable {P : Program} {ops : Array Oper} {Q : Exit → Act → World → Prop} {S : World → Prop}
def wpF (P : Program) (ops : Array Oper) (Q : Exit → Act → World → Prop) (S : World → Prop) : OT → Act → World → Prop
  | .done, a, w => Q .normal a w
  | .stop, _, _ => True
  | .step k i t, a, w =>
    match ops[i]? with
    | none => False
    | some o =>
      if Region.wanted o (yielded ops a.tmps) = true then
        ∃ v, (∀ w', (k = 0 → S w') → (execOp a.eval o).run P w' = .ok (.value v) w') ∧ wpF P ops Q S t (a.put o.dst v) w
      else wpF P ops Q S t (a.put o.dst undef) w
  | .alt i t m, a, w =>
    (match ops[i]? with
    | none => False
    | some o => o.guard = none ∧ o.wp P a w (fun a' w' => S w' ∧ wpF P ops Q S t a' w') Q) ∧ wpF P ops Q S m a w
def okF (ops : Array Oper) : OT → Array Bool → Bool → Bool
  | .done, listed, _ => (Region.ready .any ops listed).isEmpty
  | .stop, _, inner => inner
  | .step _ i t, listed, inner => !inner && (Region.ready .any ops listed).contains i && Region.free .any ops listed i && okF ops t (listed.setIfInBounds i true) false
  | .alt i t m, listed, inner => (inner || Region.ready .any ops listed == i :: m.alts) && okF ops t (listed.setIfInBounds i true) false && t.fuel == (match m with | .alt _ t' _ => t'.fuel | _ => t.fuel) && okF ops m listed true
theorem wanted_none' {o : Oper} {y : Nat → Option Bool} (hg : o.guard = none) : Region.wanted o y = true := by unfold Region.wanted; rw [hg]
theorem anyF (hsel : Region.noSelect ops = true) (hQ : ∀ c a d v w, Q (.panic c) (Act.put a d v) w → Q (.panic c) a w) : ∀ (t : OT),
    (∀ listed a w, okF ops t listed false = true → S w → wpF P ops Q S t a w → AnyT P .any ops Q S (fun _ => false) t.fuel listed a w) ∧
    (∀ listed a w n, okF ops t listed true = true → S w → wpF P ops Q S t a w → (∀ i t' m, t = .alt i t' m → t'.fuel = n) →
      ∀ j ∈ t.alts, wpOp P ops Q j (fun a' w' => (false = false → S w → S w') ∧ AnyT P .any ops Q S (fun _ => false) n (listed.setIfInBounds j true) a' w') a w)
  | .done => ⟨fun listed a w hok _ h => ⟨by simpa [okF] using hok, h⟩, fun _ _ _ _ _ _ _ _ j hj => by cases hj⟩
  | .stop => ⟨fun listed a w hok _ _ => by simp [okF] at hok, fun _ _ _ _ _ _ _ _ j hj => by cases hj⟩
  | .step k i t => by
    refine ⟨fun listed a w hok hS h => ?_, fun _ _ _ _ _ _ _ _ j hj => by cases hj⟩
    simp only [okF, Bool.and_eq_true, Bool.not_false, true_and] at hok
    obtain ⟨⟨h1, h2⟩, h3⟩ := hok
    unfold wpF at h
    cases ho : ops[i]? with
    | none => rw [ho] at h; exact h.elim
    | some o =>
      rw [ho] at h
      simp only at h
      by_cases hw : Region.wanted o (yielded ops a.tmps) = true
      · rw [if_pos hw] at h
        obtain ⟨v, hv, hn⟩ := h
        exact anyT_first (tail := fun _ => false) ho hsel hQ rfl (fun _ _ _ h => by cases h) t.fuel listed a w (Region.free_spec ho h2) (by simpa using h1) (.inl ⟨hw, fun w' hw' => hv w' fun _ => hw'⟩) hS ((anyF hsel hQ t).1 _ _ _ h3 hS hn)
      · rw [if_neg hw] at h
        exact anyT_first (tail := fun _ => false) ho hsel hQ rfl (fun _ _ _ h => by cases h) t.fuel listed a w (Region.free_spec ho h2) (by simpa using h1) (.inr ⟨by simpa using hw, rfl⟩) hS ((anyF hsel hQ t).1 _ _ _ h3 hS h)
  | .alt i t m => by
    have two : ∀ listed a w n, okF ops t (listed.setIfInBounds i true) false = true → okF ops m listed true = true → t.fuel = (match m with | .alt _ t' _ => t'.fuel | _ => t.fuel) → S w → wpF P ops Q S (.alt i t m) a w → t.fuel = n →
        ∀ j ∈ (OT.alt i t m).alts, wpOp P ops Q j (fun a' w' => (false = false → S w → S w') ∧ AnyT P .any ops Q S (fun _ => false) n (listed.setIfInBounds j true) a' w') a w := by
      intro listed a w n h1 h2 h3 hS h hn j hj
      unfold wpF at h
      obtain ⟨h4, h5⟩ := h
      rcases List.mem_cons.1 hj with rfl | hj
      · cases ho : ops[j]? with
        | none => rw [ho] at h4; exact h4.elim
        | some o =>
          rw [ho] at h4
          obtain ⟨hg, hwp⟩ := h4
          unfold wpOp
          rw [ho]
          simp only [wanted_none' hg, if_true]
          exact .inl (Oper.wp_mono (fun a' w' h' => ⟨fun _ _ => h'.1, by rw [← hn]; exact (anyF hsel hQ t).1 _ _ _ h1 h'.1 h'.2⟩) hwp)
      · refine (anyF hsel hQ m).2 listed a w n h2 hS h5 (fun i' t' m' hm => ?_) j hj
        subst hm
        simp only at h3
        omega
    refine ⟨fun listed a w hok hS h => ?_, fun listed a w n hok hS h hn => ?_⟩
    · simp only [okF, Bool.false_or, Bool.and_eq_true, beq_iff_eq] at hok
      obtain ⟨⟨⟨h1, h2⟩, h3⟩, h4⟩ := hok
      show AnyT P .any ops Q S _ (t.fuel + 1) listed a w
      refine ⟨fun h0 => (by rw [h1] at h0; cases h0), fun j hj => ?_⟩
      rw [h1] at hj
      exact two listed a w t.fuel h2 h4 h3 hS h rfl j hj
    · simp only [okF, Bool.true_or, Bool.true_and, Bool.and_eq_true, beq_iff_eq] at hok
      obtain ⟨⟨h2, h3⟩, h4⟩ := hok
      exact two listed a w n h2 h4 h3 hS h (hn i t m rfl)
theorem wp_region_F {id : Nat} {a : Act} {w : World} {l : List Oper} (S : World → Prop) (t : OT) (hm : P.follows .mixedOrders = true)
    (hB : (Region.noSelect l.toArray && okF l.toArray t (Array.replicate l.length false) false && t.fuel == l.length) = true)
    (hQ : ∀ c t df w, Q (.panic c) ⟨t, df⟩ w → ∀ t', Q (.panic c) ⟨t', df⟩ w) (hS : S w.drew)
    (h : wpF P l.toArray Q S t a w.drew) : (Code.region id l.toArray true).wp P Q a w := by
  simp only [Bool.and_eq_true, beq_iff_eq] at hB
  refine wp_region_any hm (any_of_anyT (S := S) (tail := fun _ => false) _ _ _ _ ?_)
  have hQ' : ∀ c a d v w, Q (.panic c) (Act.put a d v) w → Q (.panic c) a w := fun c a d v w h => by
    cases d with
    | none => exact h
    | some d => exact hQ c _ _ w h _
  have := (anyF (P := P) (Q := Q) (S := S) hB.1.1 hQ' t).1 (Array.replicate l.length false) a w.drew hB.1.2 hS h
  rw [hB.2] at this
  simpa using this
variable {l : List Oper}
theorem wpF_id {r : OT} {a : Act} {w : World} (h : wpF P ops Q S r a w) : wpF P ops Q S r a w := h
theorem wpF_done {a : Act} {w : World} (h : Q .normal a w) : wpF P ops Q S .done a w := h
theorem wpF_stop {a : Act} {w : World} : wpF P ops Q S .stop a w := trivial
theorem wpF_take {i : Nat} {o : Oper} {r : OT} {a : Act} {w : World} {v : Value} (ho : nth l i = some o) (hg : o.guard = none)
    (hv : ∀ w', S w' → (execOp a.eval o).run P w' = .ok (.value v) w')
    (h : wpF P l.toArray Q S r (a.put o.dst v) w) : wpF P l.toArray Q S (.step 0 i r) a w := by
  have hw := wanted_none (y := yielded l.toArray a.tmps) hg
  unfold wpF; rw [← nth_eq, ho]; simp only [hw, if_true]; exact ⟨v, fun w' h0 => hv w' (by simpa using h0), h⟩
theorem wpF_alt {i : Nat} {o : Oper} {r m : OT} {a : Act} {w : World} (ho : nth l i = some o) (hg : o.guard = none)
    (h : ∀ K : Act → World → Prop, (∀ a w, S w ∧ wpF P l.toArray Q S r a w → K a w) → o.wp P a w K Q) (hm : wpF P l.toArray Q S m a w) : wpF P l.toArray Q S (.alt i r m) a w := by
  unfold wpF; rw [← nth_eq, ho]; exact ⟨⟨hg, h _ fun _ _ h => h⟩, hm⟩
theorem wpF_go {r : OT} {a : Act} {w : World} (hS : S w) (h : wpF P ops Q S r a w) : S w ∧ wpF P ops Q S r a w := ⟨hS, h⟩
attribute [irreducible] wpF
end
end Sedge
end
section
/-
  A region that draws, with acts in no fixed order: one goal for each operation, off facts that last.
-/
set_option linter.unusedSimpArgs false
set_option linter.unusedVariables false
namespace Sedge
open Go Go.RowKit
section
variable {P : Program} {Q : Exit → Act → World → Prop} {l : List Oper}
/-- Does an operation wait for number i? -/
def deps (o : Oper) (i : Nat) : Bool := o.after.any fun e => Region.binds .any e && e.on == i
def stepJ (P : Program) (Q : Exit → Act → World → Prop) (l : List Oper) (J : (Nat → Bool) → Act → World → Prop) (i : Nat) (o : Oper) : Prop :=
  ∀ L a w, L i = false → (∀ e, deps o e = true → L e = true) → (∀ k ok, nth l k = some ok → deps ok i = true → L k = false) → J L a w →
    ∀ K : Act → World → Prop, (∀ a' w', J (fun k => k == i || L k) a' w' → K a' w') → o.wp P a w K Q
def stepsJ (P : Program) (Q : Exit → Act → World → Prop) (l : List Oper) (J : (Nat → Bool) → Act → World → Prop) : List Oper → Nat → Prop
  | [], _ => True
  | o :: r, i => stepJ P Q l J i o ∧ stepsJ P Q l J r (i + 1)
def okAt : List Oper → Nat → Bool
  | [], _ => true
  | o :: r, i => o.guard.isNone && (o.after.all fun e => !Region.binds .any e || decide (e.on < i)) && okAt r (i + 1)
theorem stepsJ_nth {J : (Nat → Bool) → Act → World → Prop} : ∀ (r : List Oper) (b : Nat), stepsJ P Q l J r b → ∀ i o, nth r i = some o → stepJ P Q l J (b + i) o
  | [], _, _, _, _, h => by cases h
  | o :: r, b, h, 0, o', h' => by simp only [nth, Option.some.injEq] at h'; subst h'; exact h.1
  | o :: r, b, h, i + 1, o', h' => by have := stepsJ_nth r (b + 1) h.2 i o' h'; rwa [show b + (i + 1) = b + 1 + i from by omega]
theorem okAt_nth : ∀ (r : List Oper) (b : Nat), okAt r b = true → ∀ i o, nth r i = some o → o.guard = none ∧ ∀ e ∈ o.after, Region.binds .any e = true → e.on < b + i
  | [], _, _, _, _, h => by cases h
  | o :: r, b, h, 0, o', h' => by
    simp only [nth, Option.some.injEq] at h'; subst h'
    simp only [okAt, Bool.and_eq_true, Option.isNone_iff_eq_none, Array.all_eq_true_iff_forall_mem, Bool.or_eq_true, Bool.not_eq_true', decide_eq_true_eq] at h
    exact ⟨h.1.1, fun e he hb => by rcases h.1.2 e he with h1 | h1; · rw [h1] at hb; cases hb
                                    · exact h1⟩
  | o :: r, b, h, i + 1, o', h' => by
    simp only [okAt, Bool.and_eq_true] at h
    have := okAt_nth r (b + 1) h.2 i o' h'
    rwa [show b + 1 + i = b + (i + 1) from by omega] at this
theorem nth_len : ∀ (r : List Oper) (i : Nat), i < r.length → ∃ o, nth r i = some o
  | [], _, h => by simp at h
  | o :: r, 0, _ => ⟨o, rfl⟩
  | o :: r, i + 1, h => nth_len r i (by simpa using h)
theorem count_set : ∀ (b : List Bool) (i : Nat), b[i]? = some false → (b.set i true).count false + 1 = b.count false
  | [], i, h => by simp at h
  | x :: b, 0, h => by simp at h; subst h; simp
  | x :: b, i + 1, h => by
    have := count_set b i (by simpa using h)
    simp only [List.set_cons_succ, List.count_cons]; omega
theorem parJ {J : (Nat → Bool) → Act → World → Prop} (hok : okAt l 0 = true) (hs : stepsJ P Q l J l 0)
    (he : ∀ L a w, (∀ k, k < l.length → L k = true) → J L a w → Q .normal a w) :
    ∀ (fuel : Nat) (b : Array Bool) (a : Act) (w : World), b.size = l.length → b.toList.count false = fuel →
      (∀ k ok i, nth l k = some ok → deps ok i = true → b.getD k false = true → b.getD i false = true) → J (fun k => b.getD k false) a w →
      wpAny P .any l.toArray Q fuel b a w := by
  intro fuel
  induction fuel with
  | zero =>
    intro b a w hb hc _ hJ
    have hall : ∀ k, k < l.length → b.getD k false = true := by
      intro k hk
      have h1 : b[k]? = some b[k] := Array.getElem?_eq_getElem (by omega)
      have h2 : ∀ x ∈ b.toList, x ≠ false := fun x hx hf => by subst hf; exact absurd hx (List.count_eq_zero.1 hc)
      have h3 := h2 b[k] (by simp)
      simp [Array.getD, hb, hk]; simpa using h3
    refine ⟨?_, he _ _ _ hall hJ⟩
    rw [List.eq_nil_iff_forall_not_mem]
    intro j hj
    obtain ⟨h1, o, ho, _⟩ := mem_ready.1 hj
    have hjl : j < l.length := by have := (List.getElem?_eq_some_iff.1 (by simpa using ho)).1; simpa using this
    have := hall j hjl
    simp [Array.getD, hb, hjl] at h1 this
    rw [h1] at this; cases this
  | succ n ih =>
    intro b a w hb hc hcl hJ
    refine ⟨fun hr => ?_, fun i hi => ?_⟩
    · -- the least that is not listed would be ready
      have hall : ∀ k, k < l.length → b.getD k false = true := by
        intro k
        induction k using Nat.strongRecOn with
        | _ k ihk =>
          intro hk
          cases hbk : b.getD k false
          · obtain ⟨o, ho⟩ := nth_len l k hk
            have hin : k ∈ Region.ready .any l.toArray b := by
              refine mem_ready.2 ⟨?_, o, by rw [← nth_eq]; exact ho, fun e hee hbd => ?_⟩
              · simp [Array.getD, hb, hk] at hbk ⊢; exact hbk
              · have h1 := (okAt_nth l 0 hok k o ho).2 e hee hbd
                exact ihk e.on (by omega) (by omega)
            rw [hr] at hin; cases hin
          · rfl
      exact he _ _ _ hall hJ
    · obtain ⟨h1, o, ho, hd⟩ := mem_ready.1 hi
      have hil : i < l.length := by have := (List.getElem?_eq_some_iff.1 (by simpa using ho)).1; simpa using this
      have hbi : b.getD i false = false := by simp [Array.getD, hb, hil] at h1 ⊢; exact h1
      have hno : nth l i = some o := by rw [nth_eq]; exact ho
      unfold wpOp
      rw [ho]
      simp only [wanted_none' (okAt_nth l 0 hok i o hno).1, if_true]
      refine .inl ?_
      have hst := stepsJ_nth l 0 hs i o hno
      rw [Nat.zero_add] at hst
      have hdep : ∀ e, deps o e = true → b.getD e false = true := fun e hee => by
        unfold deps at hee
        simp only [Array.any_eq_true, Bool.and_eq_true, beq_iff_eq] at hee
        obtain ⟨m, hm, h2, h3⟩ := hee
        rw [← h3]; exact hd _ (Array.getElem_mem hm) h2
      refine hst (fun k => b.getD k false) a w hbi hdep (fun k ok hk hw => ?_) hJ _ (fun a' w' hJ' => ?_)
      · cases hk2 : b.getD k false
        · rfl
        · rw [hcl k ok i hk hw hk2] at hbi; cases hbi
      · have hset : ∀ k, (b.setIfInBounds i true).getD k false = (k == i || b.getD k false) := by
          intro k
          simp only [Array.getD_eq_getD_getElem?, Array.getElem?_setIfInBounds]
          by_cases hki : i = k
          · subst hki; simp [hb, hil]
          · have hki' : ¬ k = i := fun e => hki e.symm
            rw [if_neg hki]; simp [hki']
        refine ih _ a' w' (by simpa using hb) ?_ (fun k ok e hk hw hk2 => ?_) ?_
        · have := count_set b.toList i (by simp [Array.getD, hb, hil] at hbi ⊢; exact hbi)
          rw [Array.toList_setIfInBounds]; omega
        · rw [hset] at hk2 ⊢
          simp only [Bool.or_eq_true, beq_iff_eq] at hk2 ⊢
          rcases hk2 with h | h
          · subst h
            rw [hno] at hk; cases hk
            exact .inr (hdep e hw)
          · exact .inr (hcl k ok e hk hw h)
        · have : (fun k => (b.setIfInBounds i true).getD k false) = (fun k => k == i || b.getD k false) := funext hset
          rw [this]; exact hJ'
theorem wp_region_J {id : Nat} {a : Act} {w : World} {l : List Oper} (J : (Nat → Bool) → Act → World → Prop) (hm : P.follows .mixedOrders = true)
    (hok : okAt l 0 = true) (h0 : J (fun _ => false) a w.drew) (hs : stepsJ P Q l J l 0)
    (he : ∀ L a w, (∀ k, k < l.length → L k = true) → J L a w → Q .normal a w) : (Code.region id l.toArray true).wp P Q a w := by
  refine wp_region_any hm ?_
  have hrep : ∀ n k : Nat, (Array.replicate n false).getD k false = false := fun n k => by simp [Array.getD_eq_getD_getElem?, Array.getElem?_replicate]; split <;> rfl
  refine parJ hok hs he _ _ a _ (by simp) (by simp) (fun k ok i _ _ h => ?_) ?_
  · rw [hrep] at h; cases h
  · have : (fun k => (Array.replicate l.toArray.size false).getD k false) = (fun _ : Nat => false) := funext fun k => hrep _ k
    rw [this]; exact h0
end
end Sedge
end
