import Derived.Test.YtcmggfpcbijcjaaFltVal2
set_option linter.unusedSimpArgs false
set_option linter.unusedVariables false
namespace Sedge
open Ieee

theorem read_number_or (b : Nat) : (∃ s m p, D64.read b = .number s m p) ∨ (∃ s, D64.read b = .infinity s) ∨ (∃ s t, D64.read b = .nan s t) := by
  cases h : D64.read b with
  | number s m p => exact .inl ⟨_, _, _, rfl⟩
  | infinity s => exact .inr (.inl ⟨_, rfl⟩)
  | nan s t => exact .inr (.inr ⟨_, _, rfl⟩)

theorem fin_iff (b : Nat) : fin b = true ↔ ∃ s m p, D64.read b = .number s m p := by
  unfold fin
  rcases read_number_or b with ⟨s, m, p, h⟩ | ⟨s, h⟩ | ⟨s, t, h⟩ <;> simp [h]
theorem val_of {b : Nat} {s : Bool} {m : Nat} {p : Int} (h : D64.read b = .number s m p) : val b = dat s m p := by
  unfold val; rw [h]

theorem fin_of_read {b : Nat} {s : Bool} {m : Nat} {p : Int} (h : D64.read b = .number s m p) : fin b = true := (fin_iff b).2 ⟨_, _, _, h⟩
theorem fin_notnan {b : Nat} (h : fin b = true) : isNan b = false := by
  obtain ⟨s, m, p, h⟩ := (fin_iff b).1 h
  unfold isNan; rw [h]; rfl
theorem fin_QN : fin QN = false := by decide +kernel
theorem fin_inf (s : Bool) : fin (D64.write (.infinity s)) = false := by cases s <;> decide +kernel
theorem fin_canon (b : Nat) : fin (canon b) = fin b := by
  cases h : isNan b
  · rw [canon_not h]
  · rw [canon_nan h, fin_QN]
    cases hf : fin b
    · rfl
    · rw [fin_notnan hf] at h; cases h
theorem val_canon {b : Nat} (h : fin b = true) : val (canon b) = val b := by rw [canon_not (fin_notnan h)]

theorem dat_zero (s : Bool) (p : Int) : dat s 0 p = 0 := by unfold dat; simp
theorem word_zero (s : Bool) : val (D64.word s 0) = 0 ∧ fin (D64.word s 0) = true := by
  have h : D64.read (D64.word s 0) = .number s 0 (-1074) := by
    rw [read_word s 0 (by decide +kernel), if_pos (by decide +kernel)]
  exact ⟨by rw [val_of h, dat_zero], fin_of_read h⟩

def U : Rat := p2 (-53)
def ETA : Rat := p2 (-1075)
theorem U_pos : 0 < U := p2_pos _
theorem ETA_pos : 0 < ETA := p2_pos _

theorem dat_abs (s : Bool) (m : Nat) (p : Int) : (dat s m p).abs = (m : Rat) * p2 p := by
  unfold dat
  rw [abs_sgn_mul, Rat.abs_of_nonneg (Rat.mul_nonneg Rat.natCast_nonneg (Rat.le_of_lt (p2_pos p)))]

theorem half_unit (m : Nat) (p : Int) (h : m ≠ 0) : p2 (lastP m p - 1) ≤ U * ((m : Rat) * p2 p) + ETA := by
  have hm : 0 ≤ (m : Rat) * p2 p := Rat.mul_nonneg Rat.natCast_nonneg (Rat.le_of_lt (p2_pos p))
  rcases lastP_or m p with h1 | h1
  · rw [h1]
    have h2 : p2 (p + m.log2 - 52 - 1) = U * (p2 p * p2 (m.log2 : Nat)) := by
      unfold U; rw [← p2_add, ← p2_add]; congr 1; omega
    rw [h2]
    have h3 : p2 (m.log2 : Nat) ≤ (m : Rat) := by rw [p2_nat]; exact Rat.natCast_le_natCast.2 (log2_spec m h).1
    have h4 := Rat.mul_le_mul_of_nonneg_left h3 (Rat.le_of_lt (p2_pos p))
    have h5 := Rat.mul_le_mul_of_nonneg_left h4 (Rat.le_of_lt U_pos)
    have := ETA_pos
    grind
  · rw [h1.1]
    have := Rat.mul_nonneg (Rat.le_of_lt U_pos) hm
    show ETA ≤ _
    grind

/-- WHAT IS WRITTEN, IF FINITE, IS CLOSE TO WHAT WAS MEANT. -/
theorem write_err (s : Bool) (m : Nat) (p : Int) (hf : fin (D64.write (.number s m p)) = true) :
    (val (D64.write (.number s m p)) - dat s m p).abs ≤ U * (dat s m p).abs + ETA := by
  by_cases h : m = 0
  · subst h
    have e : D64.write (.number s 0 p) = D64.word s 0 := by
      show D64.nearest s 0 p = _; unfold Format.nearest; rw [if_pos rfl]
    rw [e, (word_zero s).1, dat_zero]
    have := ETA_pos
    have e1 : ((0 : Rat) - 0).abs = 0 := by decide +kernel
    have e2 : (0 : Rat).abs = 0 := by decide +kernel
    rw [e1, e2]
    grind
  · have h1 := (nearest_err s m p h hf).1
    have h2 := half_unit m p h
    rw [dat_abs]
    exact Rat.le_trans h1 h2

/-! SUMS -/
theorem signed_val (s : Bool) (m k : Nat) (p : Int) : ((signed s m k : Int) : Rat) * p2 p = dat s m (p + k) := by
  unfold signed dat
  cases s
  · simp only [Bool.false_eq_true, if_false, sgn]
    rw [Nat.shiftLeft_eq, Rat.intCast_natCast, Rat.natCast_mul, ← p2_nat, p2_add]
    grind
  · simp only [if_true, sgn]
    rw [Nat.shiftLeft_eq, Rat.intCast_neg, Rat.intCast_natCast, Rat.natCast_mul, ← p2_nat, p2_add]
    grind

theorem natAbs_val (z : Int) (b : Bool) (hb : z ≠ 0 → b = decide (z < 0)) (p : Int) : dat b z.natAbs p = (z : Rat) * p2 p := by
  unfold dat
  rcases Int.lt_trichotomy z 0 with h | h | h
  · rw [hb (by omega), decide_eq_true h]
    have e : (z : Rat) = -((z.natAbs : Nat) : Rat) := by
      have : z = -((z.natAbs : Nat) : Int) := by omega
      rw [← Rat.intCast_natCast, ← Rat.intCast_neg, ← this]
    rw [e]; simp only [sgn, if_true]; grind
  · subst h; simp
  · rw [hb (by omega), decide_eq_false (by omega)]
    have e : (z : Rat) = ((z.natAbs : Nat) : Rat) := by
      have : z = ((z.natAbs : Nat) : Int) := by omega
      rw [← Rat.intCast_natCast, ← this]
    rw [e]; simp only [sgn, Bool.false_eq_true, if_false]; grind

theorem sum_val {s t : Bool} {m n : Nat} {i j : Int} : ∃ c z b, (Datum.number s m i).sum (.number t n j) = some (.number c z b) ∧ dat c z b = dat s m i + dat t n j := by
  refine ⟨_, _, _, rfl, ?_⟩
  rw [natAbs_val _ _ (by intro h; simp [h])]
  rw [Rat.intCast_add, Rat.add_mul, signed_val, signed_val]
  congr 2 <;> omega

theorem fin_getD {o : Option Datum} (h : fin ((o.map D64.write).getD QN) = true) (hn : ∀ d, o = some d → d.isNaN = false) : ∃ s m p, o = some (.number s m p) := by
  cases o with
  | none => simp only [Option.map, Option.getD, fin_QN] at h; cases h
  | some d =>
    cases d with
    | number s m p => exact ⟨s, m, p, rfl⟩
    | infinity s => simp only [Option.map, Option.getD, fin_inf] at h; cases h
    | nan s t => have := hn _ rfl; cases this
theorem sum_number {d e : Datum} {s : Bool} {m : Nat} {p : Int} (h : d.sum e = some (.number s m p)) : (∃ a b c, d = .number a b c) ∧ (∃ a b c, e = .number a b c) := by
  cases d <;> cases e <;> simp only [Datum.sum] at h <;> first | exact ⟨⟨_, _, _, rfl⟩, ⟨_, _, _, rfl⟩⟩ | cases h | (split at h <;> cases h)
theorem product_number {d e : Datum} {s : Bool} {m : Nat} {p : Int} (h : d.product e = some (.number s m p)) : (∃ a b c, d = .number a b c) ∧ (∃ a b c, e = .number a b c) := by
  cases d <;> cases e <;> simp only [Datum.product] at h <;> first | exact ⟨⟨_, _, _, rfl⟩, ⟨_, _, _, rfl⟩⟩ | cases h | (split at h <;> cases h)
theorem opposite_number {d : Datum} {s : Bool} {m : Nat} {p : Int} (h : d.opposite = .number s m p) : ∃ a b c, d = .number a b c := by
  cases d <;> simp only [Datum.opposite] at h <;> first | exact ⟨_, _, _, rfl⟩ | cases h

theorem fadd_fin {x y : Nat} (h : fin (fadd x y) = true) : fin x = true ∧ fin y = true := by
  obtain ⟨s, m, p, ho⟩ := fin_getD h (fun d hd => sum_notnan hd)
  obtain ⟨h1, h2⟩ := sum_number ho
  exact ⟨(fin_iff _).2 h1, (fin_iff _).2 h2⟩

theorem fadd_read {x y : Nat} (hx : fin x = true) (hy : fin y = true) : ∃ c z b, fadd x y = D64.write (.number c z b) ∧ dat c z b = val x + val y := by
  obtain ⟨s, m, p, hx⟩ := (fin_iff x).1 hx
  obtain ⟨s', m', p', hy⟩ := (fin_iff y).1 hy
  obtain ⟨c, z, b, h1, h2⟩ := sum_val (s := s) (t := s') (m := m) (n := m') (i := p) (j := p')
  refine ⟨c, z, b, ?_, ?_⟩
  · unfold fadd Format.add; rw [hx, hy, h1]; rfl
  · rw [h2, val_of hx, val_of hy]

theorem fadd_err {x y : Nat} (h : fin (fadd x y) = true) : (val (fadd x y) - (val x + val y)).abs ≤ U * (val x + val y).abs + ETA := by
  obtain ⟨hx, hy⟩ := fadd_fin h
  obtain ⟨c, z, b, h1, h2⟩ := fadd_read hx hy
  rw [h1] at h ⊢
  rw [← h2]
  exact write_err c z b h

/-! PRODUCTS -/
theorem natCast_mul' (m n : Nat) : ((m * n : Nat) : Rat) = (m : Rat) * n := Rat.natCast_mul m n
theorem sgn_xor (s t : Bool) : sgn (s ^^ t) = sgn s * sgn t := by cases s <;> cases t <;> decide +kernel
theorem product_val (s t : Bool) (m n : Nat) (i j : Int) : dat (s ^^ t) (m * n) (i + j) = dat s m i * dat t n j := by
  unfold dat
  rw [natCast_mul', p2_add, sgn_xor]
  grind

theorem fmul_fin {x y : Nat} (h : fin (fmul x y) = true) : fin x = true ∧ fin y = true := by
  obtain ⟨s, m, p, ho⟩ := fin_getD h (fun d hd => product_notnan hd)
  obtain ⟨h1, h2⟩ := product_number ho
  exact ⟨(fin_iff _).2 h1, (fin_iff _).2 h2⟩

theorem fmul_read {x y : Nat} (hx : fin x = true) (hy : fin y = true) : ∃ c z b, fmul x y = D64.write (.number c z b) ∧ dat c z b = val x * val y := by
  obtain ⟨s, m, p, hx⟩ := (fin_iff x).1 hx
  obtain ⟨s', m', p', hy⟩ := (fin_iff y).1 hy
  refine ⟨s ^^ s', m * m', p + p', ?_, ?_⟩
  · unfold fmul Format.mul; rw [hx, hy]; rfl
  · rw [product_val, val_of hx, val_of hy]

theorem fmul_err {x y : Nat} (h : fin (fmul x y) = true) : (val (fmul x y) - val x * val y).abs ≤ U * (val x * val y).abs + ETA := by
  obtain ⟨hx, hy⟩ := fmul_fin h
  obtain ⟨c, z, b, h1, h2⟩ := fmul_read hx hy
  rw [h1] at h ⊢
  rw [← h2]
  exact write_err c z b h

/-! DIFFERENCES: y's sign turned. -/
theorem dat_not (s : Bool) (m : Nat) (p : Int) : dat (!s) m p = - dat s m p := by
  unfold dat
  cases s <;> simp only [sgn, Bool.not_true, Bool.not_false, Bool.false_eq_true, if_true, if_false] <;> grind
theorem fsub_fin {x y : Nat} (h : fin (fsub x y) = true) : fin x = true ∧ fin y = true := by
  obtain ⟨s, m, p, ho⟩ := fin_getD h (fun d hd => sum_notnan hd)
  obtain ⟨h1, a, b, c, h2⟩ := sum_number ho
  exact ⟨(fin_iff _).2 h1, (fin_iff _).2 (opposite_number h2)⟩
theorem fsub_read {x y : Nat} (hx : fin x = true) (hy : fin y = true) : ∃ c z b, fsub x y = D64.write (.number c z b) ∧ dat c z b = val x - val y := by
  obtain ⟨s, m, p, hx⟩ := (fin_iff x).1 hx
  obtain ⟨s', m', p', hy⟩ := (fin_iff y).1 hy
  obtain ⟨c, z, b, h1, h2⟩ := sum_val (s := s) (t := !s') (m := m) (n := m') (i := p) (j := p')
  refine ⟨c, z, b, ?_, ?_⟩
  · unfold fsub Format.sub; rw [hx, hy]; simp only [Datum.opposite]; rw [h1]; rfl
  · rw [h2, val_of hx, val_of hy, dat_not]; grind
theorem fsub_err {x y : Nat} (h : fin (fsub x y) = true) : (val (fsub x y) - (val x - val y)).abs ≤ U * (val x - val y).abs + ETA := by
  obtain ⟨hx, hy⟩ := fsub_fin h
  obtain ⟨c, z, b, h1, h2⟩ := fsub_read hx hy
  rw [h1] at h ⊢
  rw [← h2]
  exact write_err c z b h

end Sedge
