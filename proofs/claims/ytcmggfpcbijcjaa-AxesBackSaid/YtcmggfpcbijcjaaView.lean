/-
  Contracts: whether vectors and matrices are right (layer 3 and its reference).
-/
import Derived.Test.YtcmggfpcbijcjaaProg
import Derived.Test.YtcmggfpcbijcjaaMem
set_option linter.unusedSimpArgs false
set_option linter.unusedVariables false
open Go Go.RowKit Sedge
namespace Go.Proofs.Ytcmggfpcbijcjaa

theorem fitsB_eq (size off steps step more : Int) (h1 : 0 ≤ off) (h5 : 1 ≤ step) :
   decide (steps ≤ (size - 1 - off - more) / step) = fitsB size off steps step more := by
  unfold fitsB
  have : steps ≤ (size - 1 - off - more) / step ↔ steps * step ≤ size - 1 - off - more := Int.le_ediv_iff_mul_le (by omega)
  simp only [this]
  congr 1
  simp only [eq_iff_iff]
  constructor
  · intro h; exact ⟨h1, by omega⟩
  · intro h; omega
theorem fitsB_no (size off steps step more : Int) (h4 : 0 ≤ steps) (h5 : 1 ≤ step) (h6 : 0 ≤ more) (h : size ≤ off + more) : fitsB size off steps step more = false := by
  unfold fitsB
  have : 0 ≤ steps * step := Int.mul_nonneg h4 (by omega)
  simp; omega
theorem fitsB_swap (size off steps step more : Int) (h1 : 0 ≤ off) (h4 : 1 ≤ steps) :
   decide (step ≤ (size - off - more - 1) / steps) = fitsB size off steps step more := by
  unfold fitsB
  have : step ≤ (size - off - more - 1) / steps ↔ step * steps ≤ size - off - more - 1 := Int.le_ediv_iff_mul_le (by omega)
  simp only [this]
  congr 1
  simp only [eq_iff_iff]
  rw [Int.mul_comm step steps]
  constructor
  · intro h; exact ⟨h1, by omega⟩
  · intro h; omega

set_option maxHeartbeats 400000 in
theorem fits_any (size off steps step more : Int) (w : World) (h0 : 0 ≤ size) (h0' : size ≤ 9223372036854775807) (h1 : 0 ≤ off) (h1' : off ≤ 9223372036854775807) (h4 : 0 ≤ steps) (h5 : 1 ≤ step) (h6 : 0 ≤ more) (h6' : more ≤ 9223372036854775807) :
   Calls Try.prog 193 #[.int .i64 size, .int .i64 off, .int .i64 steps, .int .i64 step, .int .i64 more] w (fun e w' => e = .returned (.bool (fitsB size off steps step more)) ∧ w = w') := by
  by_cases h2 : off < size
  · by_cases h3 : more < size - off
    · go_enter Try.func193, Try.ntmps193
      go_wp2
      go_ret
      exact ⟨by simp [fitsB_eq, *], rfl⟩
    · go_enter Try.func193, Try.ntmps193
      go_wp2
      go_ret
      exact ⟨by rw [fitsB_no] <;> first | rfl | omega, rfl⟩
  · go_enter Try.func193, Try.ntmps193
    go_wp2
    go_ret
    exact ⟨by rw [fitsB_no] <;> first | rfl | omega, rfl⟩

/-- straightedgeref03.within (a is the number of steps, b a step). -/
theorem within_any (size off steps step more : Int) (w : World) (h0 : 0 ≤ size) (h0' : size ≤ 9223372036854775807) (h1 : 0 ≤ off) (h1' : off ≤ 9223372036854775807) (h4 : 0 ≤ steps) (h5 : 1 ≤ step) (h6 : 0 ≤ more) (h6' : more ≤ 9223372036854775807) (h7 : steps ≤ 9223372036854775807) :
   Calls Try.prog 133 #[.int .i64 size, .int .i64 off, .int .i64 steps, .int .i64 step, .int .i64 more] w (fun e w' => e = .returned (.bool (fitsB size off steps step more)) ∧ w = w') := by
  by_cases h2 : off < size
  · by_cases h3 : more < size - off
    · by_cases h8 : steps = 0
      · subst h8
        go_enter Try.func133, Try.ntmps133
        go_wp2
        go_ret
        exact ⟨by simp [fitsB]; omega, rfl⟩
      · have h8' : (steps == 0) = false := by simpa using h8
        go_enter Try.func133, Try.ntmps133
        go_wp2
        go_ret
        exact ⟨by rw [fitsB_swap] <;> first | rfl | omega, rfl⟩
    · go_enter Try.func133, Try.ntmps133
      go_wp2
      go_ret
      exact ⟨by rw [fitsB_no] <;> first | rfl | omega, rfl⟩
  · go_enter Try.func133, Try.ntmps133
    go_wp2
    go_ret
    exact ⟨by rw [fitsB_no] <;> first | rfl | omega, rfl⟩

set_option maxHeartbeats 400000 in
theorem right_any (x : VecM) (D : Value) (w : World) (hD : FS w D x.ws) (hwf : x.wf) :
   Calls Try.prog 135 #[.agg #[D, .int .i64 x.off, .int .i64 x.n, .int .i64 x.inc]] w (fun e w' => e = .returned (.bool x.right) ∧ ∃ o n, w' = ext w o n) := by
  obtain ⟨ws, off, n, inc⟩ := x
  obtain ⟨a, cap, rfl⟩ := hD.shape
  have hl := hD.len
  simp only [VecM.wf, I64] at hwf hD hl ⊢
  obtain ⟨⟨_, _⟩, ⟨_, _⟩, ⟨_, _⟩⟩ := hwf
  by_cases k1 : n < 0
  · go_enter Try.func135, Try.ntmps135
    go_wp2
    go_ret
    exact ⟨by simp [VecM.right]; omega, (Grew.refl _).alloc _⟩
  by_cases k2 : inc < 1
  · go_enter Try.func135, Try.ntmps135
    go_wp2
    go_ret
    exact ⟨by simp [VecM.right]; omega, (Grew.refl _).alloc _⟩
  by_cases k3 : off < 0
  · go_enter Try.func135, Try.ntmps135
    go_wp2
    go_ret
    exact ⟨by simp [VecM.right]; omega, (Grew.refl _).alloc _⟩
  by_cases k4 : n = 0
  · subst k4
    go_enter Try.func135, Try.ntmps135
    go_wp2
    go_ret
    exact ⟨by simp [VecM.right]; omega, (Grew.refl _).alloc _⟩
  · have k4' : (n == 0) = false := by simpa using k4
    go_enter Try.func135, Try.ntmps135
    go_wp2_with (go_at_call 193; refine (fits_any _ _ _ _ _ _ (by omega) (by omega) (by omega) (by omega) (by omega) (by omega) (by omega) (by omega)).mono ?_; rintro e w' ⟨rfl, rfl⟩)
    go_ret
    exact ⟨by simp [VecM.right, k4]; omega, (Grew.refl _).alloc _⟩

set_option maxHeartbeats 400000 in
theorem rright_any (x : VecM) (D : Value) (w : World) (hD : FS w D x.ws) (hwf : x.wf) :
   Calls Try.prog 56 #[.agg #[D, .int .i64 x.off, .int .i64 x.n, .int .i64 x.inc]] w (fun e w' => e = .returned (.bool x.right) ∧ ∃ o n, w' = ext w o n) := by
  obtain ⟨ws, off, n, inc⟩ := x
  obtain ⟨a, cap, rfl⟩ := hD.shape
  have hl := hD.len
  simp only [VecM.wf, I64] at hwf hD hl ⊢
  obtain ⟨⟨_, _⟩, ⟨_, _⟩, ⟨_, _⟩⟩ := hwf
  by_cases k1 : n < 0
  · go_enter Try.func56, Try.ntmps56
    go_wp2
    go_ret
    exact ⟨by simp [VecM.right]; omega, (Grew.refl _).alloc _⟩
  by_cases k2 : inc < 1
  · go_enter Try.func56, Try.ntmps56
    go_wp2
    go_ret
    exact ⟨by simp [VecM.right]; omega, (Grew.refl _).alloc _⟩
  by_cases k3 : off < 0
  · go_enter Try.func56, Try.ntmps56
    go_wp2
    go_ret
    exact ⟨by simp [VecM.right]; omega, (Grew.refl _).alloc _⟩
  by_cases k4 : n = 0
  · subst k4
    go_enter Try.func56, Try.ntmps56
    go_wp2
    go_ret
    exact ⟨by simp [VecM.right]; omega, (Grew.refl _).alloc _⟩
  · have k4' : (n == 0) = false := by simpa using k4
    go_enter Try.func56, Try.ntmps56
    go_wp2_with (go_at_call 133; refine (within_any _ _ _ _ _ _ (by omega) (by omega) (by omega) (by omega) (by omega) (by omega) (by omega) (by omega) (by omega)).mono ?_; rintro e w' ⟨rfl, rfl⟩)
    go_ret
    exact ⟨by simp [VecM.right, k4]; omega, (Grew.refl _).alloc _⟩

set_option maxHeartbeats 1000000 in
theorem good_any (x : MatM) (D : Value) (w : World) (hD : FS w D x.ws) (hwf : x.wf) :
   Calls Try.prog 130 #[.agg #[D, .int .i64 x.off, .int .i64 x.rows, .int .i64 x.cols, .int .i64 x.ld]] w (fun e w' => e = .returned (.bool x.good) ∧ ∃ o n, w' = ext w o n) := by
  obtain ⟨ws, off, rows, cols, ld⟩ := x
  obtain ⟨a, cap, rfl⟩ := hD.shape
  have hl := hD.len
  simp only [MatM.wf, I64] at hwf hD hl ⊢
  obtain ⟨⟨_, _⟩, ⟨_, _⟩, ⟨_, _⟩, ⟨_, _⟩⟩ := hwf
  by_cases k1 : rows < 0
  · go_enter Try.func130, Try.ntmps130
    go_wp2
    go_ret
    exact ⟨by simp [MatM.good]; omega, (Grew.refl _).alloc _⟩
  by_cases k2 : cols < 0
  · go_enter Try.func130, Try.ntmps130
    go_wp2
    go_ret
    exact ⟨by simp [MatM.good]; omega, (Grew.refl _).alloc _⟩
  by_cases k3 : off < 0
  · go_enter Try.func130, Try.ntmps130
    go_wp2
    go_ret
    exact ⟨by simp [MatM.good]; omega, (Grew.refl _).alloc _⟩
  by_cases k4 : ld < 1
  · go_enter Try.func130, Try.ntmps130
    go_wp2
    go_ret
    exact ⟨by simp [MatM.good]; omega, (Grew.refl _).alloc _⟩
  by_cases k5 : ld < rows
  · go_enter Try.func130, Try.ntmps130
    go_wp2
    go_ret
    exact ⟨by simp [MatM.good]; omega, (Grew.refl _).alloc _⟩
  by_cases k6 : rows = 0
  · subst k6
    go_enter Try.func130, Try.ntmps130
    go_wp2
    go_ret
    exact ⟨by simp [MatM.good]; omega, (Grew.refl _).alloc _⟩
  have k6' : (rows == 0) = false := by simpa using k6
  by_cases k7 : cols = 0
  · subst k7
    go_enter Try.func130, Try.ntmps130
    go_wp2
    go_ret
    exact ⟨by simp [MatM.good]; omega, (Grew.refl _).alloc _⟩
  · have k7' : (cols == 0) = false := by simpa using k7
    go_enter Try.func130, Try.ntmps130
    go_wp2_with (go_at_call 193; refine (fits_any _ _ _ _ _ _ (by omega) (by omega) (by omega) (by omega) (by omega) (by omega) (by omega) (by omega)).mono ?_; rintro e w' ⟨rfl, rfl⟩)
    go_ret
    exact ⟨by simp [MatM.good, k6, k7]; omega, (Grew.refl _).alloc _⟩

set_option maxHeartbeats 1000000 in
theorem rgood_any (x : MatM) (D : Value) (w : World) (hD : FS w D x.ws) (hwf : x.wf) :
   Calls Try.prog 46 #[.agg #[D, .int .i64 x.off, .int .i64 x.rows, .int .i64 x.cols, .int .i64 x.ld]] w (fun e w' => e = .returned (.bool x.good) ∧ ∃ o n, w' = ext w o n) := by
  obtain ⟨ws, off, rows, cols, ld⟩ := x
  obtain ⟨a, cap, rfl⟩ := hD.shape
  have hl := hD.len
  simp only [MatM.wf, I64] at hwf hD hl ⊢
  obtain ⟨⟨_, _⟩, ⟨_, _⟩, ⟨_, _⟩, ⟨_, _⟩⟩ := hwf
  by_cases k1 : rows < 0
  · go_enter Try.func46, Try.ntmps46
    go_wp2
    go_ret
    exact ⟨by simp [MatM.good]; omega, (Grew.refl _).alloc _⟩
  by_cases k2 : cols < 0
  · go_enter Try.func46, Try.ntmps46
    go_wp2
    go_ret
    exact ⟨by simp [MatM.good]; omega, (Grew.refl _).alloc _⟩
  by_cases k4 : ld < 1
  · go_enter Try.func46, Try.ntmps46
    go_wp2
    go_ret
    exact ⟨by simp [MatM.good]; omega, (Grew.refl _).alloc _⟩
  by_cases k5 : ld < rows
  · go_enter Try.func46, Try.ntmps46
    go_wp2
    go_ret
    exact ⟨by simp [MatM.good]; omega, (Grew.refl _).alloc _⟩
  by_cases k3 : off < 0
  · go_enter Try.func46, Try.ntmps46
    go_wp2
    go_ret
    exact ⟨by simp [MatM.good]; omega, (Grew.refl _).alloc _⟩
  by_cases k6 : rows = 0
  · subst k6
    go_enter Try.func46, Try.ntmps46
    go_wp2
    go_ret
    exact ⟨by simp [MatM.good]; omega, (Grew.refl _).alloc _⟩
  have k6' : (rows == 0) = false := by simpa using k6
  by_cases k7 : cols = 0
  · subst k7
    go_enter Try.func46, Try.ntmps46
    go_wp2
    go_ret
    exact ⟨by simp [MatM.good]; omega, (Grew.refl _).alloc _⟩
  · have k7' : (cols == 0) = false := by simpa using k7
    go_enter Try.func46, Try.ntmps46
    go_wp2_with (go_at_call 133; refine (within_any _ _ _ _ _ _ (by omega) (by omega) (by omega) (by omega) (by omega) (by omega) (by omega) (by omega) (by omega)).mono ?_; rintro e w' ⟨rfl, rfl⟩)
    go_ret
    exact ⟨by simp [MatM.good, k6, k7]; omega, (Grew.refl _).alloc _⟩

/-- straightedgeref03.Great. -/
def MatM.great (m : MatM) : Bool := decide (1000 < (m.ws.length : Int)) || decide (20 < m.rows) || decide (20 < m.cols)
theorem great_any (x : MatM) (D : Value) (w : World) (hD : FS w D x.ws) :
   Calls Try.prog 42 #[.agg #[D, .int .i64 x.off, .int .i64 x.rows, .int .i64 x.cols, .int .i64 x.ld]] w (fun e w' => e = .returned (.bool (MatM.great x)) ∧ ∃ o n, w' = ext w o n) := by
  obtain ⟨ws, off, rows, cols, ld⟩ := x
  obtain ⟨a, cap, rfl⟩ := hD.shape
  have hl := hD.len
  simp only [] at hD hl ⊢
  by_cases k1 : (1000 : Int) < ws.length
  · go_enter Try.func42, Try.ntmps42
    go_wp2
    go_ret
    exact ⟨by simp [MatM.great]; omega, (Grew.refl _).alloc _⟩
  by_cases k2 : 20 < rows
  · go_enter Try.func42, Try.ntmps42
    go_wp2
    go_ret
    exact ⟨by simp [MatM.great]; omega, (Grew.refl _).alloc _⟩
  · go_enter Try.func42, Try.ntmps42
    go_wp2
    go_ret
    exact ⟨by simp [MatM.great]; omega, (Grew.refl _).alloc _⟩
/-- straightedgeref03.Long. -/
def VecM.long (m : VecM) : Bool := decide (1000 < (m.ws.length : Int)) || decide (60 < m.n)
theorem long_any (x : VecM) (D : Value) (w : World) (hD : FS w D x.ws) :
   Calls Try.prog 53 #[.agg #[D, .int .i64 x.off, .int .i64 x.n, .int .i64 x.inc]] w (fun e w' => e = .returned (.bool (VecM.long x)) ∧ ∃ o n, w' = ext w o n) := by
  obtain ⟨ws, off, n, inc⟩ := x
  obtain ⟨a, cap, rfl⟩ := hD.shape
  have hl := hD.len
  simp only [] at hD hl ⊢
  by_cases k1 : (1000 : Int) < ws.length
  · go_enter Try.func53, Try.ntmps53
    go_wp2
    go_ret
    exact ⟨by simp [VecM.long]; omega, (Grew.refl _).alloc _⟩
  · go_enter Try.func53, Try.ntmps53
    go_wp2
    go_ret
    exact ⟨by simp [VecM.long]; omega, (Grew.refl _).alloc _⟩
end Go.Proofs.Ytcmggfpcbijcjaa
