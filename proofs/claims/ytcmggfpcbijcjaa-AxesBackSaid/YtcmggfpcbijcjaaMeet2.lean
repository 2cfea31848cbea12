/-
  Contracts: straightedgeref07.MatSpan, VecSpan; a vector as a matrix of one row (trsv.row); and: meeting is what the document says.
-/
import Derived.Test.YtcmggfpcbijcjaaMeet
set_option linter.unusedSimpArgs false
set_option linter.unusedVariables false
open Go Go.RowKit Sedge
namespace Go.Proofs.Ytcmggfpcbijcjaa
def vLo (x : VecM) : Int := if x.n = 0 then 0 else x.off
def vHi (x : VecM) : Int := if x.n = 0 then -1 else x.off + (x.n - 1) * x.inc
def mLo (m : MatM) : Int := if m.rows = 0 ∨ m.cols = 0 then 0 else m.off
def mHi (m : MatM) : Int := if m.rows = 0 ∨ m.cols = 0 then -1 else m.off + (m.cols - 1) * m.ld + m.rows - 1
def rowM (x : VecM) : MatM := ⟨x.ws, x.off, 1, x.n, x.inc⟩
theorem rowM_good {x : VecM} (h : x.right = true) : (rowM x).good = true := by
  have hn := VecM.right_n h
  unfold VecM.right at h
  unfold MatM.good rowM
  simp only [Bool.and_eq_true, Bool.or_eq_true, decide_eq_true_eq] at h ⊢
  refine ⟨by omega, ?_⟩
  rcases h.2 with h2 | h2
  · exact .inl (.inr h2)
  · exact .inr (by simpa [fitsB] using h2)
theorem rowM_wf {x : VecM} (h : x.wf) : (rowM x).wf := ⟨h.1, by unfold I64; simp [rowM], h.2.1, h.2.2⟩
/-- Meeting is what the document says. -/
theorem spans_meet {x : VecM} {m : MatM} (hx : x.right = true) (hm : m.good = true) : spansB (vLo x) (vHi x) (mLo m) (mHi m) = meetM (rowM x) m true := by
  have hn := VecM.right_n hx
  have hmn := m.good_n hm
  have hg := rowM_good hx
  by_cases h0 : x.n = 0
  · have f1 : MatM.full (rowM x) = false := by unfold MatM.full; simp [rowM, h0]
    unfold meetM; rw [f1]
    unfold spansB vLo vHi; simp [h0]
  · have f1 : MatM.full (rowM x) = true := by unfold MatM.full; rw [hg]; simp [rowM, h0]
    by_cases h1 : m.rows = 0 ∨ m.cols = 0
    · have f2 : MatM.full m = false := by unfold MatM.full; rw [hm]; rcases h1 with h1 | h1 <;> simp [h1]
      unfold meetM; rw [f2]
      unfold spansB mLo mHi; simp [h1]
    · have f2 : MatM.full m = true := by unfold MatM.full; rw [hm]; simp only [not_or] at h1; simp [h1.1, h1.2]
      have p1 := MatM.full_place f1
      have p2 := MatM.full_place f2
      unfold meetM spanLo spanHi; rw [f1, f2]
      unfold spansB vLo vHi mLo mHi
      simp only [h0, h1, if_false, if_true]
      simp only [rowM] at p1 ⊢
      have e1 : decide (x.off ≤ x.off + (x.n - 1) * x.inc) = true := by simp; omega
      have e2 : decide (m.off ≤ m.off + (m.cols - 1) * m.ld + m.rows - 1) = true := by simp; omega
      rw [e1, e2]
      have e3 : x.off + (x.n - 1) * x.inc + 1 - 1 = x.off + (x.n - 1) * x.inc := by omega
      rw [Bool.eq_iff_iff]
      simp only [Bool.and_eq_true, decide_eq_true_eq, Bool.true_and, true_and]
      constructor
      · rintro ⟨a1, a2⟩
        exact ⟨decide_eq_true a1, decide_eq_true (by show m.off ≤ x.off + (x.n - 1) * x.inc + 1 - 1; omega)⟩
      · rintro ⟨a1, a2⟩
        have a3 : x.off ≤ m.off + (m.cols - 1) * m.ld + m.rows - 1 := of_decide_eq_true a1
        have a4 : m.off ≤ x.off + (x.n - 1) * x.inc + 1 - 1 := of_decide_eq_true a2
        omega
theorem ret_tuple2 {a b a' b' : Int} (h1 : a = a') (h2 : b = b') : Ending.returned (.tuple #[.int .i64 a, .int .i64 b]) = .returned (.tuple #[.int .i64 a', .int .i64 b']) := by rw [h1, h2]
set_option maxRecDepth 100000 in
set_option maxHeartbeats 1000000 in
/-- straightedgeref07.VecSpan. -/
theorem vecSpan_any (x : VecM) (D : Value) (w : World) (hD : FS w D x.ws) (hx : x.right = true) (hwf : x.wf) (hl : x.ws.length ≤ 1000000) :
   Calls Try.prog 58 #[.agg #[D, .int .i64 x.off, .int .i64 x.n, .int .i64 x.inc]] w (fun e w' => e = .returned (.tuple #[.int .i64 (vLo x), .int .i64 (vHi x)]) ∧ ∃ o n, w' = ext w o n) := by
  by_cases h0 : x.n = 0
  · have q1 := hid (show vLo x = 0 by unfold vLo; rw [if_pos h0])
    have q2 := hid (show vHi x = -1 by unfold vHi; rw [if_pos h0])
    have d1 : (x.n == 0) = true := by simpa using h0
    clear h0 hx hwf
    go_enter Try.func58, Try.ntmps58
    refine seq_stop ?_
    go_wp2
    refine stop_go (fun W hW => ?_)
    have s1 : w.heap.size < W.heap.size := by rw [hW]; simp only [World.size_alloc]; omega
    have b1 : ∀ i, W.cell? ⟨w.heap.size, i, none⟩ = (#[D, .int .i64 x.off, .int .i64 x.n, .int .i64 x.inc] : Array Value)[i]? := by intro i; rw [hW]; go_simp
    have g0 : Grew w W := by rw [hW]; exact (Grew.refl _).alloc _
    clear hW
    go_wp2
    refine bodyPost_ret (v := .tuple #[.int .i64 0, .int .i64 (-1)]) (by simp [results, Try.results58, go_sem, *]) rfl ?_
    exact ⟨ret_tuple2 q1.out.symm q2.out.symm, by (show Grew _ _; repeat (first | (with_reducible exact Grew.refl _) | (with_reducible assumption) | (with_reducible refine Grew.ext ?_ _ _) | (with_reducible refine Grew.alloc ?_ _) | ((with_reducible refine Grew.setCell ?_ ?_ _); rotate_left; (focus (dsimp only; first | omega | (simp only [size_ext, World.size_alloc, Array.size_append]; omega)))) | (with_reducible refine Grew.drewN ?_ _) | (with_reducible refine Grew.drew ?_)))⟩
  · have q1 := hid (show vLo x = x.off by unfold vLo; rw [if_neg h0])
    have q2 := hid (show vHi x = x.off + (x.n - 1) * x.inc by unfold vHi; rw [if_neg h0])
    have d1 : (x.n == 0) = false := by simpa using h0
    have hn := VecM.right_n hx
    have hp := VecM.right_place hx (i := (x.n - 1).toNat) (by omega)
    rw [Int.toNat_of_nonneg (by omega)] at hp
    obtain ⟨i1, i2, i3⟩ := hwf
    unfold I64 at i1 i2 i3
    have r1 : IntKind.i64.wrap (x.n - 1) = x.n - 1 := IntWalk.i64_in _ (by omega)
    have r2 : IntKind.i64.wrap ((x.n - 1) * x.inc) = (x.n - 1) * x.inc := IntWalk.i64_in _ (by omega)
    have r3 : IntKind.i64.wrap (x.off + (x.n - 1) * x.inc) = x.off + (x.n - 1) * x.inc := IntWalk.i64_in _ (by omega)
    clear h0 hx
    go_enter Try.func58, Try.ntmps58
    refine seq_stop ?_
    go_wp2
    refine stop_go (fun W hW => ?_)
    have s1 : w.heap.size < W.heap.size := by rw [hW]; simp only [World.size_alloc]; omega
    have b1 : ∀ i, W.cell? ⟨w.heap.size, i, none⟩ = (#[D, .int .i64 x.off, .int .i64 x.n, .int .i64 x.inc] : Array Value)[i]? := by intro i; rw [hW]; go_simp
    have g0 : Grew w W := by rw [hW]; exact (Grew.refl _).alloc _
    clear hW
    go_wp2
    refine wp_region_R (Grew W) [] [(0,0), (0,1), (0,2), (0,3), (0,4), (0,5), (0,6), (0,7), (0,8), (0,9), (0,10), (0,11), (0,12)] (by kernel_rfl) (by kernel_rfl) (fun _ _ _ _ h _ => h) (by first | exact ⟨_, _, ext_drew⟩ | exact ⟨_, _, drew_ext0⟩) ?_
    go_wp2_with (first | ((with_reducible refine wpR_id ?_); first | (refine wpR_take (v := ?_) rfl rfl ?_ ?_; rotate_left; (focus (rintro w' ⟨o', n', rfl⟩; go_simp; try with_reducible rfl)); simp only [Act.put, List.setIfInBounds_toArray, List.set_cons_zero, List.set_cons_succ]) | (refine wpR_pure (v := ?_) rfl rfl ?_ ?_; rotate_left; (focus (intro w'; go_simp; try with_reducible rfl)); simp only [Act.put, List.setIfInBounds_toArray, List.set_cons_zero, List.set_cons_succ]) | (refine wpR_takeG (v := ?_) rfl rfl rfl rfl rfl ?_ ?_; rotate_left; (focus (rintro w' ⟨o', n', rfl⟩; go_simp; try with_reducible rfl)); simp only [Act.put, List.setIfInBounds_toArray, List.set_cons_zero, List.set_cons_succ]) | (refine wpR_skip rfl rfl rfl rfl rfl rfl ?_; simp only [Act.put, List.setIfInBounds_toArray, List.set_cons_zero, List.set_cons_succ]) | (refine wpR_skipU rfl rfl rfl rfl rfl ?_; simp only [Act.put, List.setIfInBounds_toArray, List.set_cons_zero, List.set_cons_succ]) | (refine wpR_do rfl rfl (fun K hK => ?_)) | (refine wpR_doG rfl rfl rfl rfl rfl (fun K hK => ?_)) | (refine wpR_last rfl rfl (fun K hK => ?_)) | (refine wpR_nil ?_)) | ((with_reducible refine wpR_go ?_ ?_); (focus exact ⟨_, _, rfl⟩)) | ((with_reducible refine upon_id ?_); refine upon_fop rfl (by assumption) (by assumption) ?_; intro rr nn hr))
    refine bodyPost_ret (v := .tuple #[.int .i64 x.off, .int .i64 (x.off + (x.n - 1) * x.inc)]) (by simp [results, Try.results58, go_sem, *]) rfl ?_
    exact ⟨ret_tuple2 q1.out.symm q2.out.symm, by (show Grew _ _; repeat (first | (with_reducible exact Grew.refl _) | (with_reducible assumption) | (with_reducible refine Grew.ext ?_ _ _) | (with_reducible refine Grew.alloc ?_ _) | ((with_reducible refine Grew.setCell ?_ ?_ _); rotate_left; (focus (dsimp only; first | omega | (simp only [size_ext, World.size_alloc, Array.size_append]; omega)))) | (with_reducible refine Grew.drewN ?_ _) | (with_reducible refine Grew.drew ?_)))⟩
set_option maxRecDepth 100000 in
set_option maxHeartbeats 1000000 in
/-- straightedgeref07.MatSpan. -/
theorem matSpan_any (x : MatM) (D : Value) (w : World) (hD : FS w D x.ws) (hx : x.good = true) (hwf : x.wf) (hl : x.ws.length ≤ 1000000) :
   Calls Try.prog 57 #[.agg #[D, .int .i64 x.off, .int .i64 x.rows, .int .i64 x.cols, .int .i64 x.ld]] w (fun e w' => e = .returned (.tuple #[.int .i64 (mLo x), .int .i64 (mHi x)]) ∧ ∃ o n, w' = ext w o n) := by
  by_cases h0 : x.rows = 0
  · have q1 := hid (show mLo x = 0 by unfold mLo; rw [if_pos (.inl h0)])
    have q2 := hid (show mHi x = -1 by unfold mHi; rw [if_pos (.inl h0)])
    have d1 : (x.rows == 0) = true := by simpa using h0
    clear h0 hx hwf
    go_enter Try.func57, Try.ntmps57
    refine seq_stop ?_
    go_wp2
    refine stop_go (fun W hW => ?_)
    have s1 : w.heap.size < W.heap.size := by rw [hW]; simp only [World.size_alloc]; omega
    have b1 : ∀ i, W.cell? ⟨w.heap.size, i, none⟩ = (#[D, .int .i64 x.off, .int .i64 x.rows, .int .i64 x.cols, .int .i64 x.ld] : Array Value)[i]? := by intro i; rw [hW]; go_simp
    have g0 : Grew w W := by rw [hW]; exact (Grew.refl _).alloc _
    clear hW
    go_wp2
    refine bodyPost_ret (v := .tuple #[.int .i64 0, .int .i64 (-1)]) (by simp [results, Try.results57, go_sem, *]) rfl ?_
    exact ⟨ret_tuple2 q1.out.symm q2.out.symm, by (show Grew _ _; repeat (first | (with_reducible exact Grew.refl _) | (with_reducible assumption) | (with_reducible refine Grew.ext ?_ _ _) | (with_reducible refine Grew.alloc ?_ _) | ((with_reducible refine Grew.setCell ?_ ?_ _); rotate_left; (focus (dsimp only; first | omega | (simp only [size_ext, World.size_alloc, Array.size_append]; omega)))) | (with_reducible refine Grew.drewN ?_ _) | (with_reducible refine Grew.drew ?_)))⟩
  · have d1 : (x.rows == 0) = false := by simpa using h0
    by_cases h1 : x.cols = 0
    · have q1 := hid (show mLo x = 0 by unfold mLo; rw [if_pos (.inr h1)])
      have q2 := hid (show mHi x = -1 by unfold mHi; rw [if_pos (.inr h1)])
      have d2 : (x.cols == 0) = true := by simpa using h1
      clear h0 h1 hx hwf
      go_enter Try.func57, Try.ntmps57
      refine seq_stop ?_
      go_wp2
      refine stop_go (fun W hW => ?_)
      have s1 : w.heap.size < W.heap.size := by rw [hW]; simp only [World.size_alloc]; omega
      have b1 : ∀ i, W.cell? ⟨w.heap.size, i, none⟩ = (#[D, .int .i64 x.off, .int .i64 x.rows, .int .i64 x.cols, .int .i64 x.ld] : Array Value)[i]? := by intro i; rw [hW]; go_simp
      have g0 : Grew w W := by rw [hW]; exact (Grew.refl _).alloc _
      clear hW
      go_wp2
      refine bodyPost_ret (v := .tuple #[.int .i64 0, .int .i64 (-1)]) (by simp [results, Try.results57, go_sem, *]) rfl ?_
      exact ⟨ret_tuple2 q1.out.symm q2.out.symm, by (show Grew _ _; repeat (first | (with_reducible exact Grew.refl _) | (with_reducible assumption) | (with_reducible refine Grew.ext ?_ _ _) | (with_reducible refine Grew.alloc ?_ _) | ((with_reducible refine Grew.setCell ?_ ?_ _); rotate_left; (focus (dsimp only; first | omega | (simp only [size_ext, World.size_alloc, Array.size_append]; omega)))) | (with_reducible refine Grew.drewN ?_ _) | (with_reducible refine Grew.drew ?_)))⟩
    · have d2 : (x.cols == 0) = false := by simpa using h1
      have h2 : ¬ (x.rows = 0 ∨ x.cols = 0) := fun h => h.elim h0 h1
      have q1 := hid (show mLo x = x.off by unfold mLo; rw [if_neg h2])
      have q2 := hid (show mHi x = x.off + (x.cols - 1) * x.ld + x.rows - 1 by unfold mHi; rw [if_neg h2])
      have hp := MatM.full_place (m := x) (by unfold MatM.full; rw [hx, d1, d2]; rfl)
      obtain ⟨i1, i2, i3, i4⟩ := hwf
      unfold I64 at i1 i2 i3 i4
      have r1 : IntKind.i64.wrap (x.cols - 1) = x.cols - 1 := IntWalk.i64_in _ (by omega)
      have r2 : IntKind.i64.wrap ((x.cols - 1) * x.ld) = (x.cols - 1) * x.ld := IntWalk.i64_in _ (by omega)
      have r3 : IntKind.i64.wrap (x.off + (x.cols - 1) * x.ld) = x.off + (x.cols - 1) * x.ld := IntWalk.i64_in _ (by omega)
      have r4 : IntKind.i64.wrap (x.off + (x.cols - 1) * x.ld + x.rows) = x.off + (x.cols - 1) * x.ld + x.rows := IntWalk.i64_in _ (by omega)
      have r5 : IntKind.i64.wrap (x.off + (x.cols - 1) * x.ld + x.rows - 1) = x.off + (x.cols - 1) * x.ld + x.rows - 1 := IntWalk.i64_in _ (by omega)
      clear h0 h1 h2 hx
      go_enter Try.func57, Try.ntmps57
      refine seq_stop ?_
      go_wp2
      refine stop_go (fun W hW => ?_)
      have s1 : w.heap.size < W.heap.size := by rw [hW]; simp only [World.size_alloc]; omega
      have b1 : ∀ i, W.cell? ⟨w.heap.size, i, none⟩ = (#[D, .int .i64 x.off, .int .i64 x.rows, .int .i64 x.cols, .int .i64 x.ld] : Array Value)[i]? := by intro i; rw [hW]; go_simp
      have g0 : Grew w W := by rw [hW]; exact (Grew.refl _).alloc _
      clear hW
      go_wp2
      refine wp_region_R (Grew W) [] [(0,0), (0,1), (0,2), (0,3), (0,4), (0,5), (0,6), (0,7), (0,8), (0,9), (0,10), (0,11), (0,12), (0,13), (0,14), (0,15), (0,16)] (by kernel_rfl) (by kernel_rfl) (fun _ _ _ _ h _ => h) (by first | exact ⟨_, _, ext_drew⟩ | exact ⟨_, _, drew_ext0⟩) ?_
      go_wp2_with (first | ((with_reducible refine wpR_id ?_); first | (refine wpR_take (v := ?_) rfl rfl ?_ ?_; rotate_left; (focus (rintro w' ⟨o', n', rfl⟩; go_simp; try with_reducible rfl)); simp only [Act.put, List.setIfInBounds_toArray, List.set_cons_zero, List.set_cons_succ]) | (refine wpR_pure (v := ?_) rfl rfl ?_ ?_; rotate_left; (focus (intro w'; go_simp; try with_reducible rfl)); simp only [Act.put, List.setIfInBounds_toArray, List.set_cons_zero, List.set_cons_succ]) | (refine wpR_takeG (v := ?_) rfl rfl rfl rfl rfl ?_ ?_; rotate_left; (focus (rintro w' ⟨o', n', rfl⟩; go_simp; try with_reducible rfl)); simp only [Act.put, List.setIfInBounds_toArray, List.set_cons_zero, List.set_cons_succ]) | (refine wpR_skip rfl rfl rfl rfl rfl rfl ?_; simp only [Act.put, List.setIfInBounds_toArray, List.set_cons_zero, List.set_cons_succ]) | (refine wpR_skipU rfl rfl rfl rfl rfl ?_; simp only [Act.put, List.setIfInBounds_toArray, List.set_cons_zero, List.set_cons_succ]) | (refine wpR_do rfl rfl (fun K hK => ?_)) | (refine wpR_doG rfl rfl rfl rfl rfl (fun K hK => ?_)) | (refine wpR_last rfl rfl (fun K hK => ?_)) | (refine wpR_nil ?_)) | ((with_reducible refine wpR_go ?_ ?_); (focus exact ⟨_, _, rfl⟩)) | ((with_reducible refine upon_id ?_); refine upon_fop rfl (by assumption) (by assumption) ?_; intro rr nn hr))
      refine bodyPost_ret (v := .tuple #[.int .i64 x.off, .int .i64 (x.off + (x.cols - 1) * x.ld + x.rows - 1)]) (by simp [results, Try.results57, go_sem, *]) rfl ?_
      exact ⟨ret_tuple2 q1.out.symm q2.out.symm, by (show Grew _ _; repeat (first | (with_reducible exact Grew.refl _) | (with_reducible assumption) | (with_reducible refine Grew.ext ?_ _ _) | (with_reducible refine Grew.alloc ?_ _) | ((with_reducible refine Grew.setCell ?_ ?_ _); rotate_left; (focus (dsimp only; first | omega | (simp only [size_ext, World.size_alloc, Array.size_append]; omega)))) | (with_reducible refine Grew.drewN ?_ _) | (with_reducible refine Grew.drew ?_)))⟩
set_option maxRecDepth 100000 in
set_option maxHeartbeats 1000000 in
/-- trsv.row. -/
theorem trow_any (x : VecM) (a : Option Addr) (l c : Nat) (w : World) :
   Calls Try.prog 152 #[.agg #[.slice a l c, .int .i64 x.off, .int .i64 x.n, .int .i64 x.inc]] w (fun e w' => e = .returned (.agg #[.slice a l c, .int .i64 x.off, .int .i64 1, .int .i64 x.n, .int .i64 x.inc]) ∧ ∃ o n, w' = ext w o n) := by
  go_enter Try.func152, Try.ntmps152
  refine seq_stop ?_
  go_wp2
  refine stop_go (fun W hW => ?_)
  have s1 : w.heap.size < W.heap.size := by rw [hW]; simp only [World.size_alloc]; omega
  have b1 : ∀ i, W.cell? ⟨w.heap.size, i, none⟩ = (#[.slice a l c, .int .i64 x.off, .int .i64 x.n, .int .i64 x.inc] : Array Value)[i]? := by intro i; rw [hW]; go_simp
  have f1 : ∀ i, W.frozen? ⟨w.heap.size, i, none⟩ = false := by intro i; rw [hW]; go_simp
  have s2 : w.heap.size + 1 < W.heap.size := by rw [hW]; simp only [World.size_alloc]; omega
  have b2 : ∀ i, W.cell? ⟨w.heap.size + 1, i, none⟩ = (#[.slice none 0 0, .int .i64 0, .int .i64 0, .int .i64 0, .int .i64 0] : Array Value)[i]? := by intro i; rw [hW]; go_simp
  have f2 : ∀ i, W.frozen? ⟨w.heap.size + 1, i, none⟩ = false := by intro i; rw [hW]; go_simp
  have g0 : Grew w W := by rw [hW]; exact ((Grew.refl _).alloc _).alloc _
  clear hW
  go_wp2
  refine bodyPost_ret (v := .agg #[.slice a l c, .int .i64 x.off, .int .i64 1, .int .i64 x.n, .int .i64 x.inc]) (by simp [results, Try.results152, go_sem, *]) rfl ?_
  exact ⟨rfl, by (show Grew _ _; repeat (first | (with_reducible exact Grew.refl _) | (with_reducible assumption) | (with_reducible refine Grew.ext ?_ _ _) | (with_reducible refine Grew.alloc ?_ _) | ((with_reducible refine Grew.setCell ?_ ?_ _); rotate_left; (focus (dsimp only; first | omega | (simp only [size_ext, World.size_alloc, Array.size_append]; omega)))) | (with_reducible refine Grew.drewN ?_ _) | (with_reducible refine Grew.drew ?_)))⟩
end Go.Proofs.Ytcmggfpcbijcjaa
