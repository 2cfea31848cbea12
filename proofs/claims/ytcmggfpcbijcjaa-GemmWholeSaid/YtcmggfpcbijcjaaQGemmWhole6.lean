/-
  Texts laid one behind the other (a claim has at most 60 files): Gemm1, GrewA, Dense0, OwnI, Dig, Dint, Dy1.
-/
import Derived.Maps.AppendAt
import Derived.Test.YtcmggfpcbijcjaaQGemmWhole1
import Derived.Test.YtcmggfpcbijcjaaQGemmWhole2
import Derived.Test.YtcmggfpcbijcjaaQGemmWhole3
import Derived.Test.YtcmggfpcbijcjaaQGemmWhole4
import Derived.Test.YtcmggfpcbijcjaaQGemmWhole5
section
/-
  Plain: columns of a matrix as vectors; gemm.check.
-/
set_option linter.unusedSimpArgs false
set_option linter.unusedVariables false
open Go Go.RowKit Sedge
namespace Go.Proofs.Ytcmggfpcbijcjaa
theorem full_withL {m : MatM} {l : List Nat} (h : l.length = m.ws.length) : MatM.full (withL m l) = MatM.full m := by
  unfold MatM.full; rw [withL_good h]; rfl
theorem meet_withL {a b : MatM} {l k : List Nat} (h1 : l.length = a.ws.length) (h2 : k.length = b.ws.length) (one : Bool) : meetM (withL a l) (withL b k) one = meetM a b one := by
  unfold meetM spanLo spanHi; rw [full_withL h1, full_withL h2]; rfl
theorem colV_right' {m : MatM} (hm : m.good = true) {j : Nat} (hj : (j : Int) < m.cols) : (colV m j).right = true := by
  by_cases h0 : 0 < m.rows
  · exact colV_right hm hj h0
  · have hn := MatM.good_n hm
    unfold VecM.right colV
    simp only [h0, if_false, Bool.and_eq_true, Bool.or_eq_true, decide_eq_true_eq]
    omega
theorem colV_wf {m : MatM} (hm : m.good = true) (hl : m.ws.length ≤ 1000000) (hw : m.wf) {j : Nat} (hj : (j : Int) < m.cols) : (colV m j).wf := by
  obtain ⟨i1, i2, i3, i4⟩ := hw
  by_cases h0 : 0 < m.rows
  · have hp := MatM.good_place hm (i := 0) (j := j) (by simpa using h0) hj
    simp only [Int.natCast_zero, Int.add_zero] at hp
    unfold VecM.wf colV
    simp only [h0, if_true]
    exact ⟨by unfold I64; omega, i2, by unfold I64; omega⟩
  · unfold VecM.wf colV
    simp only [h0, if_false]
    exact ⟨i1, i2, by unfold I64; omega⟩
theorem colV_place {m : MatM} (h0 : 0 < m.rows) (j r : Nat) : (colV m j).place r = m.place r j := by
  unfold colV VecM.place MatM.place; simp only [h0, if_true]; congr 1; omega
/-- What meets a column meets the matrix. -/
theorem meet_col {z x : MatM} {one : Bool} (hz : z.good = true) {j : Nat} (hj : (j : Int) < z.cols) (h : meetM z x one = false) : meetM (rowM (colV z j)) x one = false := by
  by_cases h0 : 0 < z.rows
  · have hg := rowM_good (colV_right' hz hj)
    have f1 : MatM.full (rowM (colV z j)) = true := by unfold MatM.full; rw [hg]; simp [rowM, colV]; omega
    have f2 : MatM.full z = true := by unfold MatM.full; rw [hz]; simp; omega
    have hn := MatM.good_n hz
    have k1 : (j : Int) * z.ld ≤ (z.cols - 1) * z.ld := Int.mul_le_mul_of_nonneg_right (by omega) (by omega)
    have k2 : 0 ≤ (j : Int) * z.ld := Int.mul_nonneg (by omega) (by omega)
    unfold meetM spanLo spanHi at h ⊢
    rw [f2] at h
    rw [f1]
    cases fx : MatM.full x
    · simp
    · rw [fx] at h
      simp [rowM, colV, h0] at h ⊢
      intro h1 h2
      have := h h1 (by omega)
      omega
  · have f1 : MatM.full (rowM (colV z j)) = false := by unfold MatM.full; have : z.rows = 0 := by have := MatM.good_n hz; omega
                                                        simp [rowM, colV, this]
    unfold meetM; rw [f1]; simp
theorem meet_comm (x y : MatM) (one : Bool) : meetM x y one = meetM y x one := by
  unfold meetM
  cases MatM.full x <;> cases MatM.full y <;> cases one <;> simp [Bool.and_comm]
/-- A column's numbers written: the matrix' list. -/
theorem hold_col {z : MatM} {L L' : List Nat} {s : Nat → Nat → Nat} {t : Nat → Nat} (hz : z.good = true) (h0 : 0 < z.rows) (hlen : L.length = z.ws.length) {j : Nat} (hj : (j : Int) < z.cols) (hH : Hold z.place z.rows.toNat z.cols.toNat z.ws L s) (hV : VH (colV (withL z L) j) L' t) :
    Hold z.place z.rows.toNat z.cols.toNat z.ws L' (fun r c => if c = j then t r else s r c) := by
  have hp := MatM.places hz
  have ep : ∀ r, (colV (withL z L) j).place r = z.place r j := fun r => colV_place (m := withL z L) h0 j r
  refine ⟨by rw [hV.len]; exact hlen, fun r c hr hc => ?_, fun q hq => ?_⟩
  · by_cases e : c = j
    · subst e
      rw [if_pos rfl, ← ep r]
      exact hV.get r (by show (r : Int) < z.rows; omega)
    · rw [if_neg e, hV.rest _ (fun r' hr' he => e (hp.inj r' j r c (by have : (r' : Int) < z.rows := hr'; omega) (by omega) hr hc (by rw [← ep r']; exact he)).2.symm)]
      exact hH.get r c hr hc
  · rw [hV.rest _ (fun r' hr' he => hq r' j (by have : (r' : Int) < z.rows := hr'; omega) (by omega) (by rw [← ep r']; exact he))]
    exact hH.rest q hq
def gemmE (x y z : MatM) (ox oy : Bool) : Int :=
  if x.good = false ∨ y.good = false ∨ z.good = false then 1 else if x.cols ≠ y.rows ∨ z.rows ≠ x.rows ∨ z.cols ≠ y.cols then 3 else if meetM z x ox = true ∨ meetM z y oy = true then 2 else 0
structure GemmC (x y z : MatM) (bx cx bz cz g cg : Nat) (gx gy gz mx my : Bool) : Prop where
  X : ∀ w', FS w' (.slice (some ⟨bx, 0, none⟩) x.ws.length cx) x.ws → Calls Try.prog 130 #[.agg #[.slice (some ⟨bx, 0, none⟩) x.ws.length cx, .int .i64 x.off, .int .i64 x.rows, .int .i64 x.cols, .int .i64 x.ld]] w' (fun e w2 => e = .returned (.bool gx) ∧ ∃ o n, w2 = ext w' o n)
  Y : ∀ w', FS w' (.slice (some ⟨bz, 0, none⟩) y.ws.length cz) y.ws → Calls Try.prog 130 #[.agg #[.slice (some ⟨bz, 0, none⟩) y.ws.length cz, .int .i64 y.off, .int .i64 y.rows, .int .i64 y.cols, .int .i64 y.ld]] w' (fun e w2 => e = .returned (.bool gy) ∧ ∃ o n, w2 = ext w' o n)
  Z : ∀ w', FS w' (.slice (some ⟨g, 0, none⟩) z.ws.length cg) z.ws → Calls Try.prog 130 #[.agg #[.slice (some ⟨g, 0, none⟩) z.ws.length cg, .int .i64 z.off, .int .i64 z.rows, .int .i64 z.cols, .int .i64 z.ld]] w' (fun e w2 => e = .returned (.bool gz) ∧ ∃ o n, w2 = ext w' o n)
  Mx : ∀ w', FS w' (.slice (some ⟨g, 0, none⟩) z.ws.length cg) z.ws → FS w' (.slice (some ⟨bx, 0, none⟩) x.ws.length cx) x.ws → Plain w' g → Plain w' bx → Calls Try.prog 136 #[.agg #[.slice (some ⟨g, 0, none⟩) z.ws.length cg, .int .i64 z.off, .int .i64 z.rows, .int .i64 z.cols, .int .i64 z.ld], .agg #[.slice (some ⟨bx, 0, none⟩) x.ws.length cx, .int .i64 x.off, .int .i64 x.rows, .int .i64 x.cols, .int .i64 x.ld]] w' (fun e w2 => e = .returned (.bool mx) ∧ ∃ o n, w2 = ext w' o n)
  My : ∀ w', FS w' (.slice (some ⟨g, 0, none⟩) z.ws.length cg) z.ws → FS w' (.slice (some ⟨bz, 0, none⟩) y.ws.length cz) y.ws → Plain w' g → Plain w' bz → Calls Try.prog 136 #[.agg #[.slice (some ⟨g, 0, none⟩) z.ws.length cg, .int .i64 z.off, .int .i64 z.rows, .int .i64 z.cols, .int .i64 z.ld], .agg #[.slice (some ⟨bz, 0, none⟩) y.ws.length cz, .int .i64 y.off, .int .i64 y.rows, .int .i64 y.cols, .int .i64 y.ld]] w' (fun e w2 => e = .returned (.bool my) ∧ ∃ o n, w2 = ext w' o n)
theorem gemmC (x y z : MatM) (bx cx bz cz g cg : Nat) (hwx : x.wf) (hwy : y.wf) (hwz : z.wf) (hlx : x.ws.length ≤ 1000000) (hly : y.ws.length ≤ 1000000) (hlz : z.ws.length ≤ 1000000) :
    GemmC x y z bx cx bz cz g cg x.good y.good z.good (meetM z x (decide (g = bx))) (meetM z y (decide (g = bz))) where
  X := fun w' h => good_any x _ w' h hwx
  Y := fun w' h => good_any y _ w' h hwy
  Z := fun w' h => good_any z _ w' h hwz
  Mx := fun w' h1 h2 p1 p2 => meetM_any z x g bx cg cx w' h1 h2 p1 p2 hwz hwx hlz hlx
  My := fun w' h1 h2 p1 p2 => meetM_any z y g bz cg cz w' h1 h2 p1 p2 hwz hwy hlz hly
set_option maxRecDepth 100000 in
set_option maxHeartbeats 4000000 in
theorem gcheck_1 (x y z : MatM) (bx cx bz cz g cg : Nat) (w : World) (hX : FS w (.slice (some ⟨bx, 0, none⟩) x.ws.length cx) x.ws) (hY : FS w (.slice (some ⟨bz, 0, none⟩) y.ws.length cz) y.ws) (hZ : FS w (.slice (some ⟨g, 0, none⟩) z.ws.length cg) z.ws) (hPx : Plain w bx) (hPy : Plain w bz) (hPz : Plain w g) (gy gz mx my : Bool) (H : GemmC x y z bx cx bz cz g cg false gy gz mx my) : Calls Try.prog 148 #[.agg #[.slice (some ⟨bx, 0, none⟩) x.ws.length cx, .int .i64 x.off, .int .i64 x.rows, .int .i64 x.cols, .int .i64 x.ld], .agg #[.slice (some ⟨bz, 0, none⟩) y.ws.length cz, .int .i64 y.off, .int .i64 y.rows, .int .i64 y.cols, .int .i64 y.ld], .agg #[.slice (some ⟨g, 0, none⟩) z.ws.length cg, .int .i64 z.off, .int .i64 z.rows, .int .i64 z.cols, .int .i64 z.ld]] w (fun e w' => e = .returned (.int .i64 1) ∧ ∃ o n, w' = ext w o n) := by
  go_enter Try.func148, Try.ntmps148
  refine seq_stop ?_
  go_wp2
  refine stop_go (fun W hW => ?_)
  have s1 : w.heap.size < W.heap.size := by rw [hW]; simp only [World.size_alloc]; omega
  have b1 : ∀ i, W.cell? ⟨w.heap.size, i, none⟩ = (#[.slice (some ⟨bx, 0, none⟩) x.ws.length cx, .int .i64 x.off, .int .i64 x.rows, .int .i64 x.cols, .int .i64 x.ld] : Array Value)[i]? := by intro i; rw [hW]; go_simp
  have s2 : w.heap.size + 1 < W.heap.size := by rw [hW]; simp only [World.size_alloc]; omega
  have b2 : ∀ i, W.cell? ⟨w.heap.size + 1, i, none⟩ = (#[.slice (some ⟨bz, 0, none⟩) y.ws.length cz, .int .i64 y.off, .int .i64 y.rows, .int .i64 y.cols, .int .i64 y.ld] : Array Value)[i]? := by intro i; rw [hW]; go_simp
  have s3 : w.heap.size + 1 + 1 < W.heap.size := by rw [hW]; simp only [World.size_alloc]; omega
  have b3 : ∀ i, W.cell? ⟨w.heap.size + 1 + 1, i, none⟩ = (#[.slice (some ⟨g, 0, none⟩) z.ws.length cg, .int .i64 z.off, .int .i64 z.rows, .int .i64 z.cols, .int .i64 z.ld] : Array Value)[i]? := by intro i; rw [hW]; go_simp
  have g0 : Grew w W := by rw [hW]; exact (((Grew.refl _).alloc _).alloc _).alloc _
  clear hW
  have hXW := hX.grew g0
  have hYW := hY.grew g0
  have hZW := hZ.grew g0
  go_wp2_with (first | (go_at_call 130; ((with_reducible refine (H.X _ ?_).mono ?_); (focus (first | (with_reducible assumption) | (with_reducible refine FS.ext ?_ _ _; with_reducible assumption) | (with_reducible refine IS.ext ?_ _ _; with_reducible assumption) | (refine hDu _ ?_; with_reducible assumption) | (refine hOu _ ?_; with_reducible assumption) | (refine hDa _ ?_; with_reducible assumption) | (refine hDb _ ?_; with_reducible assumption) | (refine hDc _ ?_; with_reducible assumption) | (refine hDd _ ?_; with_reducible assumption) | (refine FW.fs ?_ (by omega) _; with_reducible assumption) | (refine WS.fs ?_; with_reducible assumption) | (refine FW.fs ?_ (by omega) _; assumption) | omega | assumption)); rintro e w1 ⟨rfl, oa, na, rfl⟩)) | (go_at_call 130; ((with_reducible refine (H.Y _ ?_).mono ?_); (focus (first | (with_reducible assumption) | (with_reducible refine FS.ext ?_ _ _; with_reducible assumption) | (with_reducible refine IS.ext ?_ _ _; with_reducible assumption) | (refine hDu _ ?_; with_reducible assumption) | (refine hOu _ ?_; with_reducible assumption) | (refine hDa _ ?_; with_reducible assumption) | (refine hDb _ ?_; with_reducible assumption) | (refine hDc _ ?_; with_reducible assumption) | (refine hDd _ ?_; with_reducible assumption) | (refine FW.fs ?_ (by omega) _; with_reducible assumption) | (refine WS.fs ?_; with_reducible assumption) | (refine FW.fs ?_ (by omega) _; assumption) | omega | assumption)); rintro e w1 ⟨rfl, ob, nb, rfl⟩)) | (go_at_call 130; ((with_reducible refine (H.Z _ ?_).mono ?_); (focus (first | (with_reducible assumption) | (with_reducible refine FS.ext ?_ _ _; with_reducible assumption) | (with_reducible refine IS.ext ?_ _ _; with_reducible assumption) | (refine hDu _ ?_; with_reducible assumption) | (refine hOu _ ?_; with_reducible assumption) | (refine hDa _ ?_; with_reducible assumption) | (refine hDb _ ?_; with_reducible assumption) | (refine hDc _ ?_; with_reducible assumption) | (refine hDd _ ?_; with_reducible assumption) | (refine FW.fs ?_ (by omega) _; with_reducible assumption) | (refine WS.fs ?_; with_reducible assumption) | (refine FW.fs ?_ (by omega) _; assumption) | omega | assumption)); rintro e w1 ⟨rfl, oc, nc, rfl⟩)) | (go_at_call 136; ((with_reducible refine (H.Mx _ ?_ ?_ (hPz.grew (by (show Grew _ _; repeat (first | (with_reducible exact Grew.refl _) | (with_reducible assumption) | (with_reducible exact Grew.same_o) | (with_reducible exact Grew.app_o) | (with_reducible refine Grew.ext ?_ _ _) | (with_reducible refine Grew.alloc ?_ _) | ((with_reducible refine Grew.setCell ?_ ?_ _); rotate_left; (focus (dsimp only; first | omega | (simp only [size_ext, World.size_alloc, Array.size_append]; omega)))) | (with_reducible refine Grew.drewN ?_ _) | (with_reducible refine Grew.drew ?_))))) (hPx.grew (by (show Grew _ _; repeat (first | (with_reducible exact Grew.refl _) | (with_reducible assumption) | (with_reducible exact Grew.same_o) | (with_reducible exact Grew.app_o) | (with_reducible refine Grew.ext ?_ _ _) | (with_reducible refine Grew.alloc ?_ _) | ((with_reducible refine Grew.setCell ?_ ?_ _); rotate_left; (focus (dsimp only; first | omega | (simp only [size_ext, World.size_alloc, Array.size_append]; omega)))) | (with_reducible refine Grew.drewN ?_ _) | (with_reducible refine Grew.drew ?_)))))).mono ?_); (focus (first | (with_reducible assumption) | (with_reducible refine FS.ext ?_ _ _; with_reducible assumption) | (with_reducible refine IS.ext ?_ _ _; with_reducible assumption) | (refine hDu _ ?_; with_reducible assumption) | (refine hOu _ ?_; with_reducible assumption) | (refine hDa _ ?_; with_reducible assumption) | (refine hDb _ ?_; with_reducible assumption) | (refine hDc _ ?_; with_reducible assumption) | (refine hDd _ ?_; with_reducible assumption) | (refine FW.fs ?_ (by omega) _; with_reducible assumption) | (refine WS.fs ?_; with_reducible assumption) | (refine FW.fs ?_ (by omega) _; assumption) | omega | assumption)); (focus (first | (with_reducible assumption) | (with_reducible refine FS.ext ?_ _ _; with_reducible assumption) | (with_reducible refine IS.ext ?_ _ _; with_reducible assumption) | (refine hDu _ ?_; with_reducible assumption) | (refine hOu _ ?_; with_reducible assumption) | (refine hDa _ ?_; with_reducible assumption) | (refine hDb _ ?_; with_reducible assumption) | (refine hDc _ ?_; with_reducible assumption) | (refine hDd _ ?_; with_reducible assumption) | (refine FW.fs ?_ (by omega) _; with_reducible assumption) | (refine WS.fs ?_; with_reducible assumption) | (refine FW.fs ?_ (by omega) _; assumption) | omega | assumption)); rintro e w1 ⟨rfl, oe, ne, rfl⟩)) | (go_at_call 136; ((with_reducible refine (H.My _ ?_ ?_ (hPz.grew (by (show Grew _ _; repeat (first | (with_reducible exact Grew.refl _) | (with_reducible assumption) | (with_reducible exact Grew.same_o) | (with_reducible exact Grew.app_o) | (with_reducible refine Grew.ext ?_ _ _) | (with_reducible refine Grew.alloc ?_ _) | ((with_reducible refine Grew.setCell ?_ ?_ _); rotate_left; (focus (dsimp only; first | omega | (simp only [size_ext, World.size_alloc, Array.size_append]; omega)))) | (with_reducible refine Grew.drewN ?_ _) | (with_reducible refine Grew.drew ?_))))) (hPy.grew (by (show Grew _ _; repeat (first | (with_reducible exact Grew.refl _) | (with_reducible assumption) | (with_reducible exact Grew.same_o) | (with_reducible exact Grew.app_o) | (with_reducible refine Grew.ext ?_ _ _) | (with_reducible refine Grew.alloc ?_ _) | ((with_reducible refine Grew.setCell ?_ ?_ _); rotate_left; (focus (dsimp only; first | omega | (simp only [size_ext, World.size_alloc, Array.size_append]; omega)))) | (with_reducible refine Grew.drewN ?_ _) | (with_reducible refine Grew.drew ?_)))))).mono ?_); (focus (first | (with_reducible assumption) | (with_reducible refine FS.ext ?_ _ _; with_reducible assumption) | (with_reducible refine IS.ext ?_ _ _; with_reducible assumption) | (refine hDu _ ?_; with_reducible assumption) | (refine hOu _ ?_; with_reducible assumption) | (refine hDa _ ?_; with_reducible assumption) | (refine hDb _ ?_; with_reducible assumption) | (refine hDc _ ?_; with_reducible assumption) | (refine hDd _ ?_; with_reducible assumption) | (refine FW.fs ?_ (by omega) _; with_reducible assumption) | (refine WS.fs ?_; with_reducible assumption) | (refine FW.fs ?_ (by omega) _; assumption) | omega | assumption)); (focus (first | (with_reducible assumption) | (with_reducible refine FS.ext ?_ _ _; with_reducible assumption) | (with_reducible refine IS.ext ?_ _ _; with_reducible assumption) | (refine hDu _ ?_; with_reducible assumption) | (refine hOu _ ?_; with_reducible assumption) | (refine hDa _ ?_; with_reducible assumption) | (refine hDb _ ?_; with_reducible assumption) | (refine hDc _ ?_; with_reducible assumption) | (refine hDd _ ?_; with_reducible assumption) | (refine FW.fs ?_ (by omega) _; with_reducible assumption) | (refine WS.fs ?_; with_reducible assumption) | (refine FW.fs ?_ (by omega) _; assumption) | omega | assumption)); rintro e w1 ⟨rfl, of, nf, rfl⟩)))
  go_ret
  exact ⟨rfl, by (show Grew _ _; repeat (first | (with_reducible exact Grew.refl _) | (with_reducible assumption) | (with_reducible exact Grew.same_o) | (with_reducible exact Grew.app_o) | (with_reducible refine Grew.ext ?_ _ _) | (with_reducible refine Grew.alloc ?_ _) | ((with_reducible refine Grew.setCell ?_ ?_ _); rotate_left; (focus (dsimp only; first | omega | (simp only [size_ext, World.size_alloc, Array.size_append]; omega)))) | (with_reducible refine Grew.drewN ?_ _) | (with_reducible refine Grew.drew ?_)))⟩
set_option maxRecDepth 100000 in
set_option maxHeartbeats 4000000 in
theorem gcheck_2 (x y z : MatM) (bx cx bz cz g cg : Nat) (w : World) (hX : FS w (.slice (some ⟨bx, 0, none⟩) x.ws.length cx) x.ws) (hY : FS w (.slice (some ⟨bz, 0, none⟩) y.ws.length cz) y.ws) (hZ : FS w (.slice (some ⟨g, 0, none⟩) z.ws.length cg) z.ws) (hPx : Plain w bx) (hPy : Plain w bz) (hPz : Plain w g) (gz mx my : Bool) (H : GemmC x y z bx cx bz cz g cg true false gz mx my) : Calls Try.prog 148 #[.agg #[.slice (some ⟨bx, 0, none⟩) x.ws.length cx, .int .i64 x.off, .int .i64 x.rows, .int .i64 x.cols, .int .i64 x.ld], .agg #[.slice (some ⟨bz, 0, none⟩) y.ws.length cz, .int .i64 y.off, .int .i64 y.rows, .int .i64 y.cols, .int .i64 y.ld], .agg #[.slice (some ⟨g, 0, none⟩) z.ws.length cg, .int .i64 z.off, .int .i64 z.rows, .int .i64 z.cols, .int .i64 z.ld]] w (fun e w' => e = .returned (.int .i64 1) ∧ ∃ o n, w' = ext w o n) := by
  go_enter Try.func148, Try.ntmps148
  refine seq_stop ?_
  go_wp2
  refine stop_go (fun W hW => ?_)
  have s1 : w.heap.size < W.heap.size := by rw [hW]; simp only [World.size_alloc]; omega
  have b1 : ∀ i, W.cell? ⟨w.heap.size, i, none⟩ = (#[.slice (some ⟨bx, 0, none⟩) x.ws.length cx, .int .i64 x.off, .int .i64 x.rows, .int .i64 x.cols, .int .i64 x.ld] : Array Value)[i]? := by intro i; rw [hW]; go_simp
  have s2 : w.heap.size + 1 < W.heap.size := by rw [hW]; simp only [World.size_alloc]; omega
  have b2 : ∀ i, W.cell? ⟨w.heap.size + 1, i, none⟩ = (#[.slice (some ⟨bz, 0, none⟩) y.ws.length cz, .int .i64 y.off, .int .i64 y.rows, .int .i64 y.cols, .int .i64 y.ld] : Array Value)[i]? := by intro i; rw [hW]; go_simp
  have s3 : w.heap.size + 1 + 1 < W.heap.size := by rw [hW]; simp only [World.size_alloc]; omega
  have b3 : ∀ i, W.cell? ⟨w.heap.size + 1 + 1, i, none⟩ = (#[.slice (some ⟨g, 0, none⟩) z.ws.length cg, .int .i64 z.off, .int .i64 z.rows, .int .i64 z.cols, .int .i64 z.ld] : Array Value)[i]? := by intro i; rw [hW]; go_simp
  have g0 : Grew w W := by rw [hW]; exact (((Grew.refl _).alloc _).alloc _).alloc _
  clear hW
  have hXW := hX.grew g0
  have hYW := hY.grew g0
  have hZW := hZ.grew g0
  go_wp2_with (first | (go_at_call 130; ((with_reducible refine (H.X _ ?_).mono ?_); (focus (first | (with_reducible assumption) | (with_reducible refine FS.ext ?_ _ _; with_reducible assumption) | (with_reducible refine IS.ext ?_ _ _; with_reducible assumption) | (refine hDu _ ?_; with_reducible assumption) | (refine hOu _ ?_; with_reducible assumption) | (refine hDa _ ?_; with_reducible assumption) | (refine hDb _ ?_; with_reducible assumption) | (refine hDc _ ?_; with_reducible assumption) | (refine hDd _ ?_; with_reducible assumption) | (refine FW.fs ?_ (by omega) _; with_reducible assumption) | (refine WS.fs ?_; with_reducible assumption) | (refine FW.fs ?_ (by omega) _; assumption) | omega | assumption)); rintro e w1 ⟨rfl, oa, na, rfl⟩)) | (go_at_call 130; ((with_reducible refine (H.Y _ ?_).mono ?_); (focus (first | (with_reducible assumption) | (with_reducible refine FS.ext ?_ _ _; with_reducible assumption) | (with_reducible refine IS.ext ?_ _ _; with_reducible assumption) | (refine hDu _ ?_; with_reducible assumption) | (refine hOu _ ?_; with_reducible assumption) | (refine hDa _ ?_; with_reducible assumption) | (refine hDb _ ?_; with_reducible assumption) | (refine hDc _ ?_; with_reducible assumption) | (refine hDd _ ?_; with_reducible assumption) | (refine FW.fs ?_ (by omega) _; with_reducible assumption) | (refine WS.fs ?_; with_reducible assumption) | (refine FW.fs ?_ (by omega) _; assumption) | omega | assumption)); rintro e w1 ⟨rfl, ob, nb, rfl⟩)) | (go_at_call 130; ((with_reducible refine (H.Z _ ?_).mono ?_); (focus (first | (with_reducible assumption) | (with_reducible refine FS.ext ?_ _ _; with_reducible assumption) | (with_reducible refine IS.ext ?_ _ _; with_reducible assumption) | (refine hDu _ ?_; with_reducible assumption) | (refine hOu _ ?_; with_reducible assumption) | (refine hDa _ ?_; with_reducible assumption) | (refine hDb _ ?_; with_reducible assumption) | (refine hDc _ ?_; with_reducible assumption) | (refine hDd _ ?_; with_reducible assumption) | (refine FW.fs ?_ (by omega) _; with_reducible assumption) | (refine WS.fs ?_; with_reducible assumption) | (refine FW.fs ?_ (by omega) _; assumption) | omega | assumption)); rintro e w1 ⟨rfl, oc, nc, rfl⟩)) | (go_at_call 136; ((with_reducible refine (H.Mx _ ?_ ?_ (hPz.grew (by (show Grew _ _; repeat (first | (with_reducible exact Grew.refl _) | (with_reducible assumption) | (with_reducible exact Grew.same_o) | (with_reducible exact Grew.app_o) | (with_reducible refine Grew.ext ?_ _ _) | (with_reducible refine Grew.alloc ?_ _) | ((with_reducible refine Grew.setCell ?_ ?_ _); rotate_left; (focus (dsimp only; first | omega | (simp only [size_ext, World.size_alloc, Array.size_append]; omega)))) | (with_reducible refine Grew.drewN ?_ _) | (with_reducible refine Grew.drew ?_))))) (hPx.grew (by (show Grew _ _; repeat (first | (with_reducible exact Grew.refl _) | (with_reducible assumption) | (with_reducible exact Grew.same_o) | (with_reducible exact Grew.app_o) | (with_reducible refine Grew.ext ?_ _ _) | (with_reducible refine Grew.alloc ?_ _) | ((with_reducible refine Grew.setCell ?_ ?_ _); rotate_left; (focus (dsimp only; first | omega | (simp only [size_ext, World.size_alloc, Array.size_append]; omega)))) | (with_reducible refine Grew.drewN ?_ _) | (with_reducible refine Grew.drew ?_)))))).mono ?_); (focus (first | (with_reducible assumption) | (with_reducible refine FS.ext ?_ _ _; with_reducible assumption) | (with_reducible refine IS.ext ?_ _ _; with_reducible assumption) | (refine hDu _ ?_; with_reducible assumption) | (refine hOu _ ?_; with_reducible assumption) | (refine hDa _ ?_; with_reducible assumption) | (refine hDb _ ?_; with_reducible assumption) | (refine hDc _ ?_; with_reducible assumption) | (refine hDd _ ?_; with_reducible assumption) | (refine FW.fs ?_ (by omega) _; with_reducible assumption) | (refine WS.fs ?_; with_reducible assumption) | (refine FW.fs ?_ (by omega) _; assumption) | omega | assumption)); (focus (first | (with_reducible assumption) | (with_reducible refine FS.ext ?_ _ _; with_reducible assumption) | (with_reducible refine IS.ext ?_ _ _; with_reducible assumption) | (refine hDu _ ?_; with_reducible assumption) | (refine hOu _ ?_; with_reducible assumption) | (refine hDa _ ?_; with_reducible assumption) | (refine hDb _ ?_; with_reducible assumption) | (refine hDc _ ?_; with_reducible assumption) | (refine hDd _ ?_; with_reducible assumption) | (refine FW.fs ?_ (by omega) _; with_reducible assumption) | (refine WS.fs ?_; with_reducible assumption) | (refine FW.fs ?_ (by omega) _; assumption) | omega | assumption)); rintro e w1 ⟨rfl, oe, ne, rfl⟩)) | (go_at_call 136; ((with_reducible refine (H.My _ ?_ ?_ (hPz.grew (by (show Grew _ _; repeat (first | (with_reducible exact Grew.refl _) | (with_reducible assumption) | (with_reducible exact Grew.same_o) | (with_reducible exact Grew.app_o) | (with_reducible refine Grew.ext ?_ _ _) | (with_reducible refine Grew.alloc ?_ _) | ((with_reducible refine Grew.setCell ?_ ?_ _); rotate_left; (focus (dsimp only; first | omega | (simp only [size_ext, World.size_alloc, Array.size_append]; omega)))) | (with_reducible refine Grew.drewN ?_ _) | (with_reducible refine Grew.drew ?_))))) (hPy.grew (by (show Grew _ _; repeat (first | (with_reducible exact Grew.refl _) | (with_reducible assumption) | (with_reducible exact Grew.same_o) | (with_reducible exact Grew.app_o) | (with_reducible refine Grew.ext ?_ _ _) | (with_reducible refine Grew.alloc ?_ _) | ((with_reducible refine Grew.setCell ?_ ?_ _); rotate_left; (focus (dsimp only; first | omega | (simp only [size_ext, World.size_alloc, Array.size_append]; omega)))) | (with_reducible refine Grew.drewN ?_ _) | (with_reducible refine Grew.drew ?_)))))).mono ?_); (focus (first | (with_reducible assumption) | (with_reducible refine FS.ext ?_ _ _; with_reducible assumption) | (with_reducible refine IS.ext ?_ _ _; with_reducible assumption) | (refine hDu _ ?_; with_reducible assumption) | (refine hOu _ ?_; with_reducible assumption) | (refine hDa _ ?_; with_reducible assumption) | (refine hDb _ ?_; with_reducible assumption) | (refine hDc _ ?_; with_reducible assumption) | (refine hDd _ ?_; with_reducible assumption) | (refine FW.fs ?_ (by omega) _; with_reducible assumption) | (refine WS.fs ?_; with_reducible assumption) | (refine FW.fs ?_ (by omega) _; assumption) | omega | assumption)); (focus (first | (with_reducible assumption) | (with_reducible refine FS.ext ?_ _ _; with_reducible assumption) | (with_reducible refine IS.ext ?_ _ _; with_reducible assumption) | (refine hDu _ ?_; with_reducible assumption) | (refine hOu _ ?_; with_reducible assumption) | (refine hDa _ ?_; with_reducible assumption) | (refine hDb _ ?_; with_reducible assumption) | (refine hDc _ ?_; with_reducible assumption) | (refine hDd _ ?_; with_reducible assumption) | (refine FW.fs ?_ (by omega) _; with_reducible assumption) | (refine WS.fs ?_; with_reducible assumption) | (refine FW.fs ?_ (by omega) _; assumption) | omega | assumption)); rintro e w1 ⟨rfl, of, nf, rfl⟩)))
  go_ret
  exact ⟨rfl, by (show Grew _ _; repeat (first | (with_reducible exact Grew.refl _) | (with_reducible assumption) | (with_reducible exact Grew.same_o) | (with_reducible exact Grew.app_o) | (with_reducible refine Grew.ext ?_ _ _) | (with_reducible refine Grew.alloc ?_ _) | ((with_reducible refine Grew.setCell ?_ ?_ _); rotate_left; (focus (dsimp only; first | omega | (simp only [size_ext, World.size_alloc, Array.size_append]; omega)))) | (with_reducible refine Grew.drewN ?_ _) | (with_reducible refine Grew.drew ?_)))⟩
set_option maxRecDepth 100000 in
set_option maxHeartbeats 4000000 in
theorem gcheck_3 (x y z : MatM) (bx cx bz cz g cg : Nat) (w : World) (hX : FS w (.slice (some ⟨bx, 0, none⟩) x.ws.length cx) x.ws) (hY : FS w (.slice (some ⟨bz, 0, none⟩) y.ws.length cz) y.ws) (hZ : FS w (.slice (some ⟨g, 0, none⟩) z.ws.length cg) z.ws) (hPx : Plain w bx) (hPy : Plain w bz) (hPz : Plain w g) (mx my : Bool) (H : GemmC x y z bx cx bz cz g cg true true false mx my) : Calls Try.prog 148 #[.agg #[.slice (some ⟨bx, 0, none⟩) x.ws.length cx, .int .i64 x.off, .int .i64 x.rows, .int .i64 x.cols, .int .i64 x.ld], .agg #[.slice (some ⟨bz, 0, none⟩) y.ws.length cz, .int .i64 y.off, .int .i64 y.rows, .int .i64 y.cols, .int .i64 y.ld], .agg #[.slice (some ⟨g, 0, none⟩) z.ws.length cg, .int .i64 z.off, .int .i64 z.rows, .int .i64 z.cols, .int .i64 z.ld]] w (fun e w' => e = .returned (.int .i64 1) ∧ ∃ o n, w' = ext w o n) := by
  go_enter Try.func148, Try.ntmps148
  refine seq_stop ?_
  go_wp2
  refine stop_go (fun W hW => ?_)
  have s1 : w.heap.size < W.heap.size := by rw [hW]; simp only [World.size_alloc]; omega
  have b1 : ∀ i, W.cell? ⟨w.heap.size, i, none⟩ = (#[.slice (some ⟨bx, 0, none⟩) x.ws.length cx, .int .i64 x.off, .int .i64 x.rows, .int .i64 x.cols, .int .i64 x.ld] : Array Value)[i]? := by intro i; rw [hW]; go_simp
  have s2 : w.heap.size + 1 < W.heap.size := by rw [hW]; simp only [World.size_alloc]; omega
  have b2 : ∀ i, W.cell? ⟨w.heap.size + 1, i, none⟩ = (#[.slice (some ⟨bz, 0, none⟩) y.ws.length cz, .int .i64 y.off, .int .i64 y.rows, .int .i64 y.cols, .int .i64 y.ld] : Array Value)[i]? := by intro i; rw [hW]; go_simp
  have s3 : w.heap.size + 1 + 1 < W.heap.size := by rw [hW]; simp only [World.size_alloc]; omega
  have b3 : ∀ i, W.cell? ⟨w.heap.size + 1 + 1, i, none⟩ = (#[.slice (some ⟨g, 0, none⟩) z.ws.length cg, .int .i64 z.off, .int .i64 z.rows, .int .i64 z.cols, .int .i64 z.ld] : Array Value)[i]? := by intro i; rw [hW]; go_simp
  have g0 : Grew w W := by rw [hW]; exact (((Grew.refl _).alloc _).alloc _).alloc _
  clear hW
  have hXW := hX.grew g0
  have hYW := hY.grew g0
  have hZW := hZ.grew g0
  go_wp2_with (first | (go_at_call 130; ((with_reducible refine (H.X _ ?_).mono ?_); (focus (first | (with_reducible assumption) | (with_reducible refine FS.ext ?_ _ _; with_reducible assumption) | (with_reducible refine IS.ext ?_ _ _; with_reducible assumption) | (refine hDu _ ?_; with_reducible assumption) | (refine hOu _ ?_; with_reducible assumption) | (refine hDa _ ?_; with_reducible assumption) | (refine hDb _ ?_; with_reducible assumption) | (refine hDc _ ?_; with_reducible assumption) | (refine hDd _ ?_; with_reducible assumption) | (refine FW.fs ?_ (by omega) _; with_reducible assumption) | (refine WS.fs ?_; with_reducible assumption) | (refine FW.fs ?_ (by omega) _; assumption) | omega | assumption)); rintro e w1 ⟨rfl, oa, na, rfl⟩)) | (go_at_call 130; ((with_reducible refine (H.Y _ ?_).mono ?_); (focus (first | (with_reducible assumption) | (with_reducible refine FS.ext ?_ _ _; with_reducible assumption) | (with_reducible refine IS.ext ?_ _ _; with_reducible assumption) | (refine hDu _ ?_; with_reducible assumption) | (refine hOu _ ?_; with_reducible assumption) | (refine hDa _ ?_; with_reducible assumption) | (refine hDb _ ?_; with_reducible assumption) | (refine hDc _ ?_; with_reducible assumption) | (refine hDd _ ?_; with_reducible assumption) | (refine FW.fs ?_ (by omega) _; with_reducible assumption) | (refine WS.fs ?_; with_reducible assumption) | (refine FW.fs ?_ (by omega) _; assumption) | omega | assumption)); rintro e w1 ⟨rfl, ob, nb, rfl⟩)) | (go_at_call 130; ((with_reducible refine (H.Z _ ?_).mono ?_); (focus (first | (with_reducible assumption) | (with_reducible refine FS.ext ?_ _ _; with_reducible assumption) | (with_reducible refine IS.ext ?_ _ _; with_reducible assumption) | (refine hDu _ ?_; with_reducible assumption) | (refine hOu _ ?_; with_reducible assumption) | (refine hDa _ ?_; with_reducible assumption) | (refine hDb _ ?_; with_reducible assumption) | (refine hDc _ ?_; with_reducible assumption) | (refine hDd _ ?_; with_reducible assumption) | (refine FW.fs ?_ (by omega) _; with_reducible assumption) | (refine WS.fs ?_; with_reducible assumption) | (refine FW.fs ?_ (by omega) _; assumption) | omega | assumption)); rintro e w1 ⟨rfl, oc, nc, rfl⟩)) | (go_at_call 136; ((with_reducible refine (H.Mx _ ?_ ?_ (hPz.grew (by (show Grew _ _; repeat (first | (with_reducible exact Grew.refl _) | (with_reducible assumption) | (with_reducible exact Grew.same_o) | (with_reducible exact Grew.app_o) | (with_reducible refine Grew.ext ?_ _ _) | (with_reducible refine Grew.alloc ?_ _) | ((with_reducible refine Grew.setCell ?_ ?_ _); rotate_left; (focus (dsimp only; first | omega | (simp only [size_ext, World.size_alloc, Array.size_append]; omega)))) | (with_reducible refine Grew.drewN ?_ _) | (with_reducible refine Grew.drew ?_))))) (hPx.grew (by (show Grew _ _; repeat (first | (with_reducible exact Grew.refl _) | (with_reducible assumption) | (with_reducible exact Grew.same_o) | (with_reducible exact Grew.app_o) | (with_reducible refine Grew.ext ?_ _ _) | (with_reducible refine Grew.alloc ?_ _) | ((with_reducible refine Grew.setCell ?_ ?_ _); rotate_left; (focus (dsimp only; first | omega | (simp only [size_ext, World.size_alloc, Array.size_append]; omega)))) | (with_reducible refine Grew.drewN ?_ _) | (with_reducible refine Grew.drew ?_)))))).mono ?_); (focus (first | (with_reducible assumption) | (with_reducible refine FS.ext ?_ _ _; with_reducible assumption) | (with_reducible refine IS.ext ?_ _ _; with_reducible assumption) | (refine hDu _ ?_; with_reducible assumption) | (refine hOu _ ?_; with_reducible assumption) | (refine hDa _ ?_; with_reducible assumption) | (refine hDb _ ?_; with_reducible assumption) | (refine hDc _ ?_; with_reducible assumption) | (refine hDd _ ?_; with_reducible assumption) | (refine FW.fs ?_ (by omega) _; with_reducible assumption) | (refine WS.fs ?_; with_reducible assumption) | (refine FW.fs ?_ (by omega) _; assumption) | omega | assumption)); (focus (first | (with_reducible assumption) | (with_reducible refine FS.ext ?_ _ _; with_reducible assumption) | (with_reducible refine IS.ext ?_ _ _; with_reducible assumption) | (refine hDu _ ?_; with_reducible assumption) | (refine hOu _ ?_; with_reducible assumption) | (refine hDa _ ?_; with_reducible assumption) | (refine hDb _ ?_; with_reducible assumption) | (refine hDc _ ?_; with_reducible assumption) | (refine hDd _ ?_; with_reducible assumption) | (refine FW.fs ?_ (by omega) _; with_reducible assumption) | (refine WS.fs ?_; with_reducible assumption) | (refine FW.fs ?_ (by omega) _; assumption) | omega | assumption)); rintro e w1 ⟨rfl, oe, ne, rfl⟩)) | (go_at_call 136; ((with_reducible refine (H.My _ ?_ ?_ (hPz.grew (by (show Grew _ _; repeat (first | (with_reducible exact Grew.refl _) | (with_reducible assumption) | (with_reducible exact Grew.same_o) | (with_reducible exact Grew.app_o) | (with_reducible refine Grew.ext ?_ _ _) | (with_reducible refine Grew.alloc ?_ _) | ((with_reducible refine Grew.setCell ?_ ?_ _); rotate_left; (focus (dsimp only; first | omega | (simp only [size_ext, World.size_alloc, Array.size_append]; omega)))) | (with_reducible refine Grew.drewN ?_ _) | (with_reducible refine Grew.drew ?_))))) (hPy.grew (by (show Grew _ _; repeat (first | (with_reducible exact Grew.refl _) | (with_reducible assumption) | (with_reducible exact Grew.same_o) | (with_reducible exact Grew.app_o) | (with_reducible refine Grew.ext ?_ _ _) | (with_reducible refine Grew.alloc ?_ _) | ((with_reducible refine Grew.setCell ?_ ?_ _); rotate_left; (focus (dsimp only; first | omega | (simp only [size_ext, World.size_alloc, Array.size_append]; omega)))) | (with_reducible refine Grew.drewN ?_ _) | (with_reducible refine Grew.drew ?_)))))).mono ?_); (focus (first | (with_reducible assumption) | (with_reducible refine FS.ext ?_ _ _; with_reducible assumption) | (with_reducible refine IS.ext ?_ _ _; with_reducible assumption) | (refine hDu _ ?_; with_reducible assumption) | (refine hOu _ ?_; with_reducible assumption) | (refine hDa _ ?_; with_reducible assumption) | (refine hDb _ ?_; with_reducible assumption) | (refine hDc _ ?_; with_reducible assumption) | (refine hDd _ ?_; with_reducible assumption) | (refine FW.fs ?_ (by omega) _; with_reducible assumption) | (refine WS.fs ?_; with_reducible assumption) | (refine FW.fs ?_ (by omega) _; assumption) | omega | assumption)); (focus (first | (with_reducible assumption) | (with_reducible refine FS.ext ?_ _ _; with_reducible assumption) | (with_reducible refine IS.ext ?_ _ _; with_reducible assumption) | (refine hDu _ ?_; with_reducible assumption) | (refine hOu _ ?_; with_reducible assumption) | (refine hDa _ ?_; with_reducible assumption) | (refine hDb _ ?_; with_reducible assumption) | (refine hDc _ ?_; with_reducible assumption) | (refine hDd _ ?_; with_reducible assumption) | (refine FW.fs ?_ (by omega) _; with_reducible assumption) | (refine WS.fs ?_; with_reducible assumption) | (refine FW.fs ?_ (by omega) _; assumption) | omega | assumption)); rintro e w1 ⟨rfl, of, nf, rfl⟩)))
  go_ret
  exact ⟨rfl, by (show Grew _ _; repeat (first | (with_reducible exact Grew.refl _) | (with_reducible assumption) | (with_reducible exact Grew.same_o) | (with_reducible exact Grew.app_o) | (with_reducible refine Grew.ext ?_ _ _) | (with_reducible refine Grew.alloc ?_ _) | ((with_reducible refine Grew.setCell ?_ ?_ _); rotate_left; (focus (dsimp only; first | omega | (simp only [size_ext, World.size_alloc, Array.size_append]; omega)))) | (with_reducible refine Grew.drewN ?_ _) | (with_reducible refine Grew.drew ?_)))⟩
set_option maxRecDepth 100000 in
set_option maxHeartbeats 4000000 in
theorem gcheck_4 (x y z : MatM) (bx cx bz cz g cg : Nat) (w : World) (hX : FS w (.slice (some ⟨bx, 0, none⟩) x.ws.length cx) x.ws) (hY : FS w (.slice (some ⟨bz, 0, none⟩) y.ws.length cz) y.ws) (hZ : FS w (.slice (some ⟨g, 0, none⟩) z.ws.length cg) z.ws) (hPx : Plain w bx) (hPy : Plain w bz) (hPz : Plain w g) (mx my : Bool) (H : GemmC x y z bx cx bz cz g cg true true true mx my) (h : x.cols ≠ y.rows ∨ z.rows ≠ x.rows ∨ z.cols ≠ y.cols) : Calls Try.prog 148 #[.agg #[.slice (some ⟨bx, 0, none⟩) x.ws.length cx, .int .i64 x.off, .int .i64 x.rows, .int .i64 x.cols, .int .i64 x.ld], .agg #[.slice (some ⟨bz, 0, none⟩) y.ws.length cz, .int .i64 y.off, .int .i64 y.rows, .int .i64 y.cols, .int .i64 y.ld], .agg #[.slice (some ⟨g, 0, none⟩) z.ws.length cg, .int .i64 z.off, .int .i64 z.rows, .int .i64 z.cols, .int .i64 z.ld]] w (fun e w' => e = .returned (.int .i64 3) ∧ ∃ o n, w' = ext w o n) := by
  by_cases h1 : x.cols = y.rows
  · have d1 : (x.cols != y.rows) = false := by simpa using h1
    by_cases h2 : z.rows = x.rows
    · have d2 : (z.rows != x.rows) = false := by simpa using h2
      have d3 : (z.cols != y.cols) = true := by simpa using h.elim (fun h => absurd h1 h) (fun h => h.elim (fun h => absurd h2 h) id)
      clear h h1 h2
      go_enter Try.func148, Try.ntmps148
      refine seq_stop ?_
      go_wp2
      refine stop_go (fun W hW => ?_)
      have s1 : w.heap.size < W.heap.size := by rw [hW]; simp only [World.size_alloc]; omega
      have b1 : ∀ i, W.cell? ⟨w.heap.size, i, none⟩ = (#[.slice (some ⟨bx, 0, none⟩) x.ws.length cx, .int .i64 x.off, .int .i64 x.rows, .int .i64 x.cols, .int .i64 x.ld] : Array Value)[i]? := by intro i; rw [hW]; go_simp
      have s2 : w.heap.size + 1 < W.heap.size := by rw [hW]; simp only [World.size_alloc]; omega
      have b2 : ∀ i, W.cell? ⟨w.heap.size + 1, i, none⟩ = (#[.slice (some ⟨bz, 0, none⟩) y.ws.length cz, .int .i64 y.off, .int .i64 y.rows, .int .i64 y.cols, .int .i64 y.ld] : Array Value)[i]? := by intro i; rw [hW]; go_simp
      have s3 : w.heap.size + 1 + 1 < W.heap.size := by rw [hW]; simp only [World.size_alloc]; omega
      have b3 : ∀ i, W.cell? ⟨w.heap.size + 1 + 1, i, none⟩ = (#[.slice (some ⟨g, 0, none⟩) z.ws.length cg, .int .i64 z.off, .int .i64 z.rows, .int .i64 z.cols, .int .i64 z.ld] : Array Value)[i]? := by intro i; rw [hW]; go_simp
      have g0 : Grew w W := by rw [hW]; exact (((Grew.refl _).alloc _).alloc _).alloc _
      clear hW
      have hXW := hX.grew g0
      have hYW := hY.grew g0
      have hZW := hZ.grew g0
      go_wp2_with (first | (go_at_call 130; ((with_reducible refine (H.X _ ?_).mono ?_); (focus (first | (with_reducible assumption) | (with_reducible refine FS.ext ?_ _ _; with_reducible assumption) | (with_reducible refine IS.ext ?_ _ _; with_reducible assumption) | (refine hDu _ ?_; with_reducible assumption) | (refine hOu _ ?_; with_reducible assumption) | (refine hDa _ ?_; with_reducible assumption) | (refine hDb _ ?_; with_reducible assumption) | (refine hDc _ ?_; with_reducible assumption) | (refine hDd _ ?_; with_reducible assumption) | (refine FW.fs ?_ (by omega) _; with_reducible assumption) | (refine WS.fs ?_; with_reducible assumption) | (refine FW.fs ?_ (by omega) _; assumption) | omega | assumption)); rintro e w1 ⟨rfl, oa, na, rfl⟩)) | (go_at_call 130; ((with_reducible refine (H.Y _ ?_).mono ?_); (focus (first | (with_reducible assumption) | (with_reducible refine FS.ext ?_ _ _; with_reducible assumption) | (with_reducible refine IS.ext ?_ _ _; with_reducible assumption) | (refine hDu _ ?_; with_reducible assumption) | (refine hOu _ ?_; with_reducible assumption) | (refine hDa _ ?_; with_reducible assumption) | (refine hDb _ ?_; with_reducible assumption) | (refine hDc _ ?_; with_reducible assumption) | (refine hDd _ ?_; with_reducible assumption) | (refine FW.fs ?_ (by omega) _; with_reducible assumption) | (refine WS.fs ?_; with_reducible assumption) | (refine FW.fs ?_ (by omega) _; assumption) | omega | assumption)); rintro e w1 ⟨rfl, ob, nb, rfl⟩)) | (go_at_call 130; ((with_reducible refine (H.Z _ ?_).mono ?_); (focus (first | (with_reducible assumption) | (with_reducible refine FS.ext ?_ _ _; with_reducible assumption) | (with_reducible refine IS.ext ?_ _ _; with_reducible assumption) | (refine hDu _ ?_; with_reducible assumption) | (refine hOu _ ?_; with_reducible assumption) | (refine hDa _ ?_; with_reducible assumption) | (refine hDb _ ?_; with_reducible assumption) | (refine hDc _ ?_; with_reducible assumption) | (refine hDd _ ?_; with_reducible assumption) | (refine FW.fs ?_ (by omega) _; with_reducible assumption) | (refine WS.fs ?_; with_reducible assumption) | (refine FW.fs ?_ (by omega) _; assumption) | omega | assumption)); rintro e w1 ⟨rfl, oc, nc, rfl⟩)) | (go_at_call 136; ((with_reducible refine (H.Mx _ ?_ ?_ (hPz.grew (by (show Grew _ _; repeat (first | (with_reducible exact Grew.refl _) | (with_reducible assumption) | (with_reducible exact Grew.same_o) | (with_reducible exact Grew.app_o) | (with_reducible refine Grew.ext ?_ _ _) | (with_reducible refine Grew.alloc ?_ _) | ((with_reducible refine Grew.setCell ?_ ?_ _); rotate_left; (focus (dsimp only; first | omega | (simp only [size_ext, World.size_alloc, Array.size_append]; omega)))) | (with_reducible refine Grew.drewN ?_ _) | (with_reducible refine Grew.drew ?_))))) (hPx.grew (by (show Grew _ _; repeat (first | (with_reducible exact Grew.refl _) | (with_reducible assumption) | (with_reducible exact Grew.same_o) | (with_reducible exact Grew.app_o) | (with_reducible refine Grew.ext ?_ _ _) | (with_reducible refine Grew.alloc ?_ _) | ((with_reducible refine Grew.setCell ?_ ?_ _); rotate_left; (focus (dsimp only; first | omega | (simp only [size_ext, World.size_alloc, Array.size_append]; omega)))) | (with_reducible refine Grew.drewN ?_ _) | (with_reducible refine Grew.drew ?_)))))).mono ?_); (focus (first | (with_reducible assumption) | (with_reducible refine FS.ext ?_ _ _; with_reducible assumption) | (with_reducible refine IS.ext ?_ _ _; with_reducible assumption) | (refine hDu _ ?_; with_reducible assumption) | (refine hOu _ ?_; with_reducible assumption) | (refine hDa _ ?_; with_reducible assumption) | (refine hDb _ ?_; with_reducible assumption) | (refine hDc _ ?_; with_reducible assumption) | (refine hDd _ ?_; with_reducible assumption) | (refine FW.fs ?_ (by omega) _; with_reducible assumption) | (refine WS.fs ?_; with_reducible assumption) | (refine FW.fs ?_ (by omega) _; assumption) | omega | assumption)); (focus (first | (with_reducible assumption) | (with_reducible refine FS.ext ?_ _ _; with_reducible assumption) | (with_reducible refine IS.ext ?_ _ _; with_reducible assumption) | (refine hDu _ ?_; with_reducible assumption) | (refine hOu _ ?_; with_reducible assumption) | (refine hDa _ ?_; with_reducible assumption) | (refine hDb _ ?_; with_reducible assumption) | (refine hDc _ ?_; with_reducible assumption) | (refine hDd _ ?_; with_reducible assumption) | (refine FW.fs ?_ (by omega) _; with_reducible assumption) | (refine WS.fs ?_; with_reducible assumption) | (refine FW.fs ?_ (by omega) _; assumption) | omega | assumption)); rintro e w1 ⟨rfl, oe, ne, rfl⟩)) | (go_at_call 136; ((with_reducible refine (H.My _ ?_ ?_ (hPz.grew (by (show Grew _ _; repeat (first | (with_reducible exact Grew.refl _) | (with_reducible assumption) | (with_reducible exact Grew.same_o) | (with_reducible exact Grew.app_o) | (with_reducible refine Grew.ext ?_ _ _) | (with_reducible refine Grew.alloc ?_ _) | ((with_reducible refine Grew.setCell ?_ ?_ _); rotate_left; (focus (dsimp only; first | omega | (simp only [size_ext, World.size_alloc, Array.size_append]; omega)))) | (with_reducible refine Grew.drewN ?_ _) | (with_reducible refine Grew.drew ?_))))) (hPy.grew (by (show Grew _ _; repeat (first | (with_reducible exact Grew.refl _) | (with_reducible assumption) | (with_reducible exact Grew.same_o) | (with_reducible exact Grew.app_o) | (with_reducible refine Grew.ext ?_ _ _) | (with_reducible refine Grew.alloc ?_ _) | ((with_reducible refine Grew.setCell ?_ ?_ _); rotate_left; (focus (dsimp only; first | omega | (simp only [size_ext, World.size_alloc, Array.size_append]; omega)))) | (with_reducible refine Grew.drewN ?_ _) | (with_reducible refine Grew.drew ?_)))))).mono ?_); (focus (first | (with_reducible assumption) | (with_reducible refine FS.ext ?_ _ _; with_reducible assumption) | (with_reducible refine IS.ext ?_ _ _; with_reducible assumption) | (refine hDu _ ?_; with_reducible assumption) | (refine hOu _ ?_; with_reducible assumption) | (refine hDa _ ?_; with_reducible assumption) | (refine hDb _ ?_; with_reducible assumption) | (refine hDc _ ?_; with_reducible assumption) | (refine hDd _ ?_; with_reducible assumption) | (refine FW.fs ?_ (by omega) _; with_reducible assumption) | (refine WS.fs ?_; with_reducible assumption) | (refine FW.fs ?_ (by omega) _; assumption) | omega | assumption)); (focus (first | (with_reducible assumption) | (with_reducible refine FS.ext ?_ _ _; with_reducible assumption) | (with_reducible refine IS.ext ?_ _ _; with_reducible assumption) | (refine hDu _ ?_; with_reducible assumption) | (refine hOu _ ?_; with_reducible assumption) | (refine hDa _ ?_; with_reducible assumption) | (refine hDb _ ?_; with_reducible assumption) | (refine hDc _ ?_; with_reducible assumption) | (refine hDd _ ?_; with_reducible assumption) | (refine FW.fs ?_ (by omega) _; with_reducible assumption) | (refine WS.fs ?_; with_reducible assumption) | (refine FW.fs ?_ (by omega) _; assumption) | omega | assumption)); rintro e w1 ⟨rfl, of, nf, rfl⟩)))
      go_ret
      exact ⟨rfl, by (show Grew _ _; repeat (first | (with_reducible exact Grew.refl _) | (with_reducible assumption) | (with_reducible exact Grew.same_o) | (with_reducible exact Grew.app_o) | (with_reducible refine Grew.ext ?_ _ _) | (with_reducible refine Grew.alloc ?_ _) | ((with_reducible refine Grew.setCell ?_ ?_ _); rotate_left; (focus (dsimp only; first | omega | (simp only [size_ext, World.size_alloc, Array.size_append]; omega)))) | (with_reducible refine Grew.drewN ?_ _) | (with_reducible refine Grew.drew ?_)))⟩
    · have d2 : (z.rows != x.rows) = true := by simpa using h2
      clear h h1 h2
      go_enter Try.func148, Try.ntmps148
      refine seq_stop ?_
      go_wp2
      refine stop_go (fun W hW => ?_)
      have s1 : w.heap.size < W.heap.size := by rw [hW]; simp only [World.size_alloc]; omega
      have b1 : ∀ i, W.cell? ⟨w.heap.size, i, none⟩ = (#[.slice (some ⟨bx, 0, none⟩) x.ws.length cx, .int .i64 x.off, .int .i64 x.rows, .int .i64 x.cols, .int .i64 x.ld] : Array Value)[i]? := by intro i; rw [hW]; go_simp
      have s2 : w.heap.size + 1 < W.heap.size := by rw [hW]; simp only [World.size_alloc]; omega
      have b2 : ∀ i, W.cell? ⟨w.heap.size + 1, i, none⟩ = (#[.slice (some ⟨bz, 0, none⟩) y.ws.length cz, .int .i64 y.off, .int .i64 y.rows, .int .i64 y.cols, .int .i64 y.ld] : Array Value)[i]? := by intro i; rw [hW]; go_simp
      have s3 : w.heap.size + 1 + 1 < W.heap.size := by rw [hW]; simp only [World.size_alloc]; omega
      have b3 : ∀ i, W.cell? ⟨w.heap.size + 1 + 1, i, none⟩ = (#[.slice (some ⟨g, 0, none⟩) z.ws.length cg, .int .i64 z.off, .int .i64 z.rows, .int .i64 z.cols, .int .i64 z.ld] : Array Value)[i]? := by intro i; rw [hW]; go_simp
      have g0 : Grew w W := by rw [hW]; exact (((Grew.refl _).alloc _).alloc _).alloc _
      clear hW
      have hXW := hX.grew g0
      have hYW := hY.grew g0
      have hZW := hZ.grew g0
      go_wp2_with (first | (go_at_call 130; ((with_reducible refine (H.X _ ?_).mono ?_); (focus (first | (with_reducible assumption) | (with_reducible refine FS.ext ?_ _ _; with_reducible assumption) | (with_reducible refine IS.ext ?_ _ _; with_reducible assumption) | (refine hDu _ ?_; with_reducible assumption) | (refine hOu _ ?_; with_reducible assumption) | (refine hDa _ ?_; with_reducible assumption) | (refine hDb _ ?_; with_reducible assumption) | (refine hDc _ ?_; with_reducible assumption) | (refine hDd _ ?_; with_reducible assumption) | (refine FW.fs ?_ (by omega) _; with_reducible assumption) | (refine WS.fs ?_; with_reducible assumption) | (refine FW.fs ?_ (by omega) _; assumption) | omega | assumption)); rintro e w1 ⟨rfl, oa, na, rfl⟩)) | (go_at_call 130; ((with_reducible refine (H.Y _ ?_).mono ?_); (focus (first | (with_reducible assumption) | (with_reducible refine FS.ext ?_ _ _; with_reducible assumption) | (with_reducible refine IS.ext ?_ _ _; with_reducible assumption) | (refine hDu _ ?_; with_reducible assumption) | (refine hOu _ ?_; with_reducible assumption) | (refine hDa _ ?_; with_reducible assumption) | (refine hDb _ ?_; with_reducible assumption) | (refine hDc _ ?_; with_reducible assumption) | (refine hDd _ ?_; with_reducible assumption) | (refine FW.fs ?_ (by omega) _; with_reducible assumption) | (refine WS.fs ?_; with_reducible assumption) | (refine FW.fs ?_ (by omega) _; assumption) | omega | assumption)); rintro e w1 ⟨rfl, ob, nb, rfl⟩)) | (go_at_call 130; ((with_reducible refine (H.Z _ ?_).mono ?_); (focus (first | (with_reducible assumption) | (with_reducible refine FS.ext ?_ _ _; with_reducible assumption) | (with_reducible refine IS.ext ?_ _ _; with_reducible assumption) | (refine hDu _ ?_; with_reducible assumption) | (refine hOu _ ?_; with_reducible assumption) | (refine hDa _ ?_; with_reducible assumption) | (refine hDb _ ?_; with_reducible assumption) | (refine hDc _ ?_; with_reducible assumption) | (refine hDd _ ?_; with_reducible assumption) | (refine FW.fs ?_ (by omega) _; with_reducible assumption) | (refine WS.fs ?_; with_reducible assumption) | (refine FW.fs ?_ (by omega) _; assumption) | omega | assumption)); rintro e w1 ⟨rfl, oc, nc, rfl⟩)) | (go_at_call 136; ((with_reducible refine (H.Mx _ ?_ ?_ (hPz.grew (by (show Grew _ _; repeat (first | (with_reducible exact Grew.refl _) | (with_reducible assumption) | (with_reducible exact Grew.same_o) | (with_reducible exact Grew.app_o) | (with_reducible refine Grew.ext ?_ _ _) | (with_reducible refine Grew.alloc ?_ _) | ((with_reducible refine Grew.setCell ?_ ?_ _); rotate_left; (focus (dsimp only; first | omega | (simp only [size_ext, World.size_alloc, Array.size_append]; omega)))) | (with_reducible refine Grew.drewN ?_ _) | (with_reducible refine Grew.drew ?_))))) (hPx.grew (by (show Grew _ _; repeat (first | (with_reducible exact Grew.refl _) | (with_reducible assumption) | (with_reducible exact Grew.same_o) | (with_reducible exact Grew.app_o) | (with_reducible refine Grew.ext ?_ _ _) | (with_reducible refine Grew.alloc ?_ _) | ((with_reducible refine Grew.setCell ?_ ?_ _); rotate_left; (focus (dsimp only; first | omega | (simp only [size_ext, World.size_alloc, Array.size_append]; omega)))) | (with_reducible refine Grew.drewN ?_ _) | (with_reducible refine Grew.drew ?_)))))).mono ?_); (focus (first | (with_reducible assumption) | (with_reducible refine FS.ext ?_ _ _; with_reducible assumption) | (with_reducible refine IS.ext ?_ _ _; with_reducible assumption) | (refine hDu _ ?_; with_reducible assumption) | (refine hOu _ ?_; with_reducible assumption) | (refine hDa _ ?_; with_reducible assumption) | (refine hDb _ ?_; with_reducible assumption) | (refine hDc _ ?_; with_reducible assumption) | (refine hDd _ ?_; with_reducible assumption) | (refine FW.fs ?_ (by omega) _; with_reducible assumption) | (refine WS.fs ?_; with_reducible assumption) | (refine FW.fs ?_ (by omega) _; assumption) | omega | assumption)); (focus (first | (with_reducible assumption) | (with_reducible refine FS.ext ?_ _ _; with_reducible assumption) | (with_reducible refine IS.ext ?_ _ _; with_reducible assumption) | (refine hDu _ ?_; with_reducible assumption) | (refine hOu _ ?_; with_reducible assumption) | (refine hDa _ ?_; with_reducible assumption) | (refine hDb _ ?_; with_reducible assumption) | (refine hDc _ ?_; with_reducible assumption) | (refine hDd _ ?_; with_reducible assumption) | (refine FW.fs ?_ (by omega) _; with_reducible assumption) | (refine WS.fs ?_; with_reducible assumption) | (refine FW.fs ?_ (by omega) _; assumption) | omega | assumption)); rintro e w1 ⟨rfl, oe, ne, rfl⟩)) | (go_at_call 136; ((with_reducible refine (H.My _ ?_ ?_ (hPz.grew (by (show Grew _ _; repeat (first | (with_reducible exact Grew.refl _) | (with_reducible assumption) | (with_reducible exact Grew.same_o) | (with_reducible exact Grew.app_o) | (with_reducible refine Grew.ext ?_ _ _) | (with_reducible refine Grew.alloc ?_ _) | ((with_reducible refine Grew.setCell ?_ ?_ _); rotate_left; (focus (dsimp only; first | omega | (simp only [size_ext, World.size_alloc, Array.size_append]; omega)))) | (with_reducible refine Grew.drewN ?_ _) | (with_reducible refine Grew.drew ?_))))) (hPy.grew (by (show Grew _ _; repeat (first | (with_reducible exact Grew.refl _) | (with_reducible assumption) | (with_reducible exact Grew.same_o) | (with_reducible exact Grew.app_o) | (with_reducible refine Grew.ext ?_ _ _) | (with_reducible refine Grew.alloc ?_ _) | ((with_reducible refine Grew.setCell ?_ ?_ _); rotate_left; (focus (dsimp only; first | omega | (simp only [size_ext, World.size_alloc, Array.size_append]; omega)))) | (with_reducible refine Grew.drewN ?_ _) | (with_reducible refine Grew.drew ?_)))))).mono ?_); (focus (first | (with_reducible assumption) | (with_reducible refine FS.ext ?_ _ _; with_reducible assumption) | (with_reducible refine IS.ext ?_ _ _; with_reducible assumption) | (refine hDu _ ?_; with_reducible assumption) | (refine hOu _ ?_; with_reducible assumption) | (refine hDa _ ?_; with_reducible assumption) | (refine hDb _ ?_; with_reducible assumption) | (refine hDc _ ?_; with_reducible assumption) | (refine hDd _ ?_; with_reducible assumption) | (refine FW.fs ?_ (by omega) _; with_reducible assumption) | (refine WS.fs ?_; with_reducible assumption) | (refine FW.fs ?_ (by omega) _; assumption) | omega | assumption)); (focus (first | (with_reducible assumption) | (with_reducible refine FS.ext ?_ _ _; with_reducible assumption) | (with_reducible refine IS.ext ?_ _ _; with_reducible assumption) | (refine hDu _ ?_; with_reducible assumption) | (refine hOu _ ?_; with_reducible assumption) | (refine hDa _ ?_; with_reducible assumption) | (refine hDb _ ?_; with_reducible assumption) | (refine hDc _ ?_; with_reducible assumption) | (refine hDd _ ?_; with_reducible assumption) | (refine FW.fs ?_ (by omega) _; with_reducible assumption) | (refine WS.fs ?_; with_reducible assumption) | (refine FW.fs ?_ (by omega) _; assumption) | omega | assumption)); rintro e w1 ⟨rfl, of, nf, rfl⟩)))
      go_ret
      exact ⟨rfl, by (show Grew _ _; repeat (first | (with_reducible exact Grew.refl _) | (with_reducible assumption) | (with_reducible exact Grew.same_o) | (with_reducible exact Grew.app_o) | (with_reducible refine Grew.ext ?_ _ _) | (with_reducible refine Grew.alloc ?_ _) | ((with_reducible refine Grew.setCell ?_ ?_ _); rotate_left; (focus (dsimp only; first | omega | (simp only [size_ext, World.size_alloc, Array.size_append]; omega)))) | (with_reducible refine Grew.drewN ?_ _) | (with_reducible refine Grew.drew ?_)))⟩
  · have d1 : (x.cols != y.rows) = true := by simpa using h1
    clear h h1
    go_enter Try.func148, Try.ntmps148
    refine seq_stop ?_
    go_wp2
    refine stop_go (fun W hW => ?_)
    have s1 : w.heap.size < W.heap.size := by rw [hW]; simp only [World.size_alloc]; omega
    have b1 : ∀ i, W.cell? ⟨w.heap.size, i, none⟩ = (#[.slice (some ⟨bx, 0, none⟩) x.ws.length cx, .int .i64 x.off, .int .i64 x.rows, .int .i64 x.cols, .int .i64 x.ld] : Array Value)[i]? := by intro i; rw [hW]; go_simp
    have s2 : w.heap.size + 1 < W.heap.size := by rw [hW]; simp only [World.size_alloc]; omega
    have b2 : ∀ i, W.cell? ⟨w.heap.size + 1, i, none⟩ = (#[.slice (some ⟨bz, 0, none⟩) y.ws.length cz, .int .i64 y.off, .int .i64 y.rows, .int .i64 y.cols, .int .i64 y.ld] : Array Value)[i]? := by intro i; rw [hW]; go_simp
    have s3 : w.heap.size + 1 + 1 < W.heap.size := by rw [hW]; simp only [World.size_alloc]; omega
    have b3 : ∀ i, W.cell? ⟨w.heap.size + 1 + 1, i, none⟩ = (#[.slice (some ⟨g, 0, none⟩) z.ws.length cg, .int .i64 z.off, .int .i64 z.rows, .int .i64 z.cols, .int .i64 z.ld] : Array Value)[i]? := by intro i; rw [hW]; go_simp
    have g0 : Grew w W := by rw [hW]; exact (((Grew.refl _).alloc _).alloc _).alloc _
    clear hW
    have hXW := hX.grew g0
    have hYW := hY.grew g0
    have hZW := hZ.grew g0
    go_wp2_with (first | (go_at_call 130; ((with_reducible refine (H.X _ ?_).mono ?_); (focus (first | (with_reducible assumption) | (with_reducible refine FS.ext ?_ _ _; with_reducible assumption) | (with_reducible refine IS.ext ?_ _ _; with_reducible assumption) | (refine hDu _ ?_; with_reducible assumption) | (refine hOu _ ?_; with_reducible assumption) | (refine hDa _ ?_; with_reducible assumption) | (refine hDb _ ?_; with_reducible assumption) | (refine hDc _ ?_; with_reducible assumption) | (refine hDd _ ?_; with_reducible assumption) | (refine FW.fs ?_ (by omega) _; with_reducible assumption) | (refine WS.fs ?_; with_reducible assumption) | (refine FW.fs ?_ (by omega) _; assumption) | omega | assumption)); rintro e w1 ⟨rfl, oa, na, rfl⟩)) | (go_at_call 130; ((with_reducible refine (H.Y _ ?_).mono ?_); (focus (first | (with_reducible assumption) | (with_reducible refine FS.ext ?_ _ _; with_reducible assumption) | (with_reducible refine IS.ext ?_ _ _; with_reducible assumption) | (refine hDu _ ?_; with_reducible assumption) | (refine hOu _ ?_; with_reducible assumption) | (refine hDa _ ?_; with_reducible assumption) | (refine hDb _ ?_; with_reducible assumption) | (refine hDc _ ?_; with_reducible assumption) | (refine hDd _ ?_; with_reducible assumption) | (refine FW.fs ?_ (by omega) _; with_reducible assumption) | (refine WS.fs ?_; with_reducible assumption) | (refine FW.fs ?_ (by omega) _; assumption) | omega | assumption)); rintro e w1 ⟨rfl, ob, nb, rfl⟩)) | (go_at_call 130; ((with_reducible refine (H.Z _ ?_).mono ?_); (focus (first | (with_reducible assumption) | (with_reducible refine FS.ext ?_ _ _; with_reducible assumption) | (with_reducible refine IS.ext ?_ _ _; with_reducible assumption) | (refine hDu _ ?_; with_reducible assumption) | (refine hOu _ ?_; with_reducible assumption) | (refine hDa _ ?_; with_reducible assumption) | (refine hDb _ ?_; with_reducible assumption) | (refine hDc _ ?_; with_reducible assumption) | (refine hDd _ ?_; with_reducible assumption) | (refine FW.fs ?_ (by omega) _; with_reducible assumption) | (refine WS.fs ?_; with_reducible assumption) | (refine FW.fs ?_ (by omega) _; assumption) | omega | assumption)); rintro e w1 ⟨rfl, oc, nc, rfl⟩)) | (go_at_call 136; ((with_reducible refine (H.Mx _ ?_ ?_ (hPz.grew (by (show Grew _ _; repeat (first | (with_reducible exact Grew.refl _) | (with_reducible assumption) | (with_reducible exact Grew.same_o) | (with_reducible exact Grew.app_o) | (with_reducible refine Grew.ext ?_ _ _) | (with_reducible refine Grew.alloc ?_ _) | ((with_reducible refine Grew.setCell ?_ ?_ _); rotate_left; (focus (dsimp only; first | omega | (simp only [size_ext, World.size_alloc, Array.size_append]; omega)))) | (with_reducible refine Grew.drewN ?_ _) | (with_reducible refine Grew.drew ?_))))) (hPx.grew (by (show Grew _ _; repeat (first | (with_reducible exact Grew.refl _) | (with_reducible assumption) | (with_reducible exact Grew.same_o) | (with_reducible exact Grew.app_o) | (with_reducible refine Grew.ext ?_ _ _) | (with_reducible refine Grew.alloc ?_ _) | ((with_reducible refine Grew.setCell ?_ ?_ _); rotate_left; (focus (dsimp only; first | omega | (simp only [size_ext, World.size_alloc, Array.size_append]; omega)))) | (with_reducible refine Grew.drewN ?_ _) | (with_reducible refine Grew.drew ?_)))))).mono ?_); (focus (first | (with_reducible assumption) | (with_reducible refine FS.ext ?_ _ _; with_reducible assumption) | (with_reducible refine IS.ext ?_ _ _; with_reducible assumption) | (refine hDu _ ?_; with_reducible assumption) | (refine hOu _ ?_; with_reducible assumption) | (refine hDa _ ?_; with_reducible assumption) | (refine hDb _ ?_; with_reducible assumption) | (refine hDc _ ?_; with_reducible assumption) | (refine hDd _ ?_; with_reducible assumption) | (refine FW.fs ?_ (by omega) _; with_reducible assumption) | (refine WS.fs ?_; with_reducible assumption) | (refine FW.fs ?_ (by omega) _; assumption) | omega | assumption)); (focus (first | (with_reducible assumption) | (with_reducible refine FS.ext ?_ _ _; with_reducible assumption) | (with_reducible refine IS.ext ?_ _ _; with_reducible assumption) | (refine hDu _ ?_; with_reducible assumption) | (refine hOu _ ?_; with_reducible assumption) | (refine hDa _ ?_; with_reducible assumption) | (refine hDb _ ?_; with_reducible assumption) | (refine hDc _ ?_; with_reducible assumption) | (refine hDd _ ?_; with_reducible assumption) | (refine FW.fs ?_ (by omega) _; with_reducible assumption) | (refine WS.fs ?_; with_reducible assumption) | (refine FW.fs ?_ (by omega) _; assumption) | omega | assumption)); rintro e w1 ⟨rfl, oe, ne, rfl⟩)) | (go_at_call 136; ((with_reducible refine (H.My _ ?_ ?_ (hPz.grew (by (show Grew _ _; repeat (first | (with_reducible exact Grew.refl _) | (with_reducible assumption) | (with_reducible exact Grew.same_o) | (with_reducible exact Grew.app_o) | (with_reducible refine Grew.ext ?_ _ _) | (with_reducible refine Grew.alloc ?_ _) | ((with_reducible refine Grew.setCell ?_ ?_ _); rotate_left; (focus (dsimp only; first | omega | (simp only [size_ext, World.size_alloc, Array.size_append]; omega)))) | (with_reducible refine Grew.drewN ?_ _) | (with_reducible refine Grew.drew ?_))))) (hPy.grew (by (show Grew _ _; repeat (first | (with_reducible exact Grew.refl _) | (with_reducible assumption) | (with_reducible exact Grew.same_o) | (with_reducible exact Grew.app_o) | (with_reducible refine Grew.ext ?_ _ _) | (with_reducible refine Grew.alloc ?_ _) | ((with_reducible refine Grew.setCell ?_ ?_ _); rotate_left; (focus (dsimp only; first | omega | (simp only [size_ext, World.size_alloc, Array.size_append]; omega)))) | (with_reducible refine Grew.drewN ?_ _) | (with_reducible refine Grew.drew ?_)))))).mono ?_); (focus (first | (with_reducible assumption) | (with_reducible refine FS.ext ?_ _ _; with_reducible assumption) | (with_reducible refine IS.ext ?_ _ _; with_reducible assumption) | (refine hDu _ ?_; with_reducible assumption) | (refine hOu _ ?_; with_reducible assumption) | (refine hDa _ ?_; with_reducible assumption) | (refine hDb _ ?_; with_reducible assumption) | (refine hDc _ ?_; with_reducible assumption) | (refine hDd _ ?_; with_reducible assumption) | (refine FW.fs ?_ (by omega) _; with_reducible assumption) | (refine WS.fs ?_; with_reducible assumption) | (refine FW.fs ?_ (by omega) _; assumption) | omega | assumption)); (focus (first | (with_reducible assumption) | (with_reducible refine FS.ext ?_ _ _; with_reducible assumption) | (with_reducible refine IS.ext ?_ _ _; with_reducible assumption) | (refine hDu _ ?_; with_reducible assumption) | (refine hOu _ ?_; with_reducible assumption) | (refine hDa _ ?_; with_reducible assumption) | (refine hDb _ ?_; with_reducible assumption) | (refine hDc _ ?_; with_reducible assumption) | (refine hDd _ ?_; with_reducible assumption) | (refine FW.fs ?_ (by omega) _; with_reducible assumption) | (refine WS.fs ?_; with_reducible assumption) | (refine FW.fs ?_ (by omega) _; assumption) | omega | assumption)); rintro e w1 ⟨rfl, of, nf, rfl⟩)))
    go_ret
    exact ⟨rfl, by (show Grew _ _; repeat (first | (with_reducible exact Grew.refl _) | (with_reducible assumption) | (with_reducible exact Grew.same_o) | (with_reducible exact Grew.app_o) | (with_reducible refine Grew.ext ?_ _ _) | (with_reducible refine Grew.alloc ?_ _) | ((with_reducible refine Grew.setCell ?_ ?_ _); rotate_left; (focus (dsimp only; first | omega | (simp only [size_ext, World.size_alloc, Array.size_append]; omega)))) | (with_reducible refine Grew.drewN ?_ _) | (with_reducible refine Grew.drew ?_)))⟩
set_option maxRecDepth 100000 in
set_option maxHeartbeats 4000000 in
theorem gcheck_5 (x y z : MatM) (bx cx bz cz g cg : Nat) (w : World) (hX : FS w (.slice (some ⟨bx, 0, none⟩) x.ws.length cx) x.ws) (hY : FS w (.slice (some ⟨bz, 0, none⟩) y.ws.length cz) y.ws) (hZ : FS w (.slice (some ⟨g, 0, none⟩) z.ws.length cg) z.ws) (hPx : Plain w bx) (hPy : Plain w bz) (hPz : Plain w g) (mx my : Bool) (H : GemmC x y z bx cx bz cz g cg true true true mx my) (h1 : x.cols = y.rows) (h2 : z.rows = x.rows) (h3 : z.cols = y.cols) (h : (mx || my) = true) : Calls Try.prog 148 #[.agg #[.slice (some ⟨bx, 0, none⟩) x.ws.length cx, .int .i64 x.off, .int .i64 x.rows, .int .i64 x.cols, .int .i64 x.ld], .agg #[.slice (some ⟨bz, 0, none⟩) y.ws.length cz, .int .i64 y.off, .int .i64 y.rows, .int .i64 y.cols, .int .i64 y.ld], .agg #[.slice (some ⟨g, 0, none⟩) z.ws.length cg, .int .i64 z.off, .int .i64 z.rows, .int .i64 z.cols, .int .i64 z.ld]] w (fun e w' => e = .returned (.int .i64 2) ∧ ∃ o n, w' = ext w o n) := by
  have d1 : (x.cols != y.rows) = false := by simpa using h1
  have d2 : (z.rows != x.rows) = false := by simpa using h2
  have d3 : (z.cols != y.cols) = false := by simpa using h3
  clear h1 h2 h3
  cases mx
  · cases my
    · cases h
    · clear h
      go_enter Try.func148, Try.ntmps148
      refine seq_stop ?_
      go_wp2
      refine stop_go (fun W hW => ?_)
      have s1 : w.heap.size < W.heap.size := by rw [hW]; simp only [World.size_alloc]; omega
      have b1 : ∀ i, W.cell? ⟨w.heap.size, i, none⟩ = (#[.slice (some ⟨bx, 0, none⟩) x.ws.length cx, .int .i64 x.off, .int .i64 x.rows, .int .i64 x.cols, .int .i64 x.ld] : Array Value)[i]? := by intro i; rw [hW]; go_simp
      have s2 : w.heap.size + 1 < W.heap.size := by rw [hW]; simp only [World.size_alloc]; omega
      have b2 : ∀ i, W.cell? ⟨w.heap.size + 1, i, none⟩ = (#[.slice (some ⟨bz, 0, none⟩) y.ws.length cz, .int .i64 y.off, .int .i64 y.rows, .int .i64 y.cols, .int .i64 y.ld] : Array Value)[i]? := by intro i; rw [hW]; go_simp
      have s3 : w.heap.size + 1 + 1 < W.heap.size := by rw [hW]; simp only [World.size_alloc]; omega
      have b3 : ∀ i, W.cell? ⟨w.heap.size + 1 + 1, i, none⟩ = (#[.slice (some ⟨g, 0, none⟩) z.ws.length cg, .int .i64 z.off, .int .i64 z.rows, .int .i64 z.cols, .int .i64 z.ld] : Array Value)[i]? := by intro i; rw [hW]; go_simp
      have g0 : Grew w W := by rw [hW]; exact (((Grew.refl _).alloc _).alloc _).alloc _
      clear hW
      have hXW := hX.grew g0
      have hYW := hY.grew g0
      have hZW := hZ.grew g0
      go_wp2_with (first | (go_at_call 130; ((with_reducible refine (H.X _ ?_).mono ?_); (focus (first | (with_reducible assumption) | (with_reducible refine FS.ext ?_ _ _; with_reducible assumption) | (with_reducible refine IS.ext ?_ _ _; with_reducible assumption) | (refine hDu _ ?_; with_reducible assumption) | (refine hOu _ ?_; with_reducible assumption) | (refine hDa _ ?_; with_reducible assumption) | (refine hDb _ ?_; with_reducible assumption) | (refine hDc _ ?_; with_reducible assumption) | (refine hDd _ ?_; with_reducible assumption) | (refine FW.fs ?_ (by omega) _; with_reducible assumption) | (refine WS.fs ?_; with_reducible assumption) | (refine FW.fs ?_ (by omega) _; assumption) | omega | assumption)); rintro e w1 ⟨rfl, oa, na, rfl⟩)) | (go_at_call 130; ((with_reducible refine (H.Y _ ?_).mono ?_); (focus (first | (with_reducible assumption) | (with_reducible refine FS.ext ?_ _ _; with_reducible assumption) | (with_reducible refine IS.ext ?_ _ _; with_reducible assumption) | (refine hDu _ ?_; with_reducible assumption) | (refine hOu _ ?_; with_reducible assumption) | (refine hDa _ ?_; with_reducible assumption) | (refine hDb _ ?_; with_reducible assumption) | (refine hDc _ ?_; with_reducible assumption) | (refine hDd _ ?_; with_reducible assumption) | (refine FW.fs ?_ (by omega) _; with_reducible assumption) | (refine WS.fs ?_; with_reducible assumption) | (refine FW.fs ?_ (by omega) _; assumption) | omega | assumption)); rintro e w1 ⟨rfl, ob, nb, rfl⟩)) | (go_at_call 130; ((with_reducible refine (H.Z _ ?_).mono ?_); (focus (first | (with_reducible assumption) | (with_reducible refine FS.ext ?_ _ _; with_reducible assumption) | (with_reducible refine IS.ext ?_ _ _; with_reducible assumption) | (refine hDu _ ?_; with_reducible assumption) | (refine hOu _ ?_; with_reducible assumption) | (refine hDa _ ?_; with_reducible assumption) | (refine hDb _ ?_; with_reducible assumption) | (refine hDc _ ?_; with_reducible assumption) | (refine hDd _ ?_; with_reducible assumption) | (refine FW.fs ?_ (by omega) _; with_reducible assumption) | (refine WS.fs ?_; with_reducible assumption) | (refine FW.fs ?_ (by omega) _; assumption) | omega | assumption)); rintro e w1 ⟨rfl, oc, nc, rfl⟩)) | (go_at_call 136; ((with_reducible refine (H.Mx _ ?_ ?_ (hPz.grew (by (show Grew _ _; repeat (first | (with_reducible exact Grew.refl _) | (with_reducible assumption) | (with_reducible exact Grew.same_o) | (with_reducible exact Grew.app_o) | (with_reducible refine Grew.ext ?_ _ _) | (with_reducible refine Grew.alloc ?_ _) | ((with_reducible refine Grew.setCell ?_ ?_ _); rotate_left; (focus (dsimp only; first | omega | (simp only [size_ext, World.size_alloc, Array.size_append]; omega)))) | (with_reducible refine Grew.drewN ?_ _) | (with_reducible refine Grew.drew ?_))))) (hPx.grew (by (show Grew _ _; repeat (first | (with_reducible exact Grew.refl _) | (with_reducible assumption) | (with_reducible exact Grew.same_o) | (with_reducible exact Grew.app_o) | (with_reducible refine Grew.ext ?_ _ _) | (with_reducible refine Grew.alloc ?_ _) | ((with_reducible refine Grew.setCell ?_ ?_ _); rotate_left; (focus (dsimp only; first | omega | (simp only [size_ext, World.size_alloc, Array.size_append]; omega)))) | (with_reducible refine Grew.drewN ?_ _) | (with_reducible refine Grew.drew ?_)))))).mono ?_); (focus (first | (with_reducible assumption) | (with_reducible refine FS.ext ?_ _ _; with_reducible assumption) | (with_reducible refine IS.ext ?_ _ _; with_reducible assumption) | (refine hDu _ ?_; with_reducible assumption) | (refine hOu _ ?_; with_reducible assumption) | (refine hDa _ ?_; with_reducible assumption) | (refine hDb _ ?_; with_reducible assumption) | (refine hDc _ ?_; with_reducible assumption) | (refine hDd _ ?_; with_reducible assumption) | (refine FW.fs ?_ (by omega) _; with_reducible assumption) | (refine WS.fs ?_; with_reducible assumption) | (refine FW.fs ?_ (by omega) _; assumption) | omega | assumption)); (focus (first | (with_reducible assumption) | (with_reducible refine FS.ext ?_ _ _; with_reducible assumption) | (with_reducible refine IS.ext ?_ _ _; with_reducible assumption) | (refine hDu _ ?_; with_reducible assumption) | (refine hOu _ ?_; with_reducible assumption) | (refine hDa _ ?_; with_reducible assumption) | (refine hDb _ ?_; with_reducible assumption) | (refine hDc _ ?_; with_reducible assumption) | (refine hDd _ ?_; with_reducible assumption) | (refine FW.fs ?_ (by omega) _; with_reducible assumption) | (refine WS.fs ?_; with_reducible assumption) | (refine FW.fs ?_ (by omega) _; assumption) | omega | assumption)); rintro e w1 ⟨rfl, oe, ne, rfl⟩)) | (go_at_call 136; ((with_reducible refine (H.My _ ?_ ?_ (hPz.grew (by (show Grew _ _; repeat (first | (with_reducible exact Grew.refl _) | (with_reducible assumption) | (with_reducible exact Grew.same_o) | (with_reducible exact Grew.app_o) | (with_reducible refine Grew.ext ?_ _ _) | (with_reducible refine Grew.alloc ?_ _) | ((with_reducible refine Grew.setCell ?_ ?_ _); rotate_left; (focus (dsimp only; first | omega | (simp only [size_ext, World.size_alloc, Array.size_append]; omega)))) | (with_reducible refine Grew.drewN ?_ _) | (with_reducible refine Grew.drew ?_))))) (hPy.grew (by (show Grew _ _; repeat (first | (with_reducible exact Grew.refl _) | (with_reducible assumption) | (with_reducible exact Grew.same_o) | (with_reducible exact Grew.app_o) | (with_reducible refine Grew.ext ?_ _ _) | (with_reducible refine Grew.alloc ?_ _) | ((with_reducible refine Grew.setCell ?_ ?_ _); rotate_left; (focus (dsimp only; first | omega | (simp only [size_ext, World.size_alloc, Array.size_append]; omega)))) | (with_reducible refine Grew.drewN ?_ _) | (with_reducible refine Grew.drew ?_)))))).mono ?_); (focus (first | (with_reducible assumption) | (with_reducible refine FS.ext ?_ _ _; with_reducible assumption) | (with_reducible refine IS.ext ?_ _ _; with_reducible assumption) | (refine hDu _ ?_; with_reducible assumption) | (refine hOu _ ?_; with_reducible assumption) | (refine hDa _ ?_; with_reducible assumption) | (refine hDb _ ?_; with_reducible assumption) | (refine hDc _ ?_; with_reducible assumption) | (refine hDd _ ?_; with_reducible assumption) | (refine FW.fs ?_ (by omega) _; with_reducible assumption) | (refine WS.fs ?_; with_reducible assumption) | (refine FW.fs ?_ (by omega) _; assumption) | omega | assumption)); (focus (first | (with_reducible assumption) | (with_reducible refine FS.ext ?_ _ _; with_reducible assumption) | (with_reducible refine IS.ext ?_ _ _; with_reducible assumption) | (refine hDu _ ?_; with_reducible assumption) | (refine hOu _ ?_; with_reducible assumption) | (refine hDa _ ?_; with_reducible assumption) | (refine hDb _ ?_; with_reducible assumption) | (refine hDc _ ?_; with_reducible assumption) | (refine hDd _ ?_; with_reducible assumption) | (refine FW.fs ?_ (by omega) _; with_reducible assumption) | (refine WS.fs ?_; with_reducible assumption) | (refine FW.fs ?_ (by omega) _; assumption) | omega | assumption)); rintro e w1 ⟨rfl, of, nf, rfl⟩)))
      go_ret
      exact ⟨rfl, by (show Grew _ _; repeat (first | (with_reducible exact Grew.refl _) | (with_reducible assumption) | (with_reducible exact Grew.same_o) | (with_reducible exact Grew.app_o) | (with_reducible refine Grew.ext ?_ _ _) | (with_reducible refine Grew.alloc ?_ _) | ((with_reducible refine Grew.setCell ?_ ?_ _); rotate_left; (focus (dsimp only; first | omega | (simp only [size_ext, World.size_alloc, Array.size_append]; omega)))) | (with_reducible refine Grew.drewN ?_ _) | (with_reducible refine Grew.drew ?_)))⟩
  · clear h
    go_enter Try.func148, Try.ntmps148
    refine seq_stop ?_
    go_wp2
    refine stop_go (fun W hW => ?_)
    have s1 : w.heap.size < W.heap.size := by rw [hW]; simp only [World.size_alloc]; omega
    have b1 : ∀ i, W.cell? ⟨w.heap.size, i, none⟩ = (#[.slice (some ⟨bx, 0, none⟩) x.ws.length cx, .int .i64 x.off, .int .i64 x.rows, .int .i64 x.cols, .int .i64 x.ld] : Array Value)[i]? := by intro i; rw [hW]; go_simp
    have s2 : w.heap.size + 1 < W.heap.size := by rw [hW]; simp only [World.size_alloc]; omega
    have b2 : ∀ i, W.cell? ⟨w.heap.size + 1, i, none⟩ = (#[.slice (some ⟨bz, 0, none⟩) y.ws.length cz, .int .i64 y.off, .int .i64 y.rows, .int .i64 y.cols, .int .i64 y.ld] : Array Value)[i]? := by intro i; rw [hW]; go_simp
    have s3 : w.heap.size + 1 + 1 < W.heap.size := by rw [hW]; simp only [World.size_alloc]; omega
    have b3 : ∀ i, W.cell? ⟨w.heap.size + 1 + 1, i, none⟩ = (#[.slice (some ⟨g, 0, none⟩) z.ws.length cg, .int .i64 z.off, .int .i64 z.rows, .int .i64 z.cols, .int .i64 z.ld] : Array Value)[i]? := by intro i; rw [hW]; go_simp
    have g0 : Grew w W := by rw [hW]; exact (((Grew.refl _).alloc _).alloc _).alloc _
    clear hW
    have hXW := hX.grew g0
    have hYW := hY.grew g0
    have hZW := hZ.grew g0
    go_wp2_with (first | (go_at_call 130; ((with_reducible refine (H.X _ ?_).mono ?_); (focus (first | (with_reducible assumption) | (with_reducible refine FS.ext ?_ _ _; with_reducible assumption) | (with_reducible refine IS.ext ?_ _ _; with_reducible assumption) | (refine hDu _ ?_; with_reducible assumption) | (refine hOu _ ?_; with_reducible assumption) | (refine hDa _ ?_; with_reducible assumption) | (refine hDb _ ?_; with_reducible assumption) | (refine hDc _ ?_; with_reducible assumption) | (refine hDd _ ?_; with_reducible assumption) | (refine FW.fs ?_ (by omega) _; with_reducible assumption) | (refine WS.fs ?_; with_reducible assumption) | (refine FW.fs ?_ (by omega) _; assumption) | omega | assumption)); rintro e w1 ⟨rfl, oa, na, rfl⟩)) | (go_at_call 130; ((with_reducible refine (H.Y _ ?_).mono ?_); (focus (first | (with_reducible assumption) | (with_reducible refine FS.ext ?_ _ _; with_reducible assumption) | (with_reducible refine IS.ext ?_ _ _; with_reducible assumption) | (refine hDu _ ?_; with_reducible assumption) | (refine hOu _ ?_; with_reducible assumption) | (refine hDa _ ?_; with_reducible assumption) | (refine hDb _ ?_; with_reducible assumption) | (refine hDc _ ?_; with_reducible assumption) | (refine hDd _ ?_; with_reducible assumption) | (refine FW.fs ?_ (by omega) _; with_reducible assumption) | (refine WS.fs ?_; with_reducible assumption) | (refine FW.fs ?_ (by omega) _; assumption) | omega | assumption)); rintro e w1 ⟨rfl, ob, nb, rfl⟩)) | (go_at_call 130; ((with_reducible refine (H.Z _ ?_).mono ?_); (focus (first | (with_reducible assumption) | (with_reducible refine FS.ext ?_ _ _; with_reducible assumption) | (with_reducible refine IS.ext ?_ _ _; with_reducible assumption) | (refine hDu _ ?_; with_reducible assumption) | (refine hOu _ ?_; with_reducible assumption) | (refine hDa _ ?_; with_reducible assumption) | (refine hDb _ ?_; with_reducible assumption) | (refine hDc _ ?_; with_reducible assumption) | (refine hDd _ ?_; with_reducible assumption) | (refine FW.fs ?_ (by omega) _; with_reducible assumption) | (refine WS.fs ?_; with_reducible assumption) | (refine FW.fs ?_ (by omega) _; assumption) | omega | assumption)); rintro e w1 ⟨rfl, oc, nc, rfl⟩)) | (go_at_call 136; ((with_reducible refine (H.Mx _ ?_ ?_ (hPz.grew (by (show Grew _ _; repeat (first | (with_reducible exact Grew.refl _) | (with_reducible assumption) | (with_reducible exact Grew.same_o) | (with_reducible exact Grew.app_o) | (with_reducible refine Grew.ext ?_ _ _) | (with_reducible refine Grew.alloc ?_ _) | ((with_reducible refine Grew.setCell ?_ ?_ _); rotate_left; (focus (dsimp only; first | omega | (simp only [size_ext, World.size_alloc, Array.size_append]; omega)))) | (with_reducible refine Grew.drewN ?_ _) | (with_reducible refine Grew.drew ?_))))) (hPx.grew (by (show Grew _ _; repeat (first | (with_reducible exact Grew.refl _) | (with_reducible assumption) | (with_reducible exact Grew.same_o) | (with_reducible exact Grew.app_o) | (with_reducible refine Grew.ext ?_ _ _) | (with_reducible refine Grew.alloc ?_ _) | ((with_reducible refine Grew.setCell ?_ ?_ _); rotate_left; (focus (dsimp only; first | omega | (simp only [size_ext, World.size_alloc, Array.size_append]; omega)))) | (with_reducible refine Grew.drewN ?_ _) | (with_reducible refine Grew.drew ?_)))))).mono ?_); (focus (first | (with_reducible assumption) | (with_reducible refine FS.ext ?_ _ _; with_reducible assumption) | (with_reducible refine IS.ext ?_ _ _; with_reducible assumption) | (refine hDu _ ?_; with_reducible assumption) | (refine hOu _ ?_; with_reducible assumption) | (refine hDa _ ?_; with_reducible assumption) | (refine hDb _ ?_; with_reducible assumption) | (refine hDc _ ?_; with_reducible assumption) | (refine hDd _ ?_; with_reducible assumption) | (refine FW.fs ?_ (by omega) _; with_reducible assumption) | (refine WS.fs ?_; with_reducible assumption) | (refine FW.fs ?_ (by omega) _; assumption) | omega | assumption)); (focus (first | (with_reducible assumption) | (with_reducible refine FS.ext ?_ _ _; with_reducible assumption) | (with_reducible refine IS.ext ?_ _ _; with_reducible assumption) | (refine hDu _ ?_; with_reducible assumption) | (refine hOu _ ?_; with_reducible assumption) | (refine hDa _ ?_; with_reducible assumption) | (refine hDb _ ?_; with_reducible assumption) | (refine hDc _ ?_; with_reducible assumption) | (refine hDd _ ?_; with_reducible assumption) | (refine FW.fs ?_ (by omega) _; with_reducible assumption) | (refine WS.fs ?_; with_reducible assumption) | (refine FW.fs ?_ (by omega) _; assumption) | omega | assumption)); rintro e w1 ⟨rfl, oe, ne, rfl⟩)) | (go_at_call 136; ((with_reducible refine (H.My _ ?_ ?_ (hPz.grew (by (show Grew _ _; repeat (first | (with_reducible exact Grew.refl _) | (with_reducible assumption) | (with_reducible exact Grew.same_o) | (with_reducible exact Grew.app_o) | (with_reducible refine Grew.ext ?_ _ _) | (with_reducible refine Grew.alloc ?_ _) | ((with_reducible refine Grew.setCell ?_ ?_ _); rotate_left; (focus (dsimp only; first | omega | (simp only [size_ext, World.size_alloc, Array.size_append]; omega)))) | (with_reducible refine Grew.drewN ?_ _) | (with_reducible refine Grew.drew ?_))))) (hPy.grew (by (show Grew _ _; repeat (first | (with_reducible exact Grew.refl _) | (with_reducible assumption) | (with_reducible exact Grew.same_o) | (with_reducible exact Grew.app_o) | (with_reducible refine Grew.ext ?_ _ _) | (with_reducible refine Grew.alloc ?_ _) | ((with_reducible refine Grew.setCell ?_ ?_ _); rotate_left; (focus (dsimp only; first | omega | (simp only [size_ext, World.size_alloc, Array.size_append]; omega)))) | (with_reducible refine Grew.drewN ?_ _) | (with_reducible refine Grew.drew ?_)))))).mono ?_); (focus (first | (with_reducible assumption) | (with_reducible refine FS.ext ?_ _ _; with_reducible assumption) | (with_reducible refine IS.ext ?_ _ _; with_reducible assumption) | (refine hDu _ ?_; with_reducible assumption) | (refine hOu _ ?_; with_reducible assumption) | (refine hDa _ ?_; with_reducible assumption) | (refine hDb _ ?_; with_reducible assumption) | (refine hDc _ ?_; with_reducible assumption) | (refine hDd _ ?_; with_reducible assumption) | (refine FW.fs ?_ (by omega) _; with_reducible assumption) | (refine WS.fs ?_; with_reducible assumption) | (refine FW.fs ?_ (by omega) _; assumption) | omega | assumption)); (focus (first | (with_reducible assumption) | (with_reducible refine FS.ext ?_ _ _; with_reducible assumption) | (with_reducible refine IS.ext ?_ _ _; with_reducible assumption) | (refine hDu _ ?_; with_reducible assumption) | (refine hOu _ ?_; with_reducible assumption) | (refine hDa _ ?_; with_reducible assumption) | (refine hDb _ ?_; with_reducible assumption) | (refine hDc _ ?_; with_reducible assumption) | (refine hDd _ ?_; with_reducible assumption) | (refine FW.fs ?_ (by omega) _; with_reducible assumption) | (refine WS.fs ?_; with_reducible assumption) | (refine FW.fs ?_ (by omega) _; assumption) | omega | assumption)); rintro e w1 ⟨rfl, of, nf, rfl⟩)))
    go_ret
    exact ⟨rfl, by (show Grew _ _; repeat (first | (with_reducible exact Grew.refl _) | (with_reducible assumption) | (with_reducible exact Grew.same_o) | (with_reducible exact Grew.app_o) | (with_reducible refine Grew.ext ?_ _ _) | (with_reducible refine Grew.alloc ?_ _) | ((with_reducible refine Grew.setCell ?_ ?_ _); rotate_left; (focus (dsimp only; first | omega | (simp only [size_ext, World.size_alloc, Array.size_append]; omega)))) | (with_reducible refine Grew.drewN ?_ _) | (with_reducible refine Grew.drew ?_)))⟩
set_option maxRecDepth 100000 in
set_option maxHeartbeats 4000000 in
theorem gcheck_6 (x y z : MatM) (bx cx bz cz g cg : Nat) (w : World) (hX : FS w (.slice (some ⟨bx, 0, none⟩) x.ws.length cx) x.ws) (hY : FS w (.slice (some ⟨bz, 0, none⟩) y.ws.length cz) y.ws) (hZ : FS w (.slice (some ⟨g, 0, none⟩) z.ws.length cg) z.ws) (hPx : Plain w bx) (hPy : Plain w bz) (hPz : Plain w g) (H : GemmC x y z bx cx bz cz g cg true true true false false) (h1 : x.cols = y.rows) (h2 : z.rows = x.rows) (h3 : z.cols = y.cols) : Calls Try.prog 148 #[.agg #[.slice (some ⟨bx, 0, none⟩) x.ws.length cx, .int .i64 x.off, .int .i64 x.rows, .int .i64 x.cols, .int .i64 x.ld], .agg #[.slice (some ⟨bz, 0, none⟩) y.ws.length cz, .int .i64 y.off, .int .i64 y.rows, .int .i64 y.cols, .int .i64 y.ld], .agg #[.slice (some ⟨g, 0, none⟩) z.ws.length cg, .int .i64 z.off, .int .i64 z.rows, .int .i64 z.cols, .int .i64 z.ld]] w (fun e w' => e = .returned (.int .i64 0) ∧ ∃ o n, w' = ext w o n) := by
  have d1 : (x.cols != y.rows) = false := by simpa using h1
  have d2 : (z.rows != x.rows) = false := by simpa using h2
  have d3 : (z.cols != y.cols) = false := by simpa using h3
  clear h1 h2 h3
  go_enter Try.func148, Try.ntmps148
  refine seq_stop ?_
  go_wp2
  refine stop_go (fun W hW => ?_)
  have s1 : w.heap.size < W.heap.size := by rw [hW]; simp only [World.size_alloc]; omega
  have b1 : ∀ i, W.cell? ⟨w.heap.size, i, none⟩ = (#[.slice (some ⟨bx, 0, none⟩) x.ws.length cx, .int .i64 x.off, .int .i64 x.rows, .int .i64 x.cols, .int .i64 x.ld] : Array Value)[i]? := by intro i; rw [hW]; go_simp
  have s2 : w.heap.size + 1 < W.heap.size := by rw [hW]; simp only [World.size_alloc]; omega
  have b2 : ∀ i, W.cell? ⟨w.heap.size + 1, i, none⟩ = (#[.slice (some ⟨bz, 0, none⟩) y.ws.length cz, .int .i64 y.off, .int .i64 y.rows, .int .i64 y.cols, .int .i64 y.ld] : Array Value)[i]? := by intro i; rw [hW]; go_simp
  have s3 : w.heap.size + 1 + 1 < W.heap.size := by rw [hW]; simp only [World.size_alloc]; omega
  have b3 : ∀ i, W.cell? ⟨w.heap.size + 1 + 1, i, none⟩ = (#[.slice (some ⟨g, 0, none⟩) z.ws.length cg, .int .i64 z.off, .int .i64 z.rows, .int .i64 z.cols, .int .i64 z.ld] : Array Value)[i]? := by intro i; rw [hW]; go_simp
  have g0 : Grew w W := by rw [hW]; exact (((Grew.refl _).alloc _).alloc _).alloc _
  clear hW
  have hXW := hX.grew g0
  have hYW := hY.grew g0
  have hZW := hZ.grew g0
  go_wp2_with (first | (go_at_call 130; ((with_reducible refine (H.X _ ?_).mono ?_); (focus (first | (with_reducible assumption) | (with_reducible refine FS.ext ?_ _ _; with_reducible assumption) | (with_reducible refine IS.ext ?_ _ _; with_reducible assumption) | (refine hDu _ ?_; with_reducible assumption) | (refine hOu _ ?_; with_reducible assumption) | (refine hDa _ ?_; with_reducible assumption) | (refine hDb _ ?_; with_reducible assumption) | (refine hDc _ ?_; with_reducible assumption) | (refine hDd _ ?_; with_reducible assumption) | (refine FW.fs ?_ (by omega) _; with_reducible assumption) | (refine WS.fs ?_; with_reducible assumption) | (refine FW.fs ?_ (by omega) _; assumption) | omega | assumption)); rintro e w1 ⟨rfl, oa, na, rfl⟩)) | (go_at_call 130; ((with_reducible refine (H.Y _ ?_).mono ?_); (focus (first | (with_reducible assumption) | (with_reducible refine FS.ext ?_ _ _; with_reducible assumption) | (with_reducible refine IS.ext ?_ _ _; with_reducible assumption) | (refine hDu _ ?_; with_reducible assumption) | (refine hOu _ ?_; with_reducible assumption) | (refine hDa _ ?_; with_reducible assumption) | (refine hDb _ ?_; with_reducible assumption) | (refine hDc _ ?_; with_reducible assumption) | (refine hDd _ ?_; with_reducible assumption) | (refine FW.fs ?_ (by omega) _; with_reducible assumption) | (refine WS.fs ?_; with_reducible assumption) | (refine FW.fs ?_ (by omega) _; assumption) | omega | assumption)); rintro e w1 ⟨rfl, ob, nb, rfl⟩)) | (go_at_call 130; ((with_reducible refine (H.Z _ ?_).mono ?_); (focus (first | (with_reducible assumption) | (with_reducible refine FS.ext ?_ _ _; with_reducible assumption) | (with_reducible refine IS.ext ?_ _ _; with_reducible assumption) | (refine hDu _ ?_; with_reducible assumption) | (refine hOu _ ?_; with_reducible assumption) | (refine hDa _ ?_; with_reducible assumption) | (refine hDb _ ?_; with_reducible assumption) | (refine hDc _ ?_; with_reducible assumption) | (refine hDd _ ?_; with_reducible assumption) | (refine FW.fs ?_ (by omega) _; with_reducible assumption) | (refine WS.fs ?_; with_reducible assumption) | (refine FW.fs ?_ (by omega) _; assumption) | omega | assumption)); rintro e w1 ⟨rfl, oc, nc, rfl⟩)) | (go_at_call 136; ((with_reducible refine (H.Mx _ ?_ ?_ (hPz.grew (by (show Grew _ _; repeat (first | (with_reducible exact Grew.refl _) | (with_reducible assumption) | (with_reducible exact Grew.same_o) | (with_reducible exact Grew.app_o) | (with_reducible refine Grew.ext ?_ _ _) | (with_reducible refine Grew.alloc ?_ _) | ((with_reducible refine Grew.setCell ?_ ?_ _); rotate_left; (focus (dsimp only; first | omega | (simp only [size_ext, World.size_alloc, Array.size_append]; omega)))) | (with_reducible refine Grew.drewN ?_ _) | (with_reducible refine Grew.drew ?_))))) (hPx.grew (by (show Grew _ _; repeat (first | (with_reducible exact Grew.refl _) | (with_reducible assumption) | (with_reducible exact Grew.same_o) | (with_reducible exact Grew.app_o) | (with_reducible refine Grew.ext ?_ _ _) | (with_reducible refine Grew.alloc ?_ _) | ((with_reducible refine Grew.setCell ?_ ?_ _); rotate_left; (focus (dsimp only; first | omega | (simp only [size_ext, World.size_alloc, Array.size_append]; omega)))) | (with_reducible refine Grew.drewN ?_ _) | (with_reducible refine Grew.drew ?_)))))).mono ?_); (focus (first | (with_reducible assumption) | (with_reducible refine FS.ext ?_ _ _; with_reducible assumption) | (with_reducible refine IS.ext ?_ _ _; with_reducible assumption) | (refine hDu _ ?_; with_reducible assumption) | (refine hOu _ ?_; with_reducible assumption) | (refine hDa _ ?_; with_reducible assumption) | (refine hDb _ ?_; with_reducible assumption) | (refine hDc _ ?_; with_reducible assumption) | (refine hDd _ ?_; with_reducible assumption) | (refine FW.fs ?_ (by omega) _; with_reducible assumption) | (refine WS.fs ?_; with_reducible assumption) | (refine FW.fs ?_ (by omega) _; assumption) | omega | assumption)); (focus (first | (with_reducible assumption) | (with_reducible refine FS.ext ?_ _ _; with_reducible assumption) | (with_reducible refine IS.ext ?_ _ _; with_reducible assumption) | (refine hDu _ ?_; with_reducible assumption) | (refine hOu _ ?_; with_reducible assumption) | (refine hDa _ ?_; with_reducible assumption) | (refine hDb _ ?_; with_reducible assumption) | (refine hDc _ ?_; with_reducible assumption) | (refine hDd _ ?_; with_reducible assumption) | (refine FW.fs ?_ (by omega) _; with_reducible assumption) | (refine WS.fs ?_; with_reducible assumption) | (refine FW.fs ?_ (by omega) _; assumption) | omega | assumption)); rintro e w1 ⟨rfl, oe, ne, rfl⟩)) | (go_at_call 136; ((with_reducible refine (H.My _ ?_ ?_ (hPz.grew (by (show Grew _ _; repeat (first | (with_reducible exact Grew.refl _) | (with_reducible assumption) | (with_reducible exact Grew.same_o) | (with_reducible exact Grew.app_o) | (with_reducible refine Grew.ext ?_ _ _) | (with_reducible refine Grew.alloc ?_ _) | ((with_reducible refine Grew.setCell ?_ ?_ _); rotate_left; (focus (dsimp only; first | omega | (simp only [size_ext, World.size_alloc, Array.size_append]; omega)))) | (with_reducible refine Grew.drewN ?_ _) | (with_reducible refine Grew.drew ?_))))) (hPy.grew (by (show Grew _ _; repeat (first | (with_reducible exact Grew.refl _) | (with_reducible assumption) | (with_reducible exact Grew.same_o) | (with_reducible exact Grew.app_o) | (with_reducible refine Grew.ext ?_ _ _) | (with_reducible refine Grew.alloc ?_ _) | ((with_reducible refine Grew.setCell ?_ ?_ _); rotate_left; (focus (dsimp only; first | omega | (simp only [size_ext, World.size_alloc, Array.size_append]; omega)))) | (with_reducible refine Grew.drewN ?_ _) | (with_reducible refine Grew.drew ?_)))))).mono ?_); (focus (first | (with_reducible assumption) | (with_reducible refine FS.ext ?_ _ _; with_reducible assumption) | (with_reducible refine IS.ext ?_ _ _; with_reducible assumption) | (refine hDu _ ?_; with_reducible assumption) | (refine hOu _ ?_; with_reducible assumption) | (refine hDa _ ?_; with_reducible assumption) | (refine hDb _ ?_; with_reducible assumption) | (refine hDc _ ?_; with_reducible assumption) | (refine hDd _ ?_; with_reducible assumption) | (refine FW.fs ?_ (by omega) _; with_reducible assumption) | (refine WS.fs ?_; with_reducible assumption) | (refine FW.fs ?_ (by omega) _; assumption) | omega | assumption)); (focus (first | (with_reducible assumption) | (with_reducible refine FS.ext ?_ _ _; with_reducible assumption) | (with_reducible refine IS.ext ?_ _ _; with_reducible assumption) | (refine hDu _ ?_; with_reducible assumption) | (refine hOu _ ?_; with_reducible assumption) | (refine hDa _ ?_; with_reducible assumption) | (refine hDb _ ?_; with_reducible assumption) | (refine hDc _ ?_; with_reducible assumption) | (refine hDd _ ?_; with_reducible assumption) | (refine FW.fs ?_ (by omega) _; with_reducible assumption) | (refine WS.fs ?_; with_reducible assumption) | (refine FW.fs ?_ (by omega) _; assumption) | omega | assumption)); rintro e w1 ⟨rfl, of, nf, rfl⟩)))
  go_ret
  exact ⟨rfl, by (show Grew _ _; repeat (first | (with_reducible exact Grew.refl _) | (with_reducible assumption) | (with_reducible exact Grew.same_o) | (with_reducible exact Grew.app_o) | (with_reducible refine Grew.ext ?_ _ _) | (with_reducible refine Grew.alloc ?_ _) | ((with_reducible refine Grew.setCell ?_ ?_ _); rotate_left; (focus (dsimp only; first | omega | (simp only [size_ext, World.size_alloc, Array.size_append]; omega)))) | (with_reducible refine Grew.drewN ?_ _) | (with_reducible refine Grew.drew ?_)))⟩
/-- gemm.check. -/
theorem gcheck_any (x y z : MatM) (bx cx bz cz g cg : Nat) (w : World) (hX : FS w (.slice (some ⟨bx, 0, none⟩) x.ws.length cx) x.ws) (hY : FS w (.slice (some ⟨bz, 0, none⟩) y.ws.length cz) y.ws) (hZ : FS w (.slice (some ⟨g, 0, none⟩) z.ws.length cg) z.ws) (hPx : Plain w bx) (hPy : Plain w bz) (hPz : Plain w g) (hwx : x.wf) (hwy : y.wf) (hwz : z.wf) (hlx : x.ws.length ≤ 1000000) (hly : y.ws.length ≤ 1000000) (hlz : z.ws.length ≤ 1000000) : Calls Try.prog 148 #[.agg #[.slice (some ⟨bx, 0, none⟩) x.ws.length cx, .int .i64 x.off, .int .i64 x.rows, .int .i64 x.cols, .int .i64 x.ld], .agg #[.slice (some ⟨bz, 0, none⟩) y.ws.length cz, .int .i64 y.off, .int .i64 y.rows, .int .i64 y.cols, .int .i64 y.ld], .agg #[.slice (some ⟨g, 0, none⟩) z.ws.length cg, .int .i64 z.off, .int .i64 z.rows, .int .i64 z.cols, .int .i64 z.ld]] w (fun e w' => e = .returned (.int .i64 (gemmE x y z (decide (g = bx)) (decide (g = bz)))) ∧ ∃ o n, w' = ext w o n) := by
  have H := gemmC x y z bx cx bz cz g cg hwx hwy hwz hlx hly hlz
  unfold gemmE
  cases h1 : x.good
  · rw [h1] at H
    rw [if_pos (.inl rfl)]
    exact gcheck_1 x y z bx cx bz cz g cg w hX hY hZ hPx hPy hPz _ _ _ _ H
  · rw [h1] at H
    cases h2 : y.good
    · rw [h2] at H
      rw [if_pos (.inr (.inl rfl))]
      exact gcheck_2 x y z bx cx bz cz g cg w hX hY hZ hPx hPy hPz _ _ _ H
    · rw [h2] at H
      cases h3 : z.good
      · rw [h3] at H
        rw [if_pos (.inr (.inr rfl))]
        exact gcheck_3 x y z bx cx bz cz g cg w hX hY hZ hPx hPy hPz _ _ H
      · rw [h3] at H
        rw [if_neg (by simp)]
        by_cases h : x.cols ≠ y.rows ∨ z.rows ≠ x.rows ∨ z.cols ≠ y.cols
        · rw [if_pos h]
          exact gcheck_4 x y z bx cx bz cz g cg w hX hY hZ hPx hPy hPz _ _ H h
        · rw [if_neg h]
          have e1 : x.cols = y.rows := Decidable.not_not.1 fun e => h (.inl e)
          have e2 : z.rows = x.rows := Decidable.not_not.1 fun e => h (.inr (.inl e))
          have e3 : z.cols = y.cols := Decidable.not_not.1 fun e => h (.inr (.inr e))
          by_cases hm : meetM z x (decide (g = bx)) = true ∨ meetM z y (decide (g = bz)) = true
          · rw [if_pos hm]
            exact gcheck_5 x y z bx cx bz cz g cg w hX hY hZ hPx hPy hPz _ _ H e1 e2 e3 (by rcases hm with hm | hm <;> simp [hm])
          · rw [if_neg hm]
            simp only [not_or, Bool.not_eq_true] at hm
            rw [hm.1, hm.2] at H
            exact gcheck_6 x y z bx cx bz cz g cg w hX hY hZ hPx hPy hPz H e1 e2 e3
end Go.Proofs.Ytcmggfpcbijcjaa
end
section
/-
  Worlds that grew: arrays of new blocks, however they are bracketed.
-/
set_option linter.unusedSimpArgs false
set_option linter.unusedVariables false
namespace Sedge
open Go Go.RowKit
theorem Grew.app_r {X U : World} {o o' : Array Obj} {n : Nat} (h : Grew X (Sedge.ext U o n)) : Grew X (Sedge.ext U (o ++ o') n) := h.trans ⟨o', n, by simp⟩
end Sedge
end
section
/-
  Contract: view.Dense of no numbers.
-/
set_option linter.unusedSimpArgs false
set_option linter.unusedVariables false
open Go Go.RowKit Sedge
namespace Go.Proofs.Ytcmggfpcbijcjaa
set_option maxRecDepth 100000 in
set_option maxHeartbeats 1000000 in
/-- view.Dense, without numbers. -/
theorem dense0k_any (r c : Nat) (w : World) (hr : r ≤ 64) (hc : c ≤ 64) (hr1 : 1 ≤ r) :
   Calls Try.prog 69 #[.int .i64 r, .int .i64 c, .slice none 0 0] w (fun e w' => ∃ k, e = .returned (.agg #[.slice (some ⟨k, 0, none⟩) (r * c) (r * c), .int .i64 0, .int .i64 r, .int .i64 c, .int .i64 r]) ∧ w.heap.size ≤ k ∧ FW w' k (List.replicate (r * c) 0) ∧ ∃ o n, w' = ext w o n) := by
  have hm : r * c ≤ 64 * 64 := Nat.mul_le_mul hr hc
  have h2 : IntKind.i64.wrap ((r : Int) * c) = (r : Int) * c := IntWalk.i64_in _ (by rw [← Int.natCast_mul]; omega)
  have d1 : decide ((r : Int) < 0) = false := by simp
  have d2 : decide ((c : Int) < 0) = false := by simp
  have d3 : decide ((64 : Int) < (r : Int)) = false := by simp; omega
  have d4 : decide ((64 : Int) < (c : Int)) = false := by simp; omega
  have d6 : decide ((1 : Int) ≤ (r : Int)) = true := by simp; omega
  have d7 : (0 : Int) ≤ (r : Int) * c := by rw [← Int.natCast_mul]; omega
  go_enter Try.func69, Try.ntmps69
  refine seq_stop ?_
  go_wp2
  refine stop_go (fun W hW => ?_)
  have s1 : w.heap.size < W.heap.size := by rw [hW]; simp only [World.size_alloc]; omega
  have b1 : ∀ i, W.cell? ⟨w.heap.size, i, none⟩ = (#[.slice none 0 0, .int .i64 0, .int .i64 0, .int .i64 0, .int .i64 0] : Array Value)[i]? := by intro i; rw [hW]; go_simp
  have f1 : ∀ i, W.frozen? ⟨w.heap.size, i, none⟩ = false := by intro i; rw [hW]; go_simp
  have g0 : Grew w W := by rw [hW]; exact (Grew.refl _).alloc _
  clear hW
  go_wp2_with (at_make; refine make_f (L := (r : Int) * (c : Int)) finfo (Grew.refl W) _ _ rfl rfl (r * c) (Int.natCast_mul r c).symm rfl rfl (by omega) ?_; intro oo nn k hk ho; have hF := ho.made)
  refine name_any (fun V hV => ?_)
  have gV : Grew W V := by rw [← hV]; (show Grew _ _; repeat (first | (with_reducible exact Grew.refl _) | (with_reducible assumption) | (with_reducible exact Grew.same_o) | (with_reducible exact Grew.app_o) | (with_reducible refine Grew.ext ?_ _ _) | (with_reducible refine Grew.alloc ?_ _) | ((with_reducible refine Grew.setCell ?_ ?_ _); rotate_left; (focus (dsimp only; first | omega | (simp only [size_ext, World.size_alloc, Array.size_append]; omega)))) | (with_reducible refine Grew.drewN ?_ _) | (with_reducible refine Grew.drew ?_)))
  have sV := gV.below.size
  have k1 : w.heap.size < V.heap.size := by omega
  have k3 : W.heap.size + oo.size < V.heap.size := by rw [← hV]; simp only [World.size_alloc, size_ext]; omega
  have c3 : ∀ i, V.cell? ⟨W.heap.size + oo.size, i, none⟩ = (#[.slice (some ⟨k, 0, none⟩) (r * c) (r * c), .int .i64 0, .int .i64 r, .int .i64 c, .int .i64 r] : Array Value)[i]? := by subst hV; intro i; go_simp
  have c1 : ∀ i, V.cell? ⟨w.heap.size, i, none⟩ = (#[.slice none 0 0, .int .i64 0, .int .i64 0, .int .i64 0, .int .i64 0] : Array Value)[i]? := fun i => (gV.cell s1).trans (b1 i)
  have z1 : ∀ i, V.frozen? ⟨w.heap.size, i, none⟩ = false := fun i => (gV.frozen s1).trans (f1 i)
  have hFV : FW V k (List.replicate (r * c) 0) := by rw [← hV]; (repeat (first | (with_reducible assumption) | ((with_reducible refine FW.ext_set ?_ ?_ ?_ _); rotate_left; (focus (simp only [size_setCell', World.size_alloc, size_ext, size_upd]; omega)); (focus (dsimp only; omega))) | ((with_reducible refine FW.setCell_ne ?_ ?_ _); rotate_left; (focus (dsimp only; omega))) | (with_reducible refine FW.ext ?_ _ _) | (with_reducible refine FW.alloc ?_ _)))
  clear hV b1 f1 ho
  go_loopw [43] (fun s wr => s = .int .i64 0 ∧ wr = V) (fun s _ => 0)
  case atStart => exact ⟨rfl, rfl⟩
  case round =>
    obtain ⟨rfl, rfl⟩ := hrel
    go_wp2
    refine bodyPost_ret (v := .agg #[.slice (some ⟨k, 0, none⟩) (r * c) (r * c), .int .i64 0, .int .i64 r, .int .i64 c, .int .i64 r]) (by simp [results, Try.results69, go_sem, *]) rfl ?_
    have g1 := Grew.trans g0 gV
    exact ⟨k, rfl, by omega, by (repeat (first | (with_reducible assumption) | ((with_reducible refine FW.ext_set ?_ ?_ ?_ _); rotate_left; (focus (simp only [size_setCell', World.size_alloc, size_ext, size_upd]; omega)); (focus (dsimp only; omega))) | ((with_reducible refine FW.setCell_ne ?_ ?_ _); rotate_left; (focus (dsimp only; omega))) | (with_reducible refine FW.ext ?_ _ _) | (with_reducible refine FW.alloc ?_ _))), by (show Grew _ _; repeat (first | (with_reducible exact Grew.refl _) | (with_reducible assumption) | (with_reducible exact Grew.same_o) | (with_reducible exact Grew.app_o) | (with_reducible refine Grew.ext ?_ _ _) | (with_reducible refine Grew.alloc ?_ _) | ((with_reducible refine Grew.setCell ?_ ?_ _); rotate_left; (focus (dsimp only; first | omega | (simp only [size_ext, World.size_alloc, Array.size_append]; omega)))) | (with_reducible refine Grew.drewN ?_ _) | (with_reducible refine Grew.drew ?_)))⟩
end Go.Proofs.Ytcmggfpcbijcjaa
end
section
/-
  Slices of whole numbers that a call makes itself: appends, two slices beside one another.
-/
set_option linter.unusedSimpArgs false
set_option linter.unusedVariables false
namespace Sedge
open Go Go.RowKit
/-- Their own blocks are not one. -/
def ApartV (u v : Value) : Prop := ∀ k, u.ownBlock = some k → v.ownBlock ≠ some k
section
variable {P : Program} {ops : Array Oper} {rest : List Oper} {o : Oper} {a : Act} {Q : Exit → Act → World → Prop}
theorem append1_v {t e e' : TypeId} {z0 : Value} (und : P.underlying t = some (.slice e)) (info : (P.info? e).map (fun i => (i.zero, i.size, i.bytes)) = some (some z0, 1, 8)) (hz0 : z0.cells.size = 1)
    {W w : World} (hW : Grew W w) {v y : Value} {xs : List Value} (hown : w.ownsRow W.heap.size e 1 v xs.length xs) (hy : y.oneCell' = true)
    (hlen : xs.length < 17592186044415) (s x : Operand) (hg : o.guard = none)
    (ho : o.op = .call { callee := .builtin .append, args := #[s, x], argTypes := #[t, t] }) (hs : a.eval s = v) {k : Nat} (hk : k = w.heap.size) (hx : a.eval x = .slice (some ⟨k, 0, none⟩) 1 1)
    (h : ∀ v' oo nn, (ext W oo nn).ownsRow W.heap.size e 1 v' (xs.length + 1) (xs ++ [y]) →
      (∀ e2 u n2 ys, w.ownsRow W.heap.size e2 1 u n2 ys → ApartV u v → (ext W oo nn).ownsRow W.heap.size e2 1 u n2 ys ∧ ApartV u v') → wpList P ops Q rest (a.put o.dst v') (ext W oo nn)) :
    wpList P ops Q (o :: rest) a (w.alloc (.cells #[y] e')) := by
  subst hk
  obtain ⟨i0, hi, hz⟩ := Option.map_eq_some_iff.1 info
  simp only [Prod.mk.injEq] at hz
  obtain ⟨hz1, hz2, hz3⟩ := hz
  have hgA : Grew w (w.alloc (.cells #[y] e')) := (Grew.refl w).alloc _
  have keep : ∀ e2 u n2 ys (w' : World), w.ownsRow W.heap.size e2 1 u n2 ys → (∀ k, u.ownBlock = some k → w'.heap[k]? = w.heap[k]?) → w'.ownsRow W.heap.size e2 1 u n2 ys := fun e2 u n2 ys w' hu hk => by
    obtain ⟨h1, h2⟩ := hu
    refine ⟨h1, ?_⟩
    rcases h2 with h2 | ⟨g, cap, cur, rfl, hB, hh, r⟩
    · exact .inl h2
    · exact .inr ⟨g, cap, cur, rfl, hB, by rw [hk g rfl]; exact hh, r⟩
  have hown' := keep _ _ _ _ (w.alloc (.cells #[y] e')) hown (fun k hk => hgA.below.block k (hown.lt k hk).2)
  refine wpList_append_own_at _ hg s x t ho W.heap.size e i0 z0 1 8 und hi hz1 hz2 hz3 hz0 (by decide) v xs.length xs hs hown' ⟨w.heap.size, 0, none⟩ 1 1 [y] hx rfl ?_ ?_ ?_ ?_ ?_ ?_
  · intro j u hj
    match j, hj with
    | 0, hj =>
      simp at hj; subst hj
      have e1 : (⟨w.heap.size, 0, none⟩ : Addr).add 0 = ⟨w.heap.size, 0, none⟩ := by simp [Addr.add]
      rw [e1, World.cell?_alloc_new]; rfl
  · intro u hu; simp at hu; subst hu; exact hy
  · simp [maxLen]; omega
  · omega
  · have := hW.below.size; simp; omega
  · intro v' w' ho2 hgr hnn hloc
    obtain ⟨oo, nn, rfl⟩ := grew_grown (hW.alloc (.cells #[y] e')) hgr (fun k hk => (hown.lt k hk).1)
    refine h v' oo nn ho2 fun e2 u n2 ys hu hap => ⟨keep _ _ _ _ _ hu fun k hk => ?_, fun k hk => ?_⟩
    · have hlt := (hu.lt k hk).2
      exact (hgr.block k (Nat.lt_of_lt_of_le hlt hgA.below.size) (fun e => hap k hk e.symm)).trans (hgA.below.block k hlt)
    · have hlt := (hu.lt k hk).2
      rcases hloc with h1 | h1
      · rw [h1]; exact hap k hk
      · rw [h1]; intro e; simp at e; omega
end
/-- The slice v of ours owns the whole numbers zs. -/
def OwnI (w : World) (B : Nat) (v : Value) (zs : List Int) : Prop := w.ownsRow B 3 1 v zs.length (zs.map (Value.int .i64))
theorem OwnI.nil (w : World) (B : Nat) : OwnI w B (.slice none 0 0) [] := ⟨by simp, .inl ⟨rfl, rfl⟩⟩
theorem OwnI.grew {w w' : World} {B : Nat} {v : Value} {zs : List Int} (h : OwnI w B v zs) (g : Grew w w') : OwnI w' B v zs := by
  obtain ⟨h0, h1⟩ := h
  refine ⟨h0, ?_⟩
  rcases h1 with h1 | ⟨gg, cap, cur, hv, hB, hh, r⟩
  · exact .inl h1
  · have hlt : gg < w.heap.size := by
      rcases Nat.lt_or_ge gg w.heap.size with h | h
      · exact h
      · rw [Array.getElem?_eq_none h] at hh; cases hh
    exact .inr ⟨gg, cap, cur, hv, hB, by rw [g.below.block gg hlt]; exact hh, r⟩
theorem OwnI.is {w : World} {B : Nat} {v : Value} {zs : List Int} (h : OwnI w B v zs) (hl : zs.length ≤ 9223372036854775807) : IS .i64 w v zs := by
  obtain ⟨_, h1⟩ := h
  rcases h1 with ⟨rfl, h1⟩ | ⟨g, cap, cur, rfl, _, hh, hn, hm, hsz, ht⟩
  · have : zs = [] := List.length_eq_zero_iff.1 h1
    subst this
    exact ⟨by simp, none, 0, rfl, fun i hi => by simp at hi⟩
  · refine ⟨hl, some ⟨g, 0, none⟩, cap, rfl, fun i hi => ⟨g, 0, rfl, ?_⟩⟩
    rw [Nat.mul_one] at ht
    have := take_getElem? (i := i) ht (by simpa using hi)
    simp only [World.cell?, hh, Nat.zero_add, Option.isSome_none, Bool.false_eq_true, if_false]
    rw [← Array.getElem?_toList, this]
    simp [List.getD_eq_getElem?_getD, hi]
end Sedge
end
section
/-
  Plain laws on the reference's digits: lists of 16 bits, what they are worth.
-/
set_option linter.unusedSimpArgs false
set_option linter.unusedVariables false
namespace Sedge
open Ieee

def dv : List Nat → Nat
  | [] => 0
  | d :: l => d + 65536 * dv l
theorem dv_append : ∀ (a b : List Nat), dv (a ++ b) = dv a + 65536 ^ a.length * dv b
  | [], b => by simp [dv]
  | d :: a, b => by
    show d + 65536 * dv (a ++ b) = d + 65536 * dv a + 65536 ^ (a.length + 1) * dv b
    rw [dv_append a b, Nat.pow_succ, Nat.mul_add, Nat.mul_comm (65536 ^ a.length) 65536, Nat.mul_assoc]; omega
def Dg (l : List Nat) : Prop := ∀ d ∈ l, d < 65536
theorem Dg.nil : Dg [] := fun d h => by cases h
theorem Dg.tail {d : Nat} {l : List Nat} (h : Dg (d :: l)) : Dg l := fun x hx => h x (List.mem_cons_of_mem _ hx)
theorem Dg.append {a b : List Nat} (h : Dg a) (k : Dg b) : Dg (a ++ b) := fun x hx => by
  rcases List.mem_append.1 hx with hx | hx
  · exact h x hx
  · exact k x hx
theorem Dg.one {d : Nat} (h : d < 65536) : Dg [d] := fun x hx => by simp at hx; omega
theorem Dg.get {l : List Nat} (h : Dg l) (i : Nat) : l.getD i 0 < 65536 := by
  rw [List.getD_eq_getElem?_getD]
  by_cases hi : i < l.length
  · rw [List.getElem?_eq_getElem hi]; exact h _ (List.getElem_mem hi)
  · rw [List.getElem?_eq_none (by omega)]; decide
theorem Dg.set {l : List Nat} (h : Dg l) (i : Nat) {x : Nat} (hx : x < 65536) : Dg (l.set i x) := fun d hd => by
  rcases List.mem_or_eq_of_mem_set hd with hd | hd
  · exact h d hd
  · omega
theorem Dg.replicate (n : Nat) : Dg (List.replicate n 0) := fun d hd => by rw [List.eq_of_mem_replicate hd]; decide
theorem Dg.dropLast {l : List Nat} (h : Dg l) : Dg l.dropLast := fun d hd => h d (List.dropLast_subset l hd)
theorem dv_lt : ∀ {l : List Nat}, Dg l → dv l < 65536 ^ l.length
  | [], _ => by simp [dv]
  | d :: l, h => by
    have h1 := dv_lt h.tail
    have h2 := h d (List.mem_cons_self ..)
    show d + 65536 * dv l < 65536 ^ (l.length + 1)
    rw [Nat.pow_succ]; omega
theorem dv_replicate : ∀ n, dv (List.replicate n 0) = 0
  | 0 => rfl
  | n + 1 => by show 0 + 65536 * dv (List.replicate n 0) = 0; rw [dv_replicate n]
theorem dv_set : ∀ {l : List Nat} {i : Nat}, i < l.length → ∀ x, dv (l.set i x) + l.getD i 0 * 65536 ^ i = dv l + x * 65536 ^ i
  | [], i, h, x => by simp at h
  | d :: l, 0, h, x => by simp [dv]; omega
  | d :: l, i + 1, h, x => by
    have := dv_set (l := l) (i := i) (by simpa using h) x
    show d + 65536 * dv (l.set i x) + l.getD i 0 * 65536 ^ (i + 1) = d + 65536 * dv l + x * 65536 ^ (i + 1)
    rw [Nat.pow_succ, ← Nat.mul_assoc, ← Nat.mul_assoc]; omega
theorem dv_get_le : ∀ (l : List Nat) (i : Nat), l.getD i 0 * 65536 ^ i ≤ dv l
  | [], i => by simp
  | d :: l, 0 => by simp [dv]
  | d :: l, i + 1 => by
    have := dv_get_le l i
    show l.getD i 0 * 65536 ^ (i + 1) ≤ d + 65536 * dv l
    rw [Nat.pow_succ, ← Nat.mul_assoc]; omega
theorem dv_pos {l : List Nat} (h : l ≠ []) (hl : l.getLast h ≠ 0) : dv l ≠ 0 := by
  intro h0
  have h1 := dv_get_le l (l.length - 1)
  rw [h0] at h1
  have hlen : 0 < l.length := List.length_pos_iff.2 h
  have e : l.getD (l.length - 1) 0 = l.getLast h := by
    rw [List.getLast_eq_getElem, List.getD_eq_getElem?_getD, List.getElem?_eq_getElem (by omega)]; rfl
  rw [e] at h1
  have : 0 < 65536 ^ (l.length - 1) := Nat.pow_pos (by decide)
  have h2 : 0 < l.getLast h * 65536 ^ (l.length - 1) := Nat.mul_pos (by omega) this
  omega
theorem dv_nil_or {l : List Nat} (h : ∀ h : l ≠ [], l.getLast h ≠ 0) (h0 : dv l = 0) : l = [] := Decidable.byContradiction fun hn => dv_pos hn (h hn) h0
theorem dv_dropLast {l : List Nat} (h : l ≠ []) (hl : l.getLast h = 0) : dv l.dropLast = dv l := by
  have := dv_append l.dropLast [l.getLast h]
  rw [List.dropLast_concat_getLast] at this
  rw [this, hl]; simp [dv]

/-- The sum of so many digits. -/
def ds (f : Nat → Nat) : Nat → Nat
  | 0 => 0
  | k + 1 => ds f k + f k * 65536 ^ k
theorem ds_congr {f g : Nat → Nat} : ∀ {n : Nat}, (∀ k, k < n → f k = g k) → ds f n = ds g n
  | 0, _ => rfl
  | n + 1, h => by
    unfold ds
    rw [ds_congr (fun k hk => h k (by omega)), h n (by omega)]
theorem ds_lt {f : Nat → Nat} (h : ∀ k, f k < 65536) : ∀ n, ds f n < 65536 ^ n
  | 0 => by simp [ds]
  | n + 1 => by
    have h1 := ds_lt h n
    have h2 := h n
    unfold ds
    rw [Nat.pow_succ]
    have : f n * 65536 ^ n ≤ 65535 * 65536 ^ n := Nat.mul_le_mul_right _ (by omega)
    omega
theorem ds_succ' (f : Nat → Nat) : ∀ n, ds f (n + 1) = f 0 + 65536 * ds (fun k => f (k + 1)) n
  | 0 => by simp [ds]
  | n + 1 => by
    have := ds_succ' f n
    show ds f (n + 1) + f (n + 1) * 65536 ^ (n + 1) = f 0 + 65536 * (ds (fun k => f (k + 1)) n + f (n + 1) * 65536 ^ n)
    rw [this, Nat.pow_succ, Nat.mul_add, Nat.mul_left_comm 65536, Nat.mul_comm 65536 (65536 ^ n)]
    omega
theorem ds_list : ∀ (l : List Nat), ds (fun k => l.getD k 0) l.length = dv l
  | [] => rfl
  | d :: l => by
    show ds _ (l.length + 1) = _
    rw [ds_succ']
    have := ds_list l
    show d + 65536 * ds (fun k => l.getD k 0) l.length = _
    rw [this]; rfl
theorem ds_zero {f : Nat → Nat} {n : Nat} (h : ∀ k, k < n → f k = 0) : ds f n = 0 := by
  rw [ds_congr h]
  clear h
  induction n with
  | zero => rfl
  | succ n ih => unfold ds; rw [ih]; simp
theorem ds_add (f : Nat → Nat) (a : Nat) : ∀ b, ds f (a + b) = ds f a + 65536 ^ a * ds (fun k => f (a + k)) b
  | 0 => by simp [ds]
  | b + 1 => by
    show ds f (a + b) + f (a + b) * 65536 ^ (a + b) = ds f a + 65536 ^ a * (ds (fun k => f (a + k)) b + f (a + b) * 65536 ^ b)
    rw [ds_add f a b, Nat.mul_add, Nat.pow_add, Nat.mul_left_comm]; omega
/-- The digit of a place. -/
def digAt (l : List Nat) (E p : Int) : Nat := if p < E ∨ E + l.length ≤ p then 0 else l.getD (p - E).toNat 0
theorem digAt_lt {l : List Nat} (h : Dg l) (E p : Int) : digAt l E p < 65536 := by
  unfold digAt; split
  · decide
  · exact h.get _
theorem ds_digAt {l : List Nat} {E F : Int} {n : Nat} (h1 : F ≤ E) (h2 : E + l.length ≤ F + n) : ds (fun k => digAt l E (F + k)) n = 65536 ^ (E - F).toNat * dv l := by
  obtain ⟨a, ha⟩ : ∃ a : Nat, a = (E - F).toNat := ⟨_, rfl⟩
  obtain ⟨c, hc⟩ : ∃ c : Nat, c = n - a - l.length := ⟨_, rfl⟩
  have en : n = a + (l.length + c) := by omega
  rw [en, ds_add, ds_add, ← ha]
  rw [ds_zero (f := fun k => digAt l E (F + k)) (n := a) (fun k hk => by unfold digAt; rw [if_pos (by omega)])]
  rw [ds_zero (n := c) (fun k hk => by show digAt l E (F + _) = 0; unfold digAt; rw [if_pos (by omega)])]
  rw [ds_congr (g := fun k => l.getD k 0) (n := l.length) (fun k hk => by
    show digAt l E (F + ((a + k : Nat) : Int)) = _
    unfold digAt; rw [if_neg (by omega)]; congr 1; omega)]
  rw [ds_list]; simp
theorem ds_digAt_nil {E F : Int} {n : Nat} : ds (fun k => digAt [] E (F + k)) n = 0 := ds_zero fun k _ => by
  unfold digAt; split <;> simp
theorem p2_pow16 (n : Nat) : ((65536 ^ n : Nat) : Rat) = p2 (16 * n) := by
  have : (65536 : Nat) ^ n = 2 ^ (16 * n) := by rw [Nat.pow_mul]
  rw [this, ← p2_nat]; congr 1
/-- What is worth the digits of places from F on. -/
theorem ds_worth {l : List Nat} {E F : Int} {n : Nat} (h : l = [] ∨ F ≤ E ∧ E + l.length ≤ F + n) : (ds (fun k => digAt l E (F + k)) n : Rat) * p2 (16 * F) = (dv l : Rat) * p2 (16 * E) := by
  rcases h with rfl | ⟨h1, h2⟩
  · rw [ds_digAt_nil]; simp [dv]
  · rw [ds_digAt h1 h2, Rat.natCast_mul, p2_pow16]
    have : p2 (16 * E) = p2 (16 * ((E - F).toNat : Nat)) * p2 (16 * F) := by rw [← p2_add]; congr 1; omega
    rw [this]; grind
/-- The highest digit that differs decides. -/
theorem ds_less {f g : Nat → Nat} (hf : ∀ k, f k < 65536) {p n : Nat} (hp : p < n) (h : f p < g p) (he : ∀ k, p < k → k < n → f k = g k) : ds f n < ds g n := by
  obtain ⟨c, rfl⟩ : ∃ c, n = p + 1 + c := ⟨n - (p + 1), by omega⟩
  rw [ds_add f (p + 1) c, ds_add g (p + 1) c, ds_congr (f := fun k => f (p + 1 + k)) (g := fun k => g (p + 1 + k)) (fun k hk => he _ (by omega) (by omega))]
  refine Nat.add_lt_add_right ?_ _
  unfold ds
  have h1 := ds_lt hf p
  have h2 : (f p + 1) * 65536 ^ p ≤ g p * 65536 ^ p := Nat.mul_le_mul_right _ h
  rw [Nat.add_mul] at h2
  omega
/-- One step of a product's row. -/
theorem mul_step {l : List Nat} {i c a b : Nat} (hi : i < l.length) :
    dv (l.set i ((c + a * b + l.getD i 0) % 65536)) + (c + a * b + l.getD i 0) / 65536 * 65536 ^ (i + 1) = dv l + c * 65536 ^ i + a * b * 65536 ^ i := by
  have h1 := dv_set hi ((c + a * b + l.getD i 0) % 65536)
  have h2 := Nat.div_add_mod (c + a * b + l.getD i 0) 65536
  generalize (c + a * b + l.getD i 0) / 65536 = q at *
  generalize (c + a * b + l.getD i 0) % 65536 = m at *
  rw [Nat.pow_succ]
  generalize 65536 ^ i = P at *
  have h3 : (65536 * q + m) * P = (c + a * b + l.getD i 0) * P := by rw [h2]
  rw [Nat.add_mul, Nat.add_mul, Nat.add_mul, Nat.mul_assoc] at h3
  rw [Nat.mul_comm P 65536, Nat.mul_left_comm q]
  omega
theorem mul_carry {c a b d : Nat} (hc : c < 65536) (ha : a < 65536) (hb : b < 65536) (hd : d < 65536) : c + a * b + d < 4294967296 ∧ (c + a * b + d) / 65536 < 65536 := by
  have : a * b ≤ 65535 * 65535 := Nat.mul_le_mul (by omega) (by omega)
  omega
/-- One step of a shift. -/
theorem shift_step {l : List Nat} {i d r : Nat} (hi : i + 1 < l.length) (hl : Dg l) (hd : d < 65536) (hr : r < 16) (h0 : l.getD i 0 < 2 ^ r) (hz : ∀ k, i < k → l.getD k 0 = 0) :
    dv ((l.set i (l.getD i 0 + d * 2 ^ r % 65536)).set (i + 1) (d * 2 ^ r / 65536)) = dv l + d * 2 ^ r * 65536 ^ i ∧ Dg ((l.set i (l.getD i 0 + d * 2 ^ r % 65536)).set (i + 1) (d * 2 ^ r / 65536)) ∧
    ((l.set i (l.getD i 0 + d * 2 ^ r % 65536)).set (i + 1) (d * 2 ^ r / 65536)).getD (i + 1) 0 < 2 ^ r ∧ ∀ k, i + 1 < k → ((l.set i (l.getD i 0 + d * 2 ^ r % 65536)).set (i + 1) (d * 2 ^ r / 65536)).getD k 0 = 0 := by
  have e : 2 ^ r * 2 ^ (16 - r) = 65536 := by rw [← Nat.pow_add, show r + (16 - r) = 16 by omega]
  have hg : 0 < 2 ^ r := Nat.two_pow_pos r
  have hh : 0 < 2 ^ (16 - r) := Nat.two_pow_pos _
  have hm : l.getD i 0 + d * 2 ^ r % 65536 < 65536 := by
    have h1 : d * 2 ^ r % 65536 = 2 ^ r * (d % 2 ^ (16 - r)) := by rw [← e, Nat.mul_comm d, Nat.mul_mod_mul_left]
    have h2 := Nat.mod_lt d hh
    have h3 : 2 ^ r * (d % 2 ^ (16 - r) + 1) ≤ 2 ^ r * 2 ^ (16 - r) := Nat.mul_le_mul_left _ h2
    rw [Nat.mul_add, e] at h3
    omega
  have hq : d * 2 ^ r / 65536 < 2 ^ r := by
    rw [Nat.div_lt_iff_lt_mul (by decide), Nat.mul_comm]
    exact Nat.mul_lt_mul_of_pos_left hd hg
  have hr2 : 2 ^ r ≤ 32768 := by
    have := Nat.pow_le_pow_right (n := 2) (by decide) (show r ≤ 15 by omega)
    omega
  refine ⟨?_, (hl.set _ hm).set _ (by omega), ?_, ?_⟩
  · have s1 := dv_set (l := l) (i := i) (by omega) (l.getD i 0 + d * 2 ^ r % 65536)
    have s2 := dv_set (l := l.set i (l.getD i 0 + d * 2 ^ r % 65536)) (i := i + 1) (by simpa using hi) (d * 2 ^ r / 65536)
    have e2 : (l.set i (l.getD i 0 + d * 2 ^ r % 65536)).getD (i + 1) 0 = 0 := by
      rw [List.getD_eq_getElem?_getD, List.getElem?_set_ne (by omega), ← List.getD_eq_getElem?_getD]
      exact hz _ (by omega)
    rw [e2] at s2
    have hdm := Nat.div_add_mod (d * 2 ^ r) 65536
    generalize d * 2 ^ r / 65536 = q at *
    generalize d * 2 ^ r % 65536 = m at *
    generalize d * 2 ^ r = T at *
    rw [Nat.pow_succ] at s2
    subst hdm
    rw [Nat.add_mul, Nat.mul_assoc, Nat.mul_left_comm]
    rw [Nat.add_mul] at s1
    rw [Nat.mul_comm (65536 ^ i) 65536, Nat.mul_left_comm q] at s2
    rw [Nat.mul_left_comm q] 
    omega
  · rw [List.getD_eq_getElem?_getD, List.getElem?_set, if_pos rfl, if_pos (by simpa using hi)]
    exact hq
  · intro k hk
    rw [List.getD_eq_getElem?_getD, List.getElem?_set_ne (by omega), List.getElem?_set_ne (by omega), ← List.getD_eq_getElem?_getD]
    exact hz _ (by omega)
end Sedge
end
section
/-
  Slices of digits: how they read; blocks of them that may be written; appends, make.
-/
set_option linter.unusedSimpArgs false
set_option linter.unusedVariables false
namespace Sedge
open Go Go.RowKit

theorem Grew.same_o {X : World} {o : Array Obj} {n n' : Nat} : Grew (Sedge.ext X o n) (Sedge.ext X o n') := ⟨#[], n', by simp⟩
theorem Grew.app_o {X : World} {o o' : Array Obj} {n n' : Nat} : Grew (Sedge.ext X o n) (Sedge.ext X (o ++ o') n') := ⟨o', n', by simp⟩
/-- The slice v reads, in w, as the digits l. -/
def NS (w : World) (v : Value) (l : List Nat) : Prop :=
  ∃ a cap, v = .slice a l.length cap ∧ l.length ≤ cap ∧ ∀ i, i < l.length → ∃ blk o, a = some ⟨blk, o, none⟩ ∧ w.cell? ⟨blk, o + i, none⟩ = some (.int .i64 (l.getD i 0 : Nat))
theorem NS.shape {w : World} {v : Value} {l : List Nat} (h : NS w v l) : ∃ a cap, v = .slice a l.length cap := by
  obtain ⟨a, cap, rfl, _⟩ := h; exact ⟨a, cap, rfl⟩
theorem NS.at {w : World} {a : Option Addr} {n cap : Nat} {l : List Nat} (h : NS w (.slice a n cap) l) : n = l.length ∧ n ≤ cap ∧ (0 < l.length → ∃ blk o, a = some ⟨blk, o, none⟩ ∧ blk < w.heap.size ∧
      ∀ i, i < l.length → w.cell? ⟨blk, o + i, none⟩ = some (.int .i64 (l.getD i 0 : Nat))) := by
  obtain ⟨a', cap', e, h0, hc⟩ := h
  cases e
  refine ⟨rfl, h0, fun hn => ?_⟩
  obtain ⟨blk, o, rfl, h1⟩ := hc 0 hn
  refine ⟨blk, o, rfl, World.block_lt_of_cell? w _ h1, fun i hi => ?_⟩
  obtain ⟨blk', o', he, h1'⟩ := hc i hi
  cases he
  exact h1'
theorem NS.open {w : World} {v : Value} {l : List Nat} (h : NS w v l) (hn : 0 < l.length) :
    ∃ blk o cap, v = .slice (some ⟨blk, o, none⟩) l.length cap ∧ blk < w.heap.size ∧ l.length ≤ cap ∧
      ∀ i, i < l.length → w.cell? ⟨blk, o + i, none⟩ = some (.int .i64 (l.getD i 0 : Nat)) := by
  obtain ⟨a, cap, rfl⟩ := h.shape
  obtain ⟨blk, o, rfl, h1, h2⟩ := h.at.2.2 hn
  exact ⟨blk, o, cap, rfl, h1, h.at.2.1, h2⟩
theorem NS.same {w w' : World} {v : Value} {l : List Nat} (h : NS w v l) (hs : ∀ a : Addr, a.block < w.heap.size → w'.cell? a = w.cell? a) : NS w' v l := by
  obtain ⟨a, cap, hv, h0, hc⟩ := h
  refine ⟨a, cap, hv, h0, fun i hi => ?_⟩
  obtain ⟨blk, o, he, h1⟩ := hc i hi
  exact ⟨blk, o, he, by rw [hs _ (World.block_lt_of_cell? w _ h1)]; exact h1⟩
theorem NS.below {w w' : World} {v : Value} {l : List Nat} (h : NS w v l) (hb : Below w.heap.size w w') : NS w' v l := h.same fun _ ha => hb.cell ha
theorem NS.grew {w w' : World} {v : Value} {l : List Nat} (h : NS w v l) (g : Grew w w') : NS w' v l := h.below g.below
theorem NS.ext {w : World} {v : Value} {l : List Nat} (h : NS w v l) (o : Array Obj) (n : Nat) : NS (ext w o n) v l := h.grew ⟨_, _, rfl⟩
theorem NS.alloc {w : World} {v : Value} {l : List Nat} (h : NS w v l) (o : Obj) : NS (w.alloc o) v l := h.grew ((Grew.refl _).alloc o)
theorem NS.nil (w : World) : NS w (.slice none 0 0) [] := ⟨none, 0, rfl, Nat.le_refl _, fun i hi => by simp at hi⟩
/-- Without the first. -/
theorem NS.tail {w : World} {blk o n cap d : Nat} {l : List Nat} (h : NS w (.slice (some ⟨blk, o, none⟩) n cap) (d :: l)) : NS w (.slice (some ⟨blk, o + 1, none⟩) (n - 1) (cap - 1)) l := by
  obtain ⟨a, c, e, h0, hc⟩ := h
  cases e
  refine ⟨_, _, rfl, by simp at h0; omega, fun i hi => ?_⟩
  obtain ⟨blk', o', he, h1⟩ := hc (i + 1) (by simp; omega)
  cases he
  exact ⟨blk, o + 1, rfl, by rw [show o + 1 + i = o + (i + 1) by omega]; exact h1⟩
theorem NS.tail' {w : World} {blk o n cap d : Nat} {l : List Nat} (h : NS w (.slice (some ⟨blk, o, none⟩) n cap) (d :: l)) : NS w (.slice (if cap = 1 then some ⟨blk, o, none⟩ else some ⟨blk, o + 1, none⟩) l.length (cap - 1)) l := by
  have hn := h.at.1
  have hc := h.at.2.1
  have e : n - 1 = l.length := by rw [hn]; simp
  have h1 := h.tail
  rw [e] at h1
  simp at hn
  by_cases h0 : cap = 1
  · rw [if_pos h0]
    have : l = [] := List.length_eq_zero_iff.1 (by omega)
    subst this
    exact ⟨_, _, rfl, Nat.zero_le _, fun i hi => by simp at hi⟩
  · rw [if_neg h0]; exact h1
theorem NS.dropLast {w : World} {a : Option Addr} {n cap : Nat} {l : List Nat} (h : NS w (.slice a n cap) l) : NS w (.slice a (n - 1) cap) l.dropLast := by
  obtain ⟨a', c, e, h0, hc⟩ := h
  cases e
  refine ⟨a, cap, by simp, by simp; omega, fun i hi => ?_⟩
  have hi' : i < l.length - 1 := by simpa using hi
  obtain ⟨blk', o', he, h1⟩ := hc i (by omega)
  refine ⟨blk', o', he, ?_⟩
  rw [h1]
  congr 2
  rw [List.getD_eq_getElem?_getD, List.getD_eq_getElem?_getD, List.getElem?_dropLast, if_pos hi']

/-- The cells of digits. -/
def ia (l : List Nat) : Array Value := (l.map fun d : Nat => Value.int .i64 d).toArray
@[simp] theorem ia_size (l : List Nat) : (ia l).size = l.length := by simp [ia]
theorem ia_get (l : List Nat) {i : Nat} (h : i < l.length) : (ia l)[i]? = some (.int .i64 (l.getD i 0 : Nat)) := by
  simp [ia, List.getD_eq_getElem?_getD, h]
theorem ia_set (l : List Nat) (i d : Nat) : (ia l).setIfInBounds i (.int .i64 (d : Nat)) = ia (l.set i d) := by
  unfold ia; rw [List.setIfInBounds_toArray, List.map_set]
/-- Block b holds the digits l and no more; it may be written. -/
def IB (w : World) (b : Nat) (l : List Nat) : Prop := ∃ e, w.heap[b]? = some (.cells (ia l) e (0, 0))
section
variable {w : World} {b : Nat} {l : List Nat}
theorem IB.lt (h : IB w b l) : b < w.heap.size := by
  obtain ⟨e, h1⟩ := h
  exact (Array.getElem?_eq_some_iff.1 h1).1
theorem IB.notFrozen (h : IB w b l) (i : Nat) : w.frozen? ⟨b, i, none⟩ = false := by
  obtain ⟨e, h1⟩ := h
  unfold World.frozen?
  simp only [h1]
  simp
theorem IB.self (h : IB w b l) : upd w b (ia l) = w := by
  obtain ⟨e, h1⟩ := h
  unfold upd
  cases w with | mk hp tp dr os' out => ?_
  simp only [World.mk.injEq, true_and, and_true] at *
  apply Array.ext_getElem?
  intro i
  rw [Array.getElem?_modify]
  split
  · rename_i he; subst he; rw [h1]; rfl
  · rfl
theorem IB.cells (h : IB w b l) (cs : Array Value) (i : Nat) : (upd w b cs).cell? ⟨b, i, none⟩ = cs[i]? := by
  obtain ⟨e, h1⟩ := h
  unfold World.cell?
  simp only [block_upd h1]
  simp
theorem IB.get (h : IB w b l) {l' : List Nat} {i : Nat} (hi : i < l'.length) : (upd w b (ia l')).cell? ⟨b, i, none⟩ = some (.int .i64 (l'.getD i 0 : Nat)) := by rw [h.cells, ia_get _ hi]
theorem IB.mk' (h : IB w b l) (l' : List Nat) (o : Array Obj) (n : Nat) : IB (Sedge.ext (upd w b (ia l')) o n) b l' := by
  have hlt := h.lt
  obtain ⟨e, h1⟩ := h
  exact ⟨e, by rw [block_ext (by simpa using hlt), block_upd h1]⟩
theorem IB.ns (h : IB w b l) {cap : Nat} (hc : l.length ≤ cap) : NS w (.slice (some ⟨b, 0, none⟩) l.length cap) l := by
  obtain ⟨e, h1⟩ := h
  refine ⟨_, cap, rfl, hc, fun i hi => ⟨b, 0, rfl, ?_⟩⟩
  unfold World.cell?
  simp only [h1, Nat.zero_add]
  simpa using ia_get l hi
theorem IB.same {w' : World} (h : IB w b l) (hs : w'.heap[b]? = w.heap[b]?) : IB w' b l := by
  obtain ⟨e, h1⟩ := h
  exact ⟨e, hs.trans h1⟩
theorem IB.grew {w' : World} (h : IB w b l) (g : Grew w w') : IB w' b l := h.same (g.below.block b h.lt)
theorem IB.ext (h : IB w b l) (o : Array Obj) (n : Nat) : IB (Sedge.ext w o n) b l := h.grew ⟨_, _, rfl⟩
end
theorem NS.upd_ne {w : World} {v : Value} {l : List Nat} (h : NS w v l) {b : Nat} (hn : NotIn b v) (cs : Array Value) : NS (upd w b cs) v l := by
  obtain ⟨a, cap, hv, h0, hc⟩ := h
  refine ⟨a, cap, hv, h0, fun i hi => ?_⟩
  obtain ⟨blk, o, he, h1⟩ := hc i hi
  refine ⟨blk, o, he, ?_⟩
  rw [cell_upd_ne (by exact hn ⟨blk, o, none⟩ _ _ (by rw [hv, he]))]
  exact h1
/-- A slice that is there in w is none of a block that is not. -/
theorem NS.notIn {w : World} {v : Value} {l : List Nat} (h : NS w v l) (hl : l ≠ []) {b : Nat} (hb : w.heap.size ≤ b) : NotIn b v := by
  intro a n c e
  obtain ⟨blk, o, cap, e2, hlt, _⟩ := h.open (List.length_pos_iff.2 hl)
  rw [e] at e2
  have e3 := (Value.slice.inj e2).1
  cases e3
  show blk ≠ b
  omega

/-- The slice v of ours owns the digits l. -/
def OwnN (w : World) (B : Nat) (v : Value) (l : List Nat) : Prop := w.ownsRow B 3 1 v l.length (l.map fun d : Nat => Value.int .i64 d)
theorem OwnN.nil (w : World) (B : Nat) : OwnN w B (.slice none 0 0) [] := ⟨by simp, .inl ⟨rfl, rfl⟩⟩
theorem OwnN.grew {w w' : World} {B : Nat} {v : Value} {l : List Nat} (h : OwnN w B v l) (g : Grew w w') : OwnN w' B v l := by
  obtain ⟨h0, h1⟩ := h
  refine ⟨h0, ?_⟩
  rcases h1 with h1 | ⟨gg, cap, cur, hv, hB, hh, r⟩
  · exact .inl h1
  · have hlt : gg < w.heap.size := by
      rcases Nat.lt_or_ge gg w.heap.size with h | h
      · exact h
      · rw [Array.getElem?_eq_none h] at hh; cases hh
    exact .inr ⟨gg, cap, cur, hv, hB, by rw [g.below.block gg hlt]; exact hh, r⟩
theorem OwnN.ns {w : World} {B : Nat} {v : Value} {l : List Nat} (h : OwnN w B v l) : NS w v l := by
  obtain ⟨_, h1⟩ := h
  rcases h1 with ⟨rfl, h1⟩ | ⟨g, cap, cur, rfl, _, hh, hn, hm, hsz, ht⟩
  · have : l = [] := List.length_eq_zero_iff.1 h1
    subst this
    exact NS.nil w
  · refine ⟨some ⟨g, 0, none⟩, cap, rfl, hn, fun i hi => ⟨g, 0, rfl, ?_⟩⟩
    rw [Nat.mul_one] at ht
    have := take_getElem? (i := i) ht (by simpa using hi)
    simp only [World.cell?, hh, Nat.zero_add, Option.isSome_none, Bool.false_eq_true, if_false]
    rw [← Array.getElem?_toList, this]
    simp [List.getD_eq_getElem?_getD, hi]
theorem OwnN.block {w : World} {B : Nat} {v : Value} {l : List Nat} (h : OwnN w B v l) : ∀ k, v.ownBlock = some k → B ≤ k := by
  obtain ⟨_, h1⟩ := h
  intro k hk
  rcases h1 with ⟨rfl, _⟩ | ⟨g, cap, cur, rfl, hB, _⟩
  · simp [Value.ownBlock] at hk
  · simp [Value.ownBlock] at hk; omega
section
variable {P : Program} {ops : Array Oper} {rest : List Oper} {o : Oper} {a : Act} {Q : Exit → Act → World → Prop}
theorem append1_n {t e' : TypeId} {z0 : Value} (und : P.underlying t = some (.slice 3)) (info : (P.info? 3).map (fun i => (i.zero, i.size, i.bytes)) = some (some z0, 1, 8)) (hz0 : z0.cells.size = 1)
    {W w : World} (hW : Grew W w) {v : Value} {l : List Nat} (hown : OwnN w W.heap.size v l) {d : Nat} {di : Int} (hd : di = (d : Nat))
    (hlen : l.length < 17592186044415) (s x : Operand) (hg : o.guard = none)
    (ho : o.op = .call { callee := .builtin .append, args := #[s, x], argTypes := #[t, t] }) (hs : a.eval s = v) {k : Nat} (hk : k = w.heap.size) (hx : a.eval x = .slice (some ⟨k, 0, none⟩) 1 1)
    (h : ∀ v' oo nn, OwnN (ext W oo nn) W.heap.size v' (l ++ [d]) → wpList P ops Q rest (a.put o.dst v') (ext W oo nn)) :
    wpList P ops Q (o :: rest) a (w.alloc (.cells #[.int .i64 di] e')) := by
  subst hd
  refine append1_v und info hz0 hW (xs := l.map fun d : Nat => Value.int .i64 d) (by simpa [OwnN] using hown) rfl (by simpa using hlen) s x hg ho hs hk hx ?_
  intro v' oo nn h1 _
  exact h v' oo nn (by simpa [OwnN] using h1)
/-- 'make([]int, n)'. -/
theorem make_n {t : TypeId} (und : P.underlying t = some (.slice 3)) (info : (P.info? 3).map (fun i => (i.zero, i.size, i.bytes)) = some (some (.int .i64 0), 1, 8)) {W w : World} (hW : Grew W w) (x c : Operand) (hg : o.guard = none) (hop : o.op = Op.makeSlice t x c) (n : Nat) {L : Int} (hL : L = n) (hl : a.eval x = .int .i64 L) (hc : a.eval c = .int .i64 L)
    (hn : n ≤ 17592186044415)
    (h : ∀ oo nn k, W.heap.size ≤ k → IB (ext W oo nn) k (List.replicate n 0) → wpList P ops Q rest (a.put o.dst (.slice (some ⟨k, 0, none⟩) n n)) (ext W oo nn)) :
    wpList P ops Q (o :: rest) a w := by
  obtain ⟨i0, hi, hz⟩ := Option.map_eq_some_iff.1 info
  simp only [Prod.mk.injEq] at hz
  obtain ⟨hz0, hz1, hz2⟩ := hz
  refine wpList_make_full w hg x c t hop W.heap.size 3 i0 (.int .i64 0) 1 und hi hz0 hz1 .i64 .i64 L L n hl hc hL hL (by rw [hz2]; omega) (by simp [maxLen]; omega) hW.below.size ?_
  intro w' ho hgr
  obtain ⟨oo, nn, rfl⟩ := grew_grown hW hgr (fun k hk => by cases hk)
  refine h oo nn _ hW.below.size ?_
  obtain ⟨_, h1⟩ := ho
  rcases h1 with ⟨h1, _⟩ | ⟨g, cap, cur, he, _, hh, _, _, hsz, ht⟩
  · cases h1
  · cases he
    refine ⟨3, ?_⟩
    rw [hh]
    congr 2
    apply Array.toList_inj.1
    have e0 : cur.toList.length = n * 1 := by simpa using hsz
    rw [List.take_of_length_le (by omega)] at ht
    rw [ht]
    apply List.ext_getElem?
    intro k
    simp [madeCells, Value.cells, Nat.mod_one, ia]
    by_cases hk : k < n <;> simp [hk]
end
end Sedge
end
section
/-
  Contracts: the reference's digits (layer 2): floor, power.
-/
set_option linter.unusedSimpArgs false
set_option linter.unusedVariables false
open Go Go.RowKit Sedge
namespace Go.Proofs.Ytcmggfpcbijcjaa
theorem iinfoN : (Try.prog.info? 3).map (fun i => (i.zero, i.size, i.bytes)) = some (some (Value.int .i64 0), 1, 8) := by kernel_rfl
theorem iundN : Try.prog.underlying 30 = some (.slice 3) := by kernel_rfl
theorem tmod16 (k : Int) : k.tmod 16 = if 0 ≤ k then k % 16 else -((-k) % 16) := by
  split
  · rename_i h; exact Int.tmod_eq_emod_of_nonneg h
  · rename_i h
    have : k.tmod 16 = -((-k).tmod 16) := by rw [Int.neg_tmod, Int.neg_neg]
    rw [this, Int.tmod_eq_emod_of_nonneg (by omega)]
theorem floor_arith (k : Int) : -16 < k.tmod 16 ∧ k.tmod 16 < 16 ∧ (k.tmod 16 + 16).tmod 16 = k % 16 ∧ (k - k % 16).tdiv 16 = k / 16 := by
  have h := tmod16 k
  have hb : -16 < k.tmod 16 ∧ k.tmod 16 < 16 := by rw [h]; split <;> omega
  have e1 : (k.tmod 16 + 16).tmod 16 = (k.tmod 16 + 16) % 16 := Int.tmod_eq_emod_of_nonneg (by omega)
  have e2 : (k - k % 16).tdiv 16 = k / 16 := by
    rw [show k - k % 16 = k / 16 * 16 by omega, Int.mul_tdiv_cancel _ (by decide)]
  refine ⟨hb.1, hb.2, ?_, e2⟩
  rw [e1, h]
  split <;> omega
set_option maxRecDepth 100000 in
set_option maxHeartbeats 1000000 in
theorem floor_any (k : Int) (w : World) (hk : -1000000 ≤ k ∧ k ≤ 1000000) : Calls Try.prog 124 #[.int .i64 k] w (fun e w' => e = .returned (.tuple #[.int .i64 (k / 16), .int .i64 (k % 16)]) ∧ w' = w) := by
  obtain ⟨hb1, hb2, h1, h2⟩ := floor_arith k
  obtain ⟨R, hR⟩ : ∃ R, R = k % 16 := ⟨_, rfl⟩
  obtain ⟨Q, hQ⟩ : ∃ Q, Q = k / 16 := ⟨_, rfl⟩
  rw [← hR] at h1 h2 ⊢
  rw [← hQ] at h2 ⊢
  have a1 : IntKind.i64.wrap (k.tmod 16 + 16) = k.tmod 16 + 16 := IntWalk.i64_in _ (by omega)
  have a2 : IntKind.i64.wrap (k - R) = k - R := IntWalk.i64_in _ (by omega)
  have a3 : IntKind.i64.wrap Q = Q := IntWalk.i64_in _ (by omega)
  clear hR hQ
  go_enter Try.func124, Try.ntmps124
  go_wp2
  refine bodyPost_ret (v := .tuple #[.int .i64 Q, .int .i64 R]) (by simp [results, Try.results124, go_sem, *]) rfl ?_
  exact ⟨rfl, rfl⟩
theorem pow_le16 {j : Nat} (h : j ≤ 16) : 2 ^ j ≤ 65536 := Nat.pow_le_pow_right (n := 2) (by decide) h
set_option maxRecDepth 100000 in
set_option maxHeartbeats 1000000 in
theorem power_any (k : Nat) (w : World) (hk : k ≤ 16) : Calls Try.prog 125 #[.int .i64 k] w (fun e w' => e = .returned (.int .i64 ((2 ^ k : Nat) : Int)) ∧ w' = w) := by
  go_enter Try.func125, Try.ntmps125
  go_wp2
  go_loopw [3, 4] (fun c d wr => ∃ j : Nat, j ≤ k ∧ c = .int .i64 ((2 ^ j : Nat) : Int) ∧ d = .int .i64 j ∧ wr = w) (fun _ d _ => k - (intOf d).toNat)
  case atStart => exact ⟨0, Nat.zero_le _, rfl, rfl, rfl⟩
  case round =>
    obtain ⟨j, hj, rfl, rfl, rfl⟩ := hrel
    have hp := pow_le16 (Nat.le_trans hj hk)
    have hs : 2 ^ (j + 1) = 2 ^ j * 2 := Nat.pow_succ 2 j
    generalize hP : 2 ^ j = P at *
    by_cases hlt : j < k
    · have HS := hid hs
      clear hs
      go_wp2
      go_roundw
      case rel => exact ⟨j + 1, by omega, by rw [HS.out]; go_num, by go_num, by trivial⟩
      case measure => simp [intOf]; omega
    · have e : j = k := by omega
      subst e
      go_wp2
      go_ret
      exact ⟨ret_int (by rw [hP]), rfl⟩
/-- A number of the reference: its places lie from lo up to hi. -/
def DV (w : World) (v : Value) (q : Rat) (lo hi : Int) : Prop :=
  ∃ (neg : Bool) (L : Value) (E : Int) (l : List Nat), v = .agg #[.bool neg, L, .int .i64 E] ∧ NS w L l ∧ Dg l ∧ q = dat neg (dv l) (16 * E) ∧ (dv l = 0 → l = []) ∧ (l = [] → E = 0 ∧ neg = false) ∧ (l ≠ [] → lo ≤ E ∧ E + l.length ≤ hi)
theorem DV.grew {w w' : World} {v : Value} {q : Rat} {lo hi : Int} (h : DV w v q lo hi) (g : Grew w w') : DV w' v q lo hi := by
  obtain ⟨neg, L, E, l, h1, h2, h3⟩ := h
  exact ⟨neg, L, E, l, h1, h2.grew g, h3⟩
theorem DV.mono {w : World} {v : Value} {q : Rat} {lo hi lo' hi' : Int} (h : DV w v q lo hi) (h1 : lo' ≤ lo) (h2 : hi ≤ hi') : DV w v q lo' hi' := by
  obtain ⟨neg, L, E, l, a1, a2, a3, a4, a5, a6, a7⟩ := h
  exact ⟨neg, L, E, l, a1, a2, a3, a4, a5, a6, fun h => by have := a7 h; omega⟩
theorem DV.shape {w : World} {v : Value} {q : Rat} {lo hi : Int} (h : DV w v q lo hi) : ∃ ng a n c E, v = .agg #[.bool ng, .slice a n c, .int .i64 E] := by
  obtain ⟨ng, L, E, l, rfl, hN, _⟩ := h
  obtain ⟨a, c, rfl⟩ := hN.shape
  exact ⟨ng, a, _, c, E, rfl⟩
theorem DV.ext {w : World} {v : Value} {q : Rat} {lo hi : Int} (h : DV w v q lo hi) (o : Array Obj) (n : Nat) : DV (Sedge.ext w o n) v q lo hi := h.grew ⟨_, _, rfl⟩
def lenOf : Value → Nat
  | .slice _ n _ => n
  | _ => 0
def dLen : Value → Nat
  | .agg a => match a[1]? with
    | some L => lenOf L
    | none => 0
  | _ => 0
/-- The block of its digits. -/
def dBlock : Value → Option Nat
  | .agg a => match a[1]? with
    | some L => L.ownBlock
    | none => none
  | _ => none
theorem _root_.Sedge.NS.setCell {w : World} {v : Value} {l : List Nat} (h : NS w v l) {b i : Nat} (hb : ∀ k, v.ownBlock = some k → k ≠ b) (u : Value) : NS (w.setCell ⟨b, i, none⟩ u) v l := by
  obtain ⟨a, cap, hv, h0, hc⟩ := h
  refine ⟨a, cap, hv, h0, fun j hj => ?_⟩
  obtain ⟨blk, o, he, h1⟩ := hc j hj
  refine ⟨blk, o, he, ?_⟩
  rw [← h1]
  have hne : blk ≠ b := hb blk (by rw [hv, he]; rfl)
  unfold World.cell?
  show (match (w.heap.modify b _)[blk]? with | some (.cells cs _ _) => _ | _ => _) = _
  rw [Array.getElem?_modify, if_neg (by omega)]
  rfl
theorem DV.setCell {w : World} {v : Value} {q : Rat} {lo hi : Int} (h : DV w v q lo hi) {b i : Nat} (hb : ∀ k, dBlock v = some k → k ≠ b) (u : Value) : DV (w.setCell ⟨b, i, none⟩ u) v q lo hi := by
  obtain ⟨neg, L, E, l, rfl, h2, h3⟩ := h
  exact ⟨neg, L, E, l, rfl, h2.setCell (fun k hk => hb k hk) u, h3⟩
theorem DV.ext_set {w : World} {v : Value} {q : Rat} {lo hi : Int} {o : Array Obj} {n : Nat} (h : DV (Sedge.ext w o n) v q lo hi) {b i : Nat} (h1 : b < w.heap.size) (hb : ∀ k, dBlock v = some k → k ≠ b) (u : Value) : DV (Sedge.ext (w.setCell ⟨b, i, none⟩ u) o n) v q lo hi := by
  rw [← setCell_ext h1]
  exact h.setCell hb u
theorem DV.ext_set3 {w : World} {v : Value} {q : Rat} {lo hi : Int} {o : Array Obj} {n : Nat} (h : DV (Sedge.ext w o n) v q lo hi) {b i j k : Nat} (h1 : b < w.heap.size) (hb : ∀ k, dBlock v = some k → k ≠ b) (x y z : Value) :
    DV (Sedge.ext (((w.setCell ⟨b, i, none⟩ x).setCell ⟨b, j, none⟩ y).setCell ⟨b, k, none⟩ z) o n) v q lo hi :=
  ((h.ext_set h1 hb x).ext_set (by simpa [size_setCell'] using h1) hb y).ext_set (by simpa [size_setCell'] using h1) hb z
theorem DV.set3 {w : World} {v : Value} {q : Rat} {lo hi : Int} (h : DV w v q lo hi) {b i j k : Nat} (hb : ∀ k, dBlock v = some k → k ≠ b) (x y z : Value) :
    DV (((w.setCell ⟨b, i, none⟩ x).setCell ⟨b, j, none⟩ y).setCell ⟨b, k, none⟩ z) v q lo hi := ((h.setCell hb x).setCell hb y).setCell hb z
theorem grew_set3 {w X : World} (g : Grew w X) {b i j k : Nat} (hb : w.heap.size ≤ b) (x y z : Value) (o : Array Obj) (n : Nat) : Grew w (Sedge.ext (((X.setCell ⟨b, i, none⟩ x).setCell ⟨b, j, none⟩ y).setCell ⟨b, k, none⟩ z) o n) :=
  (((g.setCell (a := ⟨b, i, none⟩) hb x).setCell (a := ⟨b, j, none⟩) hb y).setCell (a := ⟨b, k, none⟩) hb z).ext _ _
theorem dat_shift (neg : Bool) (l : List Nat) (E : Int) : dat neg (dv (0 :: l)) (16 * E) = dat neg (dv l) (16 * (E + 1)) := by
  unfold dat
  have e1 : ((dv (0 :: l) : Nat) : Rat) = p2 16 * (dv l : Rat) := by
    show ((0 + 65536 * dv l : Nat) : Rat) = _
    rw [Nat.zero_add, Rat.natCast_mul, show p2 16 = ((65536 : Nat) : Rat) by decide +kernel]
  have e2 : p2 (16 * (E + 1)) = p2 16 * p2 (16 * E) := by rw [← p2_add]; congr 1; omega
  rw [e1, e2]; grind
end Go.Proofs.Ytcmggfpcbijcjaa
end
