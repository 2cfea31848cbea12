/-
  Texts laid one behind the other (a claim has at most 60 files): Gemm1, GrewA, Turn1, Turn2, OwnI.
-/
import Derived.Deep.CutBlock
import Derived.Deep.DeepCutAuto
import Derived.Maps.AppendAt
import Derived.Test.YtcmggfpcbijcjaaQGemvTurns1
import Derived.Test.YtcmggfpcbijcjaaQGemvTurns2
import Derived.Test.YtcmggfpcbijcjaaQGemvTurns3
import Derived.Test.YtcmggfpcbijcjaaQGemvTurns4
import Derived.Test.YtcmggfpcbijcjaaQGemvTurns5
import Derived.Test.YtcmggfpcbijcjaaQGemvTurns6
section
/-
  Plain: columns of a matrix as vectors; gemm.check.
-/
set_option linter.unusedSimpArgs false
set_option linter.unusedVariables false
open Go Go.RowKit Sedge
namespace Go.Proofs.Ytcmggfpcbijcjaa
theorem full_withL {m : MatM} {l : List Nat} (h : l.length = m.ws.length) : MatM.full (withL m l) = MatM.full m := by
  unfold MatM.full; rw [withL_good h]; rfl
theorem meet_withL {a b : MatM} {l k : List Nat} (h1 : l.length = a.ws.length) (h2 : k.length = b.ws.length) (one : Bool) : meetM (withL a l) (withL b k) one = meetM a b one := by
  unfold meetM spanLo spanHi; rw [full_withL h1, full_withL h2]; rfl
theorem colV_right' {m : MatM} (hm : m.good = true) {j : Nat} (hj : (j : Int) < m.cols) : (colV m j).right = true := by
  by_cases h0 : 0 < m.rows
  · exact colV_right hm hj h0
  · have hn := MatM.good_n hm
    unfold VecM.right colV
    simp only [h0, if_false, Bool.and_eq_true, Bool.or_eq_true, decide_eq_true_eq]
    omega
theorem colV_wf {m : MatM} (hm : m.good = true) (hl : m.ws.length ≤ 1000000) (hw : m.wf) {j : Nat} (hj : (j : Int) < m.cols) : (colV m j).wf := by
  obtain ⟨i1, i2, i3, i4⟩ := hw
  by_cases h0 : 0 < m.rows
  · have hp := MatM.good_place hm (i := 0) (j := j) (by simpa using h0) hj
    simp only [Int.natCast_zero, Int.add_zero] at hp
    unfold VecM.wf colV
    simp only [h0, if_true]
    exact ⟨by unfold I64; omega, i2, by unfold I64; omega⟩
  · unfold VecM.wf colV
    simp only [h0, if_false]
    exact ⟨i1, i2, by unfold I64; omega⟩
theorem colV_place {m : MatM} (h0 : 0 < m.rows) (j r : Nat) : (colV m j).place r = m.place r j := by
  unfold colV VecM.place MatM.place; simp only [h0, if_true]; congr 1; omega
/-- What meets a column meets the matrix. -/
theorem meet_col {z x : MatM} {one : Bool} (hz : z.good = true) {j : Nat} (hj : (j : Int) < z.cols) (h : meetM z x one = false) : meetM (rowM (colV z j)) x one = false := by
  by_cases h0 : 0 < z.rows
  · have hg := rowM_good (colV_right' hz hj)
    have f1 : MatM.full (rowM (colV z j)) = true := by unfold MatM.full; rw [hg]; simp [rowM, colV]; omega
    have f2 : MatM.full z = true := by unfold MatM.full; rw [hz]; simp; omega
    have hn := MatM.good_n hz
    have k1 : (j : Int) * z.ld ≤ (z.cols - 1) * z.ld := Int.mul_le_mul_of_nonneg_right (by omega) (by omega)
    have k2 : 0 ≤ (j : Int) * z.ld := Int.mul_nonneg (by omega) (by omega)
    unfold meetM spanLo spanHi at h ⊢
    rw [f2] at h
    rw [f1]
    cases fx : MatM.full x
    · simp
    · rw [fx] at h
      simp [rowM, colV, h0] at h ⊢
      intro h1 h2
      have := h h1 (by omega)
      omega
  · have f1 : MatM.full (rowM (colV z j)) = false := by unfold MatM.full; have : z.rows = 0 := by have := MatM.good_n hz; omega
                                                        simp [rowM, colV, this]
    unfold meetM; rw [f1]; simp
theorem meet_comm (x y : MatM) (one : Bool) : meetM x y one = meetM y x one := by
  unfold meetM
  cases MatM.full x <;> cases MatM.full y <;> cases one <;> simp [Bool.and_comm]
/-- A column's numbers written: the matrix' list. -/
theorem hold_col {z : MatM} {L L' : List Nat} {s : Nat → Nat → Nat} {t : Nat → Nat} (hz : z.good = true) (h0 : 0 < z.rows) (hlen : L.length = z.ws.length) {j : Nat} (hj : (j : Int) < z.cols) (hH : Hold z.place z.rows.toNat z.cols.toNat z.ws L s) (hV : VH (colV (withL z L) j) L' t) :
    Hold z.place z.rows.toNat z.cols.toNat z.ws L' (fun r c => if c = j then t r else s r c) := by
  have hp := MatM.places hz
  have ep : ∀ r, (colV (withL z L) j).place r = z.place r j := fun r => colV_place (m := withL z L) h0 j r
  refine ⟨by rw [hV.len]; exact hlen, fun r c hr hc => ?_, fun q hq => ?_⟩
  · by_cases e : c = j
    · subst e
      rw [if_pos rfl, ← ep r]
      exact hV.get r (by show (r : Int) < z.rows; omega)
    · rw [if_neg e, hV.rest _ (fun r' hr' he => e (hp.inj r' j r c (by have : (r' : Int) < z.rows := hr'; omega) (by omega) hr hc (by rw [← ep r']; exact he)).2.symm)]
      exact hH.get r c hr hc
  · rw [hV.rest _ (fun r' hr' he => hq r' j (by have : (r' : Int) < z.rows := hr'; omega) (by omega) (by rw [← ep r']; exact he))]
    exact hH.rest q hq
def gemmE (x y z : MatM) (ox oy : Bool) : Int :=
  if x.good = false ∨ y.good = false ∨ z.good = false then 1 else if x.cols ≠ y.rows ∨ z.rows ≠ x.rows ∨ z.cols ≠ y.cols then 3 else if meetM z x ox = true ∨ meetM z y oy = true then 2 else 0
structure GemmC (x y z : MatM) (bx cx bz cz g cg : Nat) (gx gy gz mx my : Bool) : Prop where
  X : ∀ w', FS w' (.slice (some ⟨bx, 0, none⟩) x.ws.length cx) x.ws → Calls Try.prog 130 #[.agg #[.slice (some ⟨bx, 0, none⟩) x.ws.length cx, .int .i64 x.off, .int .i64 x.rows, .int .i64 x.cols, .int .i64 x.ld]] w' (fun e w2 => e = .returned (.bool gx) ∧ ∃ o n, w2 = ext w' o n)
  Y : ∀ w', FS w' (.slice (some ⟨bz, 0, none⟩) y.ws.length cz) y.ws → Calls Try.prog 130 #[.agg #[.slice (some ⟨bz, 0, none⟩) y.ws.length cz, .int .i64 y.off, .int .i64 y.rows, .int .i64 y.cols, .int .i64 y.ld]] w' (fun e w2 => e = .returned (.bool gy) ∧ ∃ o n, w2 = ext w' o n)
  Z : ∀ w', FS w' (.slice (some ⟨g, 0, none⟩) z.ws.length cg) z.ws → Calls Try.prog 130 #[.agg #[.slice (some ⟨g, 0, none⟩) z.ws.length cg, .int .i64 z.off, .int .i64 z.rows, .int .i64 z.cols, .int .i64 z.ld]] w' (fun e w2 => e = .returned (.bool gz) ∧ ∃ o n, w2 = ext w' o n)
  Mx : ∀ w', FS w' (.slice (some ⟨g, 0, none⟩) z.ws.length cg) z.ws → FS w' (.slice (some ⟨bx, 0, none⟩) x.ws.length cx) x.ws → Plain w' g → Plain w' bx → Calls Try.prog 136 #[.agg #[.slice (some ⟨g, 0, none⟩) z.ws.length cg, .int .i64 z.off, .int .i64 z.rows, .int .i64 z.cols, .int .i64 z.ld], .agg #[.slice (some ⟨bx, 0, none⟩) x.ws.length cx, .int .i64 x.off, .int .i64 x.rows, .int .i64 x.cols, .int .i64 x.ld]] w' (fun e w2 => e = .returned (.bool mx) ∧ ∃ o n, w2 = ext w' o n)
  My : ∀ w', FS w' (.slice (some ⟨g, 0, none⟩) z.ws.length cg) z.ws → FS w' (.slice (some ⟨bz, 0, none⟩) y.ws.length cz) y.ws → Plain w' g → Plain w' bz → Calls Try.prog 136 #[.agg #[.slice (some ⟨g, 0, none⟩) z.ws.length cg, .int .i64 z.off, .int .i64 z.rows, .int .i64 z.cols, .int .i64 z.ld], .agg #[.slice (some ⟨bz, 0, none⟩) y.ws.length cz, .int .i64 y.off, .int .i64 y.rows, .int .i64 y.cols, .int .i64 y.ld]] w' (fun e w2 => e = .returned (.bool my) ∧ ∃ o n, w2 = ext w' o n)
theorem gemmC (x y z : MatM) (bx cx bz cz g cg : Nat) (hwx : x.wf) (hwy : y.wf) (hwz : z.wf) (hlx : x.ws.length ≤ 1000000) (hly : y.ws.length ≤ 1000000) (hlz : z.ws.length ≤ 1000000) :
    GemmC x y z bx cx bz cz g cg x.good y.good z.good (meetM z x (decide (g = bx))) (meetM z y (decide (g = bz))) where
  X := fun w' h => good_any x _ w' h hwx
  Y := fun w' h => good_any y _ w' h hwy
  Z := fun w' h => good_any z _ w' h hwz
  Mx := fun w' h1 h2 p1 p2 => meetM_any z x g bx cg cx w' h1 h2 p1 p2 hwz hwx hlz hlx
  My := fun w' h1 h2 p1 p2 => meetM_any z y g bz cg cz w' h1 h2 p1 p2 hwz hwy hlz hly
set_option maxRecDepth 100000 in
set_option maxHeartbeats 4000000 in
theorem gcheck_1 (x y z : MatM) (bx cx bz cz g cg : Nat) (w : World) (hX : FS w (.slice (some ⟨bx, 0, none⟩) x.ws.length cx) x.ws) (hY : FS w (.slice (some ⟨bz, 0, none⟩) y.ws.length cz) y.ws) (hZ : FS w (.slice (some ⟨g, 0, none⟩) z.ws.length cg) z.ws) (hPx : Plain w bx) (hPy : Plain w bz) (hPz : Plain w g) (gy gz mx my : Bool) (H : GemmC x y z bx cx bz cz g cg false gy gz mx my) : Calls Try.prog 148 #[.agg #[.slice (some ⟨bx, 0, none⟩) x.ws.length cx, .int .i64 x.off, .int .i64 x.rows, .int .i64 x.cols, .int .i64 x.ld], .agg #[.slice (some ⟨bz, 0, none⟩) y.ws.length cz, .int .i64 y.off, .int .i64 y.rows, .int .i64 y.cols, .int .i64 y.ld], .agg #[.slice (some ⟨g, 0, none⟩) z.ws.length cg, .int .i64 z.off, .int .i64 z.rows, .int .i64 z.cols, .int .i64 z.ld]] w (fun e w' => e = .returned (.int .i64 1) ∧ ∃ o n, w' = ext w o n) := by
  go_enter Try.func148, Try.ntmps148
  refine seq_stop ?_
  go_wp2
  refine stop_go (fun W hW => ?_)
  have s1 : w.heap.size < W.heap.size := by rw [hW]; simp only [World.size_alloc]; omega
  have b1 : ∀ i, W.cell? ⟨w.heap.size, i, none⟩ = (#[.slice (some ⟨bx, 0, none⟩) x.ws.length cx, .int .i64 x.off, .int .i64 x.rows, .int .i64 x.cols, .int .i64 x.ld] : Array Value)[i]? := by intro i; rw [hW]; go_simp
  have s2 : w.heap.size + 1 < W.heap.size := by rw [hW]; simp only [World.size_alloc]; omega
  have b2 : ∀ i, W.cell? ⟨w.heap.size + 1, i, none⟩ = (#[.slice (some ⟨bz, 0, none⟩) y.ws.length cz, .int .i64 y.off, .int .i64 y.rows, .int .i64 y.cols, .int .i64 y.ld] : Array Value)[i]? := by intro i; rw [hW]; go_simp
  have s3 : w.heap.size + 1 + 1 < W.heap.size := by rw [hW]; simp only [World.size_alloc]; omega
  have b3 : ∀ i, W.cell? ⟨w.heap.size + 1 + 1, i, none⟩ = (#[.slice (some ⟨g, 0, none⟩) z.ws.length cg, .int .i64 z.off, .int .i64 z.rows, .int .i64 z.cols, .int .i64 z.ld] : Array Value)[i]? := by intro i; rw [hW]; go_simp
  have g0 : Grew w W := by rw [hW]; exact (((Grew.refl _).alloc _).alloc _).alloc _
  clear hW
  have hXW := hX.grew g0
  have hYW := hY.grew g0
  have hZW := hZ.grew g0
  go_wp2_with (first | (go_at_call 130; ((with_reducible refine (H.X _ ?_).mono ?_); (focus (first | (with_reducible assumption) | (with_reducible refine FS.ext ?_ _ _; with_reducible assumption) | (with_reducible refine IS.ext ?_ _ _; with_reducible assumption) | (refine hDu _ ?_; with_reducible assumption) | (refine hOu _ ?_; with_reducible assumption) | (refine hDa _ ?_; with_reducible assumption) | (refine hDb _ ?_; with_reducible assumption) | (refine hDc _ ?_; with_reducible assumption) | (refine hDd _ ?_; with_reducible assumption) | (refine FW.fs ?_ (by omega) _; with_reducible assumption) | (refine WS.fs ?_; with_reducible assumption) | (refine FW.fs ?_ (by omega) _; assumption) | omega | assumption)); rintro e w1 ⟨rfl, oa, na, rfl⟩)) | (go_at_call 130; ((with_reducible refine (H.Y _ ?_).mono ?_); (focus (first | (with_reducible assumption) | (with_reducible refine FS.ext ?_ _ _; with_reducible assumption) | (with_reducible refine IS.ext ?_ _ _; with_reducible assumption) | (refine hDu _ ?_; with_reducible assumption) | (refine hOu _ ?_; with_reducible assumption) | (refine hDa _ ?_; with_reducible assumption) | (refine hDb _ ?_; with_reducible assumption) | (refine hDc _ ?_; with_reducible assumption) | (refine hDd _ ?_; with_reducible assumption) | (refine FW.fs ?_ (by omega) _; with_reducible assumption) | (refine WS.fs ?_; with_reducible assumption) | (refine FW.fs ?_ (by omega) _; assumption) | omega | assumption)); rintro e w1 ⟨rfl, ob, nb, rfl⟩)) | (go_at_call 130; ((with_reducible refine (H.Z _ ?_).mono ?_); (focus (first | (with_reducible assumption) | (with_reducible refine FS.ext ?_ _ _; with_reducible assumption) | (with_reducible refine IS.ext ?_ _ _; with_reducible assumption) | (refine hDu _ ?_; with_reducible assumption) | (refine hOu _ ?_; with_reducible assumption) | (refine hDa _ ?_; with_reducible assumption) | (refine hDb _ ?_; with_reducible assumption) | (refine hDc _ ?_; with_reducible assumption) | (refine hDd _ ?_; with_reducible assumption) | (refine FW.fs ?_ (by omega) _; with_reducible assumption) | (refine WS.fs ?_; with_reducible assumption) | (refine FW.fs ?_ (by omega) _; assumption) | omega | assumption)); rintro e w1 ⟨rfl, oc, nc, rfl⟩)) | (go_at_call 136; ((with_reducible refine (H.Mx _ ?_ ?_ (hPz.grew (by (show Grew _ _; repeat (first | (with_reducible exact Grew.refl _) | (with_reducible assumption) | (with_reducible exact Grew.same_o) | (with_reducible exact Grew.app_o) | (with_reducible refine Grew.ext ?_ _ _) | (with_reducible refine Grew.alloc ?_ _) | ((with_reducible refine Grew.setCell ?_ ?_ _); rotate_left; (focus (dsimp only; first | omega | (simp only [size_ext, World.size_alloc, Array.size_append]; omega)))) | (with_reducible refine Grew.drewN ?_ _) | (with_reducible refine Grew.drew ?_))))) (hPx.grew (by (show Grew _ _; repeat (first | (with_reducible exact Grew.refl _) | (with_reducible assumption) | (with_reducible exact Grew.same_o) | (with_reducible exact Grew.app_o) | (with_reducible refine Grew.ext ?_ _ _) | (with_reducible refine Grew.alloc ?_ _) | ((with_reducible refine Grew.setCell ?_ ?_ _); rotate_left; (focus (dsimp only; first | omega | (simp only [size_ext, World.size_alloc, Array.size_append]; omega)))) | (with_reducible refine Grew.drewN ?_ _) | (with_reducible refine Grew.drew ?_)))))).mono ?_); (focus (first | (with_reducible assumption) | (with_reducible refine FS.ext ?_ _ _; with_reducible assumption) | (with_reducible refine IS.ext ?_ _ _; with_reducible assumption) | (refine hDu _ ?_; with_reducible assumption) | (refine hOu _ ?_; with_reducible assumption) | (refine hDa _ ?_; with_reducible assumption) | (refine hDb _ ?_; with_reducible assumption) | (refine hDc _ ?_; with_reducible assumption) | (refine hDd _ ?_; with_reducible assumption) | (refine FW.fs ?_ (by omega) _; with_reducible assumption) | (refine WS.fs ?_; with_reducible assumption) | (refine FW.fs ?_ (by omega) _; assumption) | omega | assumption)); (focus (first | (with_reducible assumption) | (with_reducible refine FS.ext ?_ _ _; with_reducible assumption) | (with_reducible refine IS.ext ?_ _ _; with_reducible assumption) | (refine hDu _ ?_; with_reducible assumption) | (refine hOu _ ?_; with_reducible assumption) | (refine hDa _ ?_; with_reducible assumption) | (refine hDb _ ?_; with_reducible assumption) | (refine hDc _ ?_; with_reducible assumption) | (refine hDd _ ?_; with_reducible assumption) | (refine FW.fs ?_ (by omega) _; with_reducible assumption) | (refine WS.fs ?_; with_reducible assumption) | (refine FW.fs ?_ (by omega) _; assumption) | omega | assumption)); rintro e w1 ⟨rfl, oe, ne, rfl⟩)) | (go_at_call 136; ((with_reducible refine (H.My _ ?_ ?_ (hPz.grew (by (show Grew _ _; repeat (first | (with_reducible exact Grew.refl _) | (with_reducible assumption) | (with_reducible exact Grew.same_o) | (with_reducible exact Grew.app_o) | (with_reducible refine Grew.ext ?_ _ _) | (with_reducible refine Grew.alloc ?_ _) | ((with_reducible refine Grew.setCell ?_ ?_ _); rotate_left; (focus (dsimp only; first | omega | (simp only [size_ext, World.size_alloc, Array.size_append]; omega)))) | (with_reducible refine Grew.drewN ?_ _) | (with_reducible refine Grew.drew ?_))))) (hPy.grew (by (show Grew _ _; repeat (first | (with_reducible exact Grew.refl _) | (with_reducible assumption) | (with_reducible exact Grew.same_o) | (with_reducible exact Grew.app_o) | (with_reducible refine Grew.ext ?_ _ _) | (with_reducible refine Grew.alloc ?_ _) | ((with_reducible refine Grew.setCell ?_ ?_ _); rotate_left; (focus (dsimp only; first | omega | (simp only [size_ext, World.size_alloc, Array.size_append]; omega)))) | (with_reducible refine Grew.drewN ?_ _) | (with_reducible refine Grew.drew ?_)))))).mono ?_); (focus (first | (with_reducible assumption) | (with_reducible refine FS.ext ?_ _ _; with_reducible assumption) | (with_reducible refine IS.ext ?_ _ _; with_reducible assumption) | (refine hDu _ ?_; with_reducible assumption) | (refine hOu _ ?_; with_reducible assumption) | (refine hDa _ ?_; with_reducible assumption) | (refine hDb _ ?_; with_reducible assumption) | (refine hDc _ ?_; with_reducible assumption) | (refine hDd _ ?_; with_reducible assumption) | (refine FW.fs ?_ (by omega) _; with_reducible assumption) | (refine WS.fs ?_; with_reducible assumption) | (refine FW.fs ?_ (by omega) _; assumption) | omega | assumption)); (focus (first | (with_reducible assumption) | (with_reducible refine FS.ext ?_ _ _; with_reducible assumption) | (with_reducible refine IS.ext ?_ _ _; with_reducible assumption) | (refine hDu _ ?_; with_reducible assumption) | (refine hOu _ ?_; with_reducible assumption) | (refine hDa _ ?_; with_reducible assumption) | (refine hDb _ ?_; with_reducible assumption) | (refine hDc _ ?_; with_reducible assumption) | (refine hDd _ ?_; with_reducible assumption) | (refine FW.fs ?_ (by omega) _; with_reducible assumption) | (refine WS.fs ?_; with_reducible assumption) | (refine FW.fs ?_ (by omega) _; assumption) | omega | assumption)); rintro e w1 ⟨rfl, of, nf, rfl⟩)))
  go_ret
  exact ⟨rfl, by (show Grew _ _; repeat (first | (with_reducible exact Grew.refl _) | (with_reducible assumption) | (with_reducible exact Grew.same_o) | (with_reducible exact Grew.app_o) | (with_reducible refine Grew.ext ?_ _ _) | (with_reducible refine Grew.alloc ?_ _) | ((with_reducible refine Grew.setCell ?_ ?_ _); rotate_left; (focus (dsimp only; first | omega | (simp only [size_ext, World.size_alloc, Array.size_append]; omega)))) | (with_reducible refine Grew.drewN ?_ _) | (with_reducible refine Grew.drew ?_)))⟩
set_option maxRecDepth 100000 in
set_option maxHeartbeats 4000000 in
theorem gcheck_2 (x y z : MatM) (bx cx bz cz g cg : Nat) (w : World) (hX : FS w (.slice (some ⟨bx, 0, none⟩) x.ws.length cx) x.ws) (hY : FS w (.slice (some ⟨bz, 0, none⟩) y.ws.length cz) y.ws) (hZ : FS w (.slice (some ⟨g, 0, none⟩) z.ws.length cg) z.ws) (hPx : Plain w bx) (hPy : Plain w bz) (hPz : Plain w g) (gz mx my : Bool) (H : GemmC x y z bx cx bz cz g cg true false gz mx my) : Calls Try.prog 148 #[.agg #[.slice (some ⟨bx, 0, none⟩) x.ws.length cx, .int .i64 x.off, .int .i64 x.rows, .int .i64 x.cols, .int .i64 x.ld], .agg #[.slice (some ⟨bz, 0, none⟩) y.ws.length cz, .int .i64 y.off, .int .i64 y.rows, .int .i64 y.cols, .int .i64 y.ld], .agg #[.slice (some ⟨g, 0, none⟩) z.ws.length cg, .int .i64 z.off, .int .i64 z.rows, .int .i64 z.cols, .int .i64 z.ld]] w (fun e w' => e = .returned (.int .i64 1) ∧ ∃ o n, w' = ext w o n) := by
  go_enter Try.func148, Try.ntmps148
  refine seq_stop ?_
  go_wp2
  refine stop_go (fun W hW => ?_)
  have s1 : w.heap.size < W.heap.size := by rw [hW]; simp only [World.size_alloc]; omega
  have b1 : ∀ i, W.cell? ⟨w.heap.size, i, none⟩ = (#[.slice (some ⟨bx, 0, none⟩) x.ws.length cx, .int .i64 x.off, .int .i64 x.rows, .int .i64 x.cols, .int .i64 x.ld] : Array Value)[i]? := by intro i; rw [hW]; go_simp
  have s2 : w.heap.size + 1 < W.heap.size := by rw [hW]; simp only [World.size_alloc]; omega
  have b2 : ∀ i, W.cell? ⟨w.heap.size + 1, i, none⟩ = (#[.slice (some ⟨bz, 0, none⟩) y.ws.length cz, .int .i64 y.off, .int .i64 y.rows, .int .i64 y.cols, .int .i64 y.ld] : Array Value)[i]? := by intro i; rw [hW]; go_simp
  have s3 : w.heap.size + 1 + 1 < W.heap.size := by rw [hW]; simp only [World.size_alloc]; omega
  have b3 : ∀ i, W.cell? ⟨w.heap.size + 1 + 1, i, none⟩ = (#[.slice (some ⟨g, 0, none⟩) z.ws.length cg, .int .i64 z.off, .int .i64 z.rows, .int .i64 z.cols, .int .i64 z.ld] : Array Value)[i]? := by intro i; rw [hW]; go_simp
  have g0 : Grew w W := by rw [hW]; exact (((Grew.refl _).alloc _).alloc _).alloc _
  clear hW
  have hXW := hX.grew g0
  have hYW := hY.grew g0
  have hZW := hZ.grew g0
  go_wp2_with (first | (go_at_call 130; ((with_reducible refine (H.X _ ?_).mono ?_); (focus (first | (with_reducible assumption) | (with_reducible refine FS.ext ?_ _ _; with_reducible assumption) | (with_reducible refine IS.ext ?_ _ _; with_reducible assumption) | (refine hDu _ ?_; with_reducible assumption) | (refine hOu _ ?_; with_reducible assumption) | (refine hDa _ ?_; with_reducible assumption) | (refine hDb _ ?_; with_reducible assumption) | (refine hDc _ ?_; with_reducible assumption) | (refine hDd _ ?_; with_reducible assumption) | (refine FW.fs ?_ (by omega) _; with_reducible assumption) | (refine WS.fs ?_; with_reducible assumption) | (refine FW.fs ?_ (by omega) _; assumption) | omega | assumption)); rintro e w1 ⟨rfl, oa, na, rfl⟩)) | (go_at_call 130; ((with_reducible refine (H.Y _ ?_).mono ?_); (focus (first | (with_reducible assumption) | (with_reducible refine FS.ext ?_ _ _; with_reducible assumption) | (with_reducible refine IS.ext ?_ _ _; with_reducible assumption) | (refine hDu _ ?_; with_reducible assumption) | (refine hOu _ ?_; with_reducible assumption) | (refine hDa _ ?_; with_reducible assumption) | (refine hDb _ ?_; with_reducible assumption) | (refine hDc _ ?_; with_reducible assumption) | (refine hDd _ ?_; with_reducible assumption) | (refine FW.fs ?_ (by omega) _; with_reducible assumption) | (refine WS.fs ?_; with_reducible assumption) | (refine FW.fs ?_ (by omega) _; assumption) | omega | assumption)); rintro e w1 ⟨rfl, ob, nb, rfl⟩)) | (go_at_call 130; ((with_reducible refine (H.Z _ ?_).mono ?_); (focus (first | (with_reducible assumption) | (with_reducible refine FS.ext ?_ _ _; with_reducible assumption) | (with_reducible refine IS.ext ?_ _ _; with_reducible assumption) | (refine hDu _ ?_; with_reducible assumption) | (refine hOu _ ?_; with_reducible assumption) | (refine hDa _ ?_; with_reducible assumption) | (refine hDb _ ?_; with_reducible assumption) | (refine hDc _ ?_; with_reducible assumption) | (refine hDd _ ?_; with_reducible assumption) | (refine FW.fs ?_ (by omega) _; with_reducible assumption) | (refine WS.fs ?_; with_reducible assumption) | (refine FW.fs ?_ (by omega) _; assumption) | omega | assumption)); rintro e w1 ⟨rfl, oc, nc, rfl⟩)) | (go_at_call 136; ((with_reducible refine (H.Mx _ ?_ ?_ (hPz.grew (by (show Grew _ _; repeat (first | (with_reducible exact Grew.refl _) | (with_reducible assumption) | (with_reducible exact Grew.same_o) | (with_reducible exact Grew.app_o) | (with_reducible refine Grew.ext ?_ _ _) | (with_reducible refine Grew.alloc ?_ _) | ((with_reducible refine Grew.setCell ?_ ?_ _); rotate_left; (focus (dsimp only; first | omega | (simp only [size_ext, World.size_alloc, Array.size_append]; omega)))) | (with_reducible refine Grew.drewN ?_ _) | (with_reducible refine Grew.drew ?_))))) (hPx.grew (by (show Grew _ _; repeat (first | (with_reducible exact Grew.refl _) | (with_reducible assumption) | (with_reducible exact Grew.same_o) | (with_reducible exact Grew.app_o) | (with_reducible refine Grew.ext ?_ _ _) | (with_reducible refine Grew.alloc ?_ _) | ((with_reducible refine Grew.setCell ?_ ?_ _); rotate_left; (focus (dsimp only; first | omega | (simp only [size_ext, World.size_alloc, Array.size_append]; omega)))) | (with_reducible refine Grew.drewN ?_ _) | (with_reducible refine Grew.drew ?_)))))).mono ?_); (focus (first | (with_reducible assumption) | (with_reducible refine FS.ext ?_ _ _; with_reducible assumption) | (with_reducible refine IS.ext ?_ _ _; with_reducible assumption) | (refine hDu _ ?_; with_reducible assumption) | (refine hOu _ ?_; with_reducible assumption) | (refine hDa _ ?_; with_reducible assumption) | (refine hDb _ ?_; with_reducible assumption) | (refine hDc _ ?_; with_reducible assumption) | (refine hDd _ ?_; with_reducible assumption) | (refine FW.fs ?_ (by omega) _; with_reducible assumption) | (refine WS.fs ?_; with_reducible assumption) | (refine FW.fs ?_ (by omega) _; assumption) | omega | assumption)); (focus (first | (with_reducible assumption) | (with_reducible refine FS.ext ?_ _ _; with_reducible assumption) | (with_reducible refine IS.ext ?_ _ _; with_reducible assumption) | (refine hDu _ ?_; with_reducible assumption) | (refine hOu _ ?_; with_reducible assumption) | (refine hDa _ ?_; with_reducible assumption) | (refine hDb _ ?_; with_reducible assumption) | (refine hDc _ ?_; with_reducible assumption) | (refine hDd _ ?_; with_reducible assumption) | (refine FW.fs ?_ (by omega) _; with_reducible assumption) | (refine WS.fs ?_; with_reducible assumption) | (refine FW.fs ?_ (by omega) _; assumption) | omega | assumption)); rintro e w1 ⟨rfl, oe, ne, rfl⟩)) | (go_at_call 136; ((with_reducible refine (H.My _ ?_ ?_ (hPz.grew (by (show Grew _ _; repeat (first | (with_reducible exact Grew.refl _) | (with_reducible assumption) | (with_reducible exact Grew.same_o) | (with_reducible exact Grew.app_o) | (with_reducible refine Grew.ext ?_ _ _) | (with_reducible refine Grew.alloc ?_ _) | ((with_reducible refine Grew.setCell ?_ ?_ _); rotate_left; (focus (dsimp only; first | omega | (simp only [size_ext, World.size_alloc, Array.size_append]; omega)))) | (with_reducible refine Grew.drewN ?_ _) | (with_reducible refine Grew.drew ?_))))) (hPy.grew (by (show Grew _ _; repeat (first | (with_reducible exact Grew.refl _) | (with_reducible assumption) | (with_reducible exact Grew.same_o) | (with_reducible exact Grew.app_o) | (with_reducible refine Grew.ext ?_ _ _) | (with_reducible refine Grew.alloc ?_ _) | ((with_reducible refine Grew.setCell ?_ ?_ _); rotate_left; (focus (dsimp only; first | omega | (simp only [size_ext, World.size_alloc, Array.size_append]; omega)))) | (with_reducible refine Grew.drewN ?_ _) | (with_reducible refine Grew.drew ?_)))))).mono ?_); (focus (first | (with_reducible assumption) | (with_reducible refine FS.ext ?_ _ _; with_reducible assumption) | (with_reducible refine IS.ext ?_ _ _; with_reducible assumption) | (refine hDu _ ?_; with_reducible assumption) | (refine hOu _ ?_; with_reducible assumption) | (refine hDa _ ?_; with_reducible assumption) | (refine hDb _ ?_; with_reducible assumption) | (refine hDc _ ?_; with_reducible assumption) | (refine hDd _ ?_; with_reducible assumption) | (refine FW.fs ?_ (by omega) _; with_reducible assumption) | (refine WS.fs ?_; with_reducible assumption) | (refine FW.fs ?_ (by omega) _; assumption) | omega | assumption)); (focus (first | (with_reducible assumption) | (with_reducible refine FS.ext ?_ _ _; with_reducible assumption) | (with_reducible refine IS.ext ?_ _ _; with_reducible assumption) | (refine hDu _ ?_; with_reducible assumption) | (refine hOu _ ?_; with_reducible assumption) | (refine hDa _ ?_; with_reducible assumption) | (refine hDb _ ?_; with_reducible assumption) | (refine hDc _ ?_; with_reducible assumption) | (refine hDd _ ?_; with_reducible assumption) | (refine FW.fs ?_ (by omega) _; with_reducible assumption) | (refine WS.fs ?_; with_reducible assumption) | (refine FW.fs ?_ (by omega) _; assumption) | omega | assumption)); rintro e w1 ⟨rfl, of, nf, rfl⟩)))
  go_ret
  exact ⟨rfl, by (show Grew _ _; repeat (first | (with_reducible exact Grew.refl _) | (with_reducible assumption) | (with_reducible exact Grew.same_o) | (with_reducible exact Grew.app_o) | (with_reducible refine Grew.ext ?_ _ _) | (with_reducible refine Grew.alloc ?_ _) | ((with_reducible refine Grew.setCell ?_ ?_ _); rotate_left; (focus (dsimp only; first | omega | (simp only [size_ext, World.size_alloc, Array.size_append]; omega)))) | (with_reducible refine Grew.drewN ?_ _) | (with_reducible refine Grew.drew ?_)))⟩
set_option maxRecDepth 100000 in
set_option maxHeartbeats 4000000 in
theorem gcheck_3 (x y z : MatM) (bx cx bz cz g cg : Nat) (w : World) (hX : FS w (.slice (some ⟨bx, 0, none⟩) x.ws.length cx) x.ws) (hY : FS w (.slice (some ⟨bz, 0, none⟩) y.ws.length cz) y.ws) (hZ : FS w (.slice (some ⟨g, 0, none⟩) z.ws.length cg) z.ws) (hPx : Plain w bx) (hPy : Plain w bz) (hPz : Plain w g) (mx my : Bool) (H : GemmC x y z bx cx bz cz g cg true true false mx my) : Calls Try.prog 148 #[.agg #[.slice (some ⟨bx, 0, none⟩) x.ws.length cx, .int .i64 x.off, .int .i64 x.rows, .int .i64 x.cols, .int .i64 x.ld], .agg #[.slice (some ⟨bz, 0, none⟩) y.ws.length cz, .int .i64 y.off, .int .i64 y.rows, .int .i64 y.cols, .int .i64 y.ld], .agg #[.slice (some ⟨g, 0, none⟩) z.ws.length cg, .int .i64 z.off, .int .i64 z.rows, .int .i64 z.cols, .int .i64 z.ld]] w (fun e w' => e = .returned (.int .i64 1) ∧ ∃ o n, w' = ext w o n) := by
  go_enter Try.func148, Try.ntmps148
  refine seq_stop ?_
  go_wp2
  refine stop_go (fun W hW => ?_)
  have s1 : w.heap.size < W.heap.size := by rw [hW]; simp only [World.size_alloc]; omega
  have b1 : ∀ i, W.cell? ⟨w.heap.size, i, none⟩ = (#[.slice (some ⟨bx, 0, none⟩) x.ws.length cx, .int .i64 x.off, .int .i64 x.rows, .int .i64 x.cols, .int .i64 x.ld] : Array Value)[i]? := by intro i; rw [hW]; go_simp
  have s2 : w.heap.size + 1 < W.heap.size := by rw [hW]; simp only [World.size_alloc]; omega
  have b2 : ∀ i, W.cell? ⟨w.heap.size + 1, i, none⟩ = (#[.slice (some ⟨bz, 0, none⟩) y.ws.length cz, .int .i64 y.off, .int .i64 y.rows, .int .i64 y.cols, .int .i64 y.ld] : Array Value)[i]? := by intro i; rw [hW]; go_simp
  have s3 : w.heap.size + 1 + 1 < W.heap.size := by rw [hW]; simp only [World.size_alloc]; omega
  have b3 : ∀ i, W.cell? ⟨w.heap.size + 1 + 1, i, none⟩ = (#[.slice (some ⟨g, 0, none⟩) z.ws.length cg, .int .i64 z.off, .int .i64 z.rows, .int .i64 z.cols, .int .i64 z.ld] : Array Value)[i]? := by intro i; rw [hW]; go_simp
  have g0 : Grew w W := by rw [hW]; exact (((Grew.refl _).alloc _).alloc _).alloc _
  clear hW
  have hXW := hX.grew g0
  have hYW := hY.grew g0
  have hZW := hZ.grew g0
  go_wp2_with (first | (go_at_call 130; ((with_reducible refine (H.X _ ?_).mono ?_); (focus (first | (with_reducible assumption) | (with_reducible refine FS.ext ?_ _ _; with_reducible assumption) | (with_reducible refine IS.ext ?_ _ _; with_reducible assumption) | (refine hDu _ ?_; with_reducible assumption) | (refine hOu _ ?_; with_reducible assumption) | (refine hDa _ ?_; with_reducible assumption) | (refine hDb _ ?_; with_reducible assumption) | (refine hDc _ ?_; with_reducible assumption) | (refine hDd _ ?_; with_reducible assumption) | (refine FW.fs ?_ (by omega) _; with_reducible assumption) | (refine WS.fs ?_; with_reducible assumption) | (refine FW.fs ?_ (by omega) _; assumption) | omega | assumption)); rintro e w1 ⟨rfl, oa, na, rfl⟩)) | (go_at_call 130; ((with_reducible refine (H.Y _ ?_).mono ?_); (focus (first | (with_reducible assumption) | (with_reducible refine FS.ext ?_ _ _; with_reducible assumption) | (with_reducible refine IS.ext ?_ _ _; with_reducible assumption) | (refine hDu _ ?_; with_reducible assumption) | (refine hOu _ ?_; with_reducible assumption) | (refine hDa _ ?_; with_reducible assumption) | (refine hDb _ ?_; with_reducible assumption) | (refine hDc _ ?_; with_reducible assumption) | (refine hDd _ ?_; with_reducible assumption) | (refine FW.fs ?_ (by omega) _; with_reducible assumption) | (refine WS.fs ?_; with_reducible assumption) | (refine FW.fs ?_ (by omega) _; assumption) | omega | assumption)); rintro e w1 ⟨rfl, ob, nb, rfl⟩)) | (go_at_call 130; ((with_reducible refine (H.Z _ ?_).mono ?_); (focus (first | (with_reducible assumption) | (with_reducible refine FS.ext ?_ _ _; with_reducible assumption) | (with_reducible refine IS.ext ?_ _ _; with_reducible assumption) | (refine hDu _ ?_; with_reducible assumption) | (refine hOu _ ?_; with_reducible assumption) | (refine hDa _ ?_; with_reducible assumption) | (refine hDb _ ?_; with_reducible assumption) | (refine hDc _ ?_; with_reducible assumption) | (refine hDd _ ?_; with_reducible assumption) | (refine FW.fs ?_ (by omega) _; with_reducible assumption) | (refine WS.fs ?_; with_reducible assumption) | (refine FW.fs ?_ (by omega) _; assumption) | omega | assumption)); rintro e w1 ⟨rfl, oc, nc, rfl⟩)) | (go_at_call 136; ((with_reducible refine (H.Mx _ ?_ ?_ (hPz.grew (by (show Grew _ _; repeat (first | (with_reducible exact Grew.refl _) | (with_reducible assumption) | (with_reducible exact Grew.same_o) | (with_reducible exact Grew.app_o) | (with_reducible refine Grew.ext ?_ _ _) | (with_reducible refine Grew.alloc ?_ _) | ((with_reducible refine Grew.setCell ?_ ?_ _); rotate_left; (focus (dsimp only; first | omega | (simp only [size_ext, World.size_alloc, Array.size_append]; omega)))) | (with_reducible refine Grew.drewN ?_ _) | (with_reducible refine Grew.drew ?_))))) (hPx.grew (by (show Grew _ _; repeat (first | (with_reducible exact Grew.refl _) | (with_reducible assumption) | (with_reducible exact Grew.same_o) | (with_reducible exact Grew.app_o) | (with_reducible refine Grew.ext ?_ _ _) | (with_reducible refine Grew.alloc ?_ _) | ((with_reducible refine Grew.setCell ?_ ?_ _); rotate_left; (focus (dsimp only; first | omega | (simp only [size_ext, World.size_alloc, Array.size_append]; omega)))) | (with_reducible refine Grew.drewN ?_ _) | (with_reducible refine Grew.drew ?_)))))).mono ?_); (focus (first | (with_reducible assumption) | (with_reducible refine FS.ext ?_ _ _; with_reducible assumption) | (with_reducible refine IS.ext ?_ _ _; with_reducible assumption) | (refine hDu _ ?_; with_reducible assumption) | (refine hOu _ ?_; with_reducible assumption) | (refine hDa _ ?_; with_reducible assumption) | (refine hDb _ ?_; with_reducible assumption) | (refine hDc _ ?_; with_reducible assumption) | (refine hDd _ ?_; with_reducible assumption) | (refine FW.fs ?_ (by omega) _; with_reducible assumption) | (refine WS.fs ?_; with_reducible assumption) | (refine FW.fs ?_ (by omega) _; assumption) | omega | assumption)); (focus (first | (with_reducible assumption) | (with_reducible refine FS.ext ?_ _ _; with_reducible assumption) | (with_reducible refine IS.ext ?_ _ _; with_reducible assumption) | (refine hDu _ ?_; with_reducible assumption) | (refine hOu _ ?_; with_reducible assumption) | (refine hDa _ ?_; with_reducible assumption) | (refine hDb _ ?_; with_reducible assumption) | (refine hDc _ ?_; with_reducible assumption) | (refine hDd _ ?_; with_reducible assumption) | (refine FW.fs ?_ (by omega) _; with_reducible assumption) | (refine WS.fs ?_; with_reducible assumption) | (refine FW.fs ?_ (by omega) _; assumption) | omega | assumption)); rintro e w1 ⟨rfl, oe, ne, rfl⟩)) | (go_at_call 136; ((with_reducible refine (H.My _ ?_ ?_ (hPz.grew (by (show Grew _ _; repeat (first | (with_reducible exact Grew.refl _) | (with_reducible assumption) | (with_reducible exact Grew.same_o) | (with_reducible exact Grew.app_o) | (with_reducible refine Grew.ext ?_ _ _) | (with_reducible refine Grew.alloc ?_ _) | ((with_reducible refine Grew.setCell ?_ ?_ _); rotate_left; (focus (dsimp only; first | omega | (simp only [size_ext, World.size_alloc, Array.size_append]; omega)))) | (with_reducible refine Grew.drewN ?_ _) | (with_reducible refine Grew.drew ?_))))) (hPy.grew (by (show Grew _ _; repeat (first | (with_reducible exact Grew.refl _) | (with_reducible assumption) | (with_reducible exact Grew.same_o) | (with_reducible exact Grew.app_o) | (with_reducible refine Grew.ext ?_ _ _) | (with_reducible refine Grew.alloc ?_ _) | ((with_reducible refine Grew.setCell ?_ ?_ _); rotate_left; (focus (dsimp only; first | omega | (simp only [size_ext, World.size_alloc, Array.size_append]; omega)))) | (with_reducible refine Grew.drewN ?_ _) | (with_reducible refine Grew.drew ?_)))))).mono ?_); (focus (first | (with_reducible assumption) | (with_reducible refine FS.ext ?_ _ _; with_reducible assumption) | (with_reducible refine IS.ext ?_ _ _; with_reducible assumption) | (refine hDu _ ?_; with_reducible assumption) | (refine hOu _ ?_; with_reducible assumption) | (refine hDa _ ?_; with_reducible assumption) | (refine hDb _ ?_; with_reducible assumption) | (refine hDc _ ?_; with_reducible assumption) | (refine hDd _ ?_; with_reducible assumption) | (refine FW.fs ?_ (by omega) _; with_reducible assumption) | (refine WS.fs ?_; with_reducible assumption) | (refine FW.fs ?_ (by omega) _; assumption) | omega | assumption)); (focus (first | (with_reducible assumption) | (with_reducible refine FS.ext ?_ _ _; with_reducible assumption) | (with_reducible refine IS.ext ?_ _ _; with_reducible assumption) | (refine hDu _ ?_; with_reducible assumption) | (refine hOu _ ?_; with_reducible assumption) | (refine hDa _ ?_; with_reducible assumption) | (refine hDb _ ?_; with_reducible assumption) | (refine hDc _ ?_; with_reducible assumption) | (refine hDd _ ?_; with_reducible assumption) | (refine FW.fs ?_ (by omega) _; with_reducible assumption) | (refine WS.fs ?_; with_reducible assumption) | (refine FW.fs ?_ (by omega) _; assumption) | omega | assumption)); rintro e w1 ⟨rfl, of, nf, rfl⟩)))
  go_ret
  exact ⟨rfl, by (show Grew _ _; repeat (first | (with_reducible exact Grew.refl _) | (with_reducible assumption) | (with_reducible exact Grew.same_o) | (with_reducible exact Grew.app_o) | (with_reducible refine Grew.ext ?_ _ _) | (with_reducible refine Grew.alloc ?_ _) | ((with_reducible refine Grew.setCell ?_ ?_ _); rotate_left; (focus (dsimp only; first | omega | (simp only [size_ext, World.size_alloc, Array.size_append]; omega)))) | (with_reducible refine Grew.drewN ?_ _) | (with_reducible refine Grew.drew ?_)))⟩
set_option maxRecDepth 100000 in
set_option maxHeartbeats 4000000 in
theorem gcheck_4 (x y z : MatM) (bx cx bz cz g cg : Nat) (w : World) (hX : FS w (.slice (some ⟨bx, 0, none⟩) x.ws.length cx) x.ws) (hY : FS w (.slice (some ⟨bz, 0, none⟩) y.ws.length cz) y.ws) (hZ : FS w (.slice (some ⟨g, 0, none⟩) z.ws.length cg) z.ws) (hPx : Plain w bx) (hPy : Plain w bz) (hPz : Plain w g) (mx my : Bool) (H : GemmC x y z bx cx bz cz g cg true true true mx my) (h : x.cols ≠ y.rows ∨ z.rows ≠ x.rows ∨ z.cols ≠ y.cols) : Calls Try.prog 148 #[.agg #[.slice (some ⟨bx, 0, none⟩) x.ws.length cx, .int .i64 x.off, .int .i64 x.rows, .int .i64 x.cols, .int .i64 x.ld], .agg #[.slice (some ⟨bz, 0, none⟩) y.ws.length cz, .int .i64 y.off, .int .i64 y.rows, .int .i64 y.cols, .int .i64 y.ld], .agg #[.slice (some ⟨g, 0, none⟩) z.ws.length cg, .int .i64 z.off, .int .i64 z.rows, .int .i64 z.cols, .int .i64 z.ld]] w (fun e w' => e = .returned (.int .i64 3) ∧ ∃ o n, w' = ext w o n) := by
  by_cases h1 : x.cols = y.rows
  · have d1 : (x.cols != y.rows) = false := by simpa using h1
    by_cases h2 : z.rows = x.rows
    · have d2 : (z.rows != x.rows) = false := by simpa using h2
      have d3 : (z.cols != y.cols) = true := by simpa using h.elim (fun h => absurd h1 h) (fun h => h.elim (fun h => absurd h2 h) id)
      clear h h1 h2
      go_enter Try.func148, Try.ntmps148
      refine seq_stop ?_
      go_wp2
      refine stop_go (fun W hW => ?_)
      have s1 : w.heap.size < W.heap.size := by rw [hW]; simp only [World.size_alloc]; omega
      have b1 : ∀ i, W.cell? ⟨w.heap.size, i, none⟩ = (#[.slice (some ⟨bx, 0, none⟩) x.ws.length cx, .int .i64 x.off, .int .i64 x.rows, .int .i64 x.cols, .int .i64 x.ld] : Array Value)[i]? := by intro i; rw [hW]; go_simp
      have s2 : w.heap.size + 1 < W.heap.size := by rw [hW]; simp only [World.size_alloc]; omega
      have b2 : ∀ i, W.cell? ⟨w.heap.size + 1, i, none⟩ = (#[.slice (some ⟨bz, 0, none⟩) y.ws.length cz, .int .i64 y.off, .int .i64 y.rows, .int .i64 y.cols, .int .i64 y.ld] : Array Value)[i]? := by intro i; rw [hW]; go_simp
      have s3 : w.heap.size + 1 + 1 < W.heap.size := by rw [hW]; simp only [World.size_alloc]; omega
      have b3 : ∀ i, W.cell? ⟨w.heap.size + 1 + 1, i, none⟩ = (#[.slice (some ⟨g, 0, none⟩) z.ws.length cg, .int .i64 z.off, .int .i64 z.rows, .int .i64 z.cols, .int .i64 z.ld] : Array Value)[i]? := by intro i; rw [hW]; go_simp
      have g0 : Grew w W := by rw [hW]; exact (((Grew.refl _).alloc _).alloc _).alloc _
      clear hW
      have hXW := hX.grew g0
      have hYW := hY.grew g0
      have hZW := hZ.grew g0
      go_wp2_with (first | (go_at_call 130; ((with_reducible refine (H.X _ ?_).mono ?_); (focus (first | (with_reducible assumption) | (with_reducible refine FS.ext ?_ _ _; with_reducible assumption) | (with_reducible refine IS.ext ?_ _ _; with_reducible assumption) | (refine hDu _ ?_; with_reducible assumption) | (refine hOu _ ?_; with_reducible assumption) | (refine hDa _ ?_; with_reducible assumption) | (refine hDb _ ?_; with_reducible assumption) | (refine hDc _ ?_; with_reducible assumption) | (refine hDd _ ?_; with_reducible assumption) | (refine FW.fs ?_ (by omega) _; with_reducible assumption) | (refine WS.fs ?_; with_reducible assumption) | (refine FW.fs ?_ (by omega) _; assumption) | omega | assumption)); rintro e w1 ⟨rfl, oa, na, rfl⟩)) | (go_at_call 130; ((with_reducible refine (H.Y _ ?_).mono ?_); (focus (first | (with_reducible assumption) | (with_reducible refine FS.ext ?_ _ _; with_reducible assumption) | (with_reducible refine IS.ext ?_ _ _; with_reducible assumption) | (refine hDu _ ?_; with_reducible assumption) | (refine hOu _ ?_; with_reducible assumption) | (refine hDa _ ?_; with_reducible assumption) | (refine hDb _ ?_; with_reducible assumption) | (refine hDc _ ?_; with_reducible assumption) | (refine hDd _ ?_; with_reducible assumption) | (refine FW.fs ?_ (by omega) _; with_reducible assumption) | (refine WS.fs ?_; with_reducible assumption) | (refine FW.fs ?_ (by omega) _; assumption) | omega | assumption)); rintro e w1 ⟨rfl, ob, nb, rfl⟩)) | (go_at_call 130; ((with_reducible refine (H.Z _ ?_).mono ?_); (focus (first | (with_reducible assumption) | (with_reducible refine FS.ext ?_ _ _; with_reducible assumption) | (with_reducible refine IS.ext ?_ _ _; with_reducible assumption) | (refine hDu _ ?_; with_reducible assumption) | (refine hOu _ ?_; with_reducible assumption) | (refine hDa _ ?_; with_reducible assumption) | (refine hDb _ ?_; with_reducible assumption) | (refine hDc _ ?_; with_reducible assumption) | (refine hDd _ ?_; with_reducible assumption) | (refine FW.fs ?_ (by omega) _; with_reducible assumption) | (refine WS.fs ?_; with_reducible assumption) | (refine FW.fs ?_ (by omega) _; assumption) | omega | assumption)); rintro e w1 ⟨rfl, oc, nc, rfl⟩)) | (go_at_call 136; ((with_reducible refine (H.Mx _ ?_ ?_ (hPz.grew (by (show Grew _ _; repeat (first | (with_reducible exact Grew.refl _) | (with_reducible assumption) | (with_reducible exact Grew.same_o) | (with_reducible exact Grew.app_o) | (with_reducible refine Grew.ext ?_ _ _) | (with_reducible refine Grew.alloc ?_ _) | ((with_reducible refine Grew.setCell ?_ ?_ _); rotate_left; (focus (dsimp only; first | omega | (simp only [size_ext, World.size_alloc, Array.size_append]; omega)))) | (with_reducible refine Grew.drewN ?_ _) | (with_reducible refine Grew.drew ?_))))) (hPx.grew (by (show Grew _ _; repeat (first | (with_reducible exact Grew.refl _) | (with_reducible assumption) | (with_reducible exact Grew.same_o) | (with_reducible exact Grew.app_o) | (with_reducible refine Grew.ext ?_ _ _) | (with_reducible refine Grew.alloc ?_ _) | ((with_reducible refine Grew.setCell ?_ ?_ _); rotate_left; (focus (dsimp only; first | omega | (simp only [size_ext, World.size_alloc, Array.size_append]; omega)))) | (with_reducible refine Grew.drewN ?_ _) | (with_reducible refine Grew.drew ?_)))))).mono ?_); (focus (first | (with_reducible assumption) | (with_reducible refine FS.ext ?_ _ _; with_reducible assumption) | (with_reducible refine IS.ext ?_ _ _; with_reducible assumption) | (refine hDu _ ?_; with_reducible assumption) | (refine hOu _ ?_; with_reducible assumption) | (refine hDa _ ?_; with_reducible assumption) | (refine hDb _ ?_; with_reducible assumption) | (refine hDc _ ?_; with_reducible assumption) | (refine hDd _ ?_; with_reducible assumption) | (refine FW.fs ?_ (by omega) _; with_reducible assumption) | (refine WS.fs ?_; with_reducible assumption) | (refine FW.fs ?_ (by omega) _; assumption) | omega | assumption)); (focus (first | (with_reducible assumption) | (with_reducible refine FS.ext ?_ _ _; with_reducible assumption) | (with_reducible refine IS.ext ?_ _ _; with_reducible assumption) | (refine hDu _ ?_; with_reducible assumption) | (refine hOu _ ?_; with_reducible assumption) | (refine hDa _ ?_; with_reducible assumption) | (refine hDb _ ?_; with_reducible assumption) | (refine hDc _ ?_; with_reducible assumption) | (refine hDd _ ?_; with_reducible assumption) | (refine FW.fs ?_ (by omega) _; with_reducible assumption) | (refine WS.fs ?_; with_reducible assumption) | (refine FW.fs ?_ (by omega) _; assumption) | omega | assumption)); rintro e w1 ⟨rfl, oe, ne, rfl⟩)) | (go_at_call 136; ((with_reducible refine (H.My _ ?_ ?_ (hPz.grew (by (show Grew _ _; repeat (first | (with_reducible exact Grew.refl _) | (with_reducible assumption) | (with_reducible exact Grew.same_o) | (with_reducible exact Grew.app_o) | (with_reducible refine Grew.ext ?_ _ _) | (with_reducible refine Grew.alloc ?_ _) | ((with_reducible refine Grew.setCell ?_ ?_ _); rotate_left; (focus (dsimp only; first | omega | (simp only [size_ext, World.size_alloc, Array.size_append]; omega)))) | (with_reducible refine Grew.drewN ?_ _) | (with_reducible refine Grew.drew ?_))))) (hPy.grew (by (show Grew _ _; repeat (first | (with_reducible exact Grew.refl _) | (with_reducible assumption) | (with_reducible exact Grew.same_o) | (with_reducible exact Grew.app_o) | (with_reducible refine Grew.ext ?_ _ _) | (with_reducible refine Grew.alloc ?_ _) | ((with_reducible refine Grew.setCell ?_ ?_ _); rotate_left; (focus (dsimp only; first | omega | (simp only [size_ext, World.size_alloc, Array.size_append]; omega)))) | (with_reducible refine Grew.drewN ?_ _) | (with_reducible refine Grew.drew ?_)))))).mono ?_); (focus (first | (with_reducible assumption) | (with_reducible refine FS.ext ?_ _ _; with_reducible assumption) | (with_reducible refine IS.ext ?_ _ _; with_reducible assumption) | (refine hDu _ ?_; with_reducible assumption) | (refine hOu _ ?_; with_reducible assumption) | (refine hDa _ ?_; with_reducible assumption) | (refine hDb _ ?_; with_reducible assumption) | (refine hDc _ ?_; with_reducible assumption) | (refine hDd _ ?_; with_reducible assumption) | (refine FW.fs ?_ (by omega) _; with_reducible assumption) | (refine WS.fs ?_; with_reducible assumption) | (refine FW.fs ?_ (by omega) _; assumption) | omega | assumption)); (focus (first | (with_reducible assumption) | (with_reducible refine FS.ext ?_ _ _; with_reducible assumption) | (with_reducible refine IS.ext ?_ _ _; with_reducible assumption) | (refine hDu _ ?_; with_reducible assumption) | (refine hOu _ ?_; with_reducible assumption) | (refine hDa _ ?_; with_reducible assumption) | (refine hDb _ ?_; with_reducible assumption) | (refine hDc _ ?_; with_reducible assumption) | (refine hDd _ ?_; with_reducible assumption) | (refine FW.fs ?_ (by omega) _; with_reducible assumption) | (refine WS.fs ?_; with_reducible assumption) | (refine FW.fs ?_ (by omega) _; assumption) | omega | assumption)); rintro e w1 ⟨rfl, of, nf, rfl⟩)))
      go_ret
      exact ⟨rfl, by (show Grew _ _; repeat (first | (with_reducible exact Grew.refl _) | (with_reducible assumption) | (with_reducible exact Grew.same_o) | (with_reducible exact Grew.app_o) | (with_reducible refine Grew.ext ?_ _ _) | (with_reducible refine Grew.alloc ?_ _) | ((with_reducible refine Grew.setCell ?_ ?_ _); rotate_left; (focus (dsimp only; first | omega | (simp only [size_ext, World.size_alloc, Array.size_append]; omega)))) | (with_reducible refine Grew.drewN ?_ _) | (with_reducible refine Grew.drew ?_)))⟩
    · have d2 : (z.rows != x.rows) = true := by simpa using h2
      clear h h1 h2
      go_enter Try.func148, Try.ntmps148
      refine seq_stop ?_
      go_wp2
      refine stop_go (fun W hW => ?_)
      have s1 : w.heap.size < W.heap.size := by rw [hW]; simp only [World.size_alloc]; omega
      have b1 : ∀ i, W.cell? ⟨w.heap.size, i, none⟩ = (#[.slice (some ⟨bx, 0, none⟩) x.ws.length cx, .int .i64 x.off, .int .i64 x.rows, .int .i64 x.cols, .int .i64 x.ld] : Array Value)[i]? := by intro i; rw [hW]; go_simp
      have s2 : w.heap.size + 1 < W.heap.size := by rw [hW]; simp only [World.size_alloc]; omega
      have b2 : ∀ i, W.cell? ⟨w.heap.size + 1, i, none⟩ = (#[.slice (some ⟨bz, 0, none⟩) y.ws.length cz, .int .i64 y.off, .int .i64 y.rows, .int .i64 y.cols, .int .i64 y.ld] : Array Value)[i]? := by intro i; rw [hW]; go_simp
      have s3 : w.heap.size + 1 + 1 < W.heap.size := by rw [hW]; simp only [World.size_alloc]; omega
      have b3 : ∀ i, W.cell? ⟨w.heap.size + 1 + 1, i, none⟩ = (#[.slice (some ⟨g, 0, none⟩) z.ws.length cg, .int .i64 z.off, .int .i64 z.rows, .int .i64 z.cols, .int .i64 z.ld] : Array Value)[i]? := by intro i; rw [hW]; go_simp
      have g0 : Grew w W := by rw [hW]; exact (((Grew.refl _).alloc _).alloc _).alloc _
      clear hW
      have hXW := hX.grew g0
      have hYW := hY.grew g0
      have hZW := hZ.grew g0
      go_wp2_with (first | (go_at_call 130; ((with_reducible refine (H.X _ ?_).mono ?_); (focus (first | (with_reducible assumption) | (with_reducible refine FS.ext ?_ _ _; with_reducible assumption) | (with_reducible refine IS.ext ?_ _ _; with_reducible assumption) | (refine hDu _ ?_; with_reducible assumption) | (refine hOu _ ?_; with_reducible assumption) | (refine hDa _ ?_; with_reducible assumption) | (refine hDb _ ?_; with_reducible assumption) | (refine hDc _ ?_; with_reducible assumption) | (refine hDd _ ?_; with_reducible assumption) | (refine FW.fs ?_ (by omega) _; with_reducible assumption) | (refine WS.fs ?_; with_reducible assumption) | (refine FW.fs ?_ (by omega) _; assumption) | omega | assumption)); rintro e w1 ⟨rfl, oa, na, rfl⟩)) | (go_at_call 130; ((with_reducible refine (H.Y _ ?_).mono ?_); (focus (first | (with_reducible assumption) | (with_reducible refine FS.ext ?_ _ _; with_reducible assumption) | (with_reducible refine IS.ext ?_ _ _; with_reducible assumption) | (refine hDu _ ?_; with_reducible assumption) | (refine hOu _ ?_; with_reducible assumption) | (refine hDa _ ?_; with_reducible assumption) | (refine hDb _ ?_; with_reducible assumption) | (refine hDc _ ?_; with_reducible assumption) | (refine hDd _ ?_; with_reducible assumption) | (refine FW.fs ?_ (by omega) _; with_reducible assumption) | (refine WS.fs ?_; with_reducible assumption) | (refine FW.fs ?_ (by omega) _; assumption) | omega | assumption)); rintro e w1 ⟨rfl, ob, nb, rfl⟩)) | (go_at_call 130; ((with_reducible refine (H.Z _ ?_).mono ?_); (focus (first | (with_reducible assumption) | (with_reducible refine FS.ext ?_ _ _; with_reducible assumption) | (with_reducible refine IS.ext ?_ _ _; with_reducible assumption) | (refine hDu _ ?_; with_reducible assumption) | (refine hOu _ ?_; with_reducible assumption) | (refine hDa _ ?_; with_reducible assumption) | (refine hDb _ ?_; with_reducible assumption) | (refine hDc _ ?_; with_reducible assumption) | (refine hDd _ ?_; with_reducible assumption) | (refine FW.fs ?_ (by omega) _; with_reducible assumption) | (refine WS.fs ?_; with_reducible assumption) | (refine FW.fs ?_ (by omega) _; assumption) | omega | assumption)); rintro e w1 ⟨rfl, oc, nc, rfl⟩)) | (go_at_call 136; ((with_reducible refine (H.Mx _ ?_ ?_ (hPz.grew (by (show Grew _ _; repeat (first | (with_reducible exact Grew.refl _) | (with_reducible assumption) | (with_reducible exact Grew.same_o) | (with_reducible exact Grew.app_o) | (with_reducible refine Grew.ext ?_ _ _) | (with_reducible refine Grew.alloc ?_ _) | ((with_reducible refine Grew.setCell ?_ ?_ _); rotate_left; (focus (dsimp only; first | omega | (simp only [size_ext, World.size_alloc, Array.size_append]; omega)))) | (with_reducible refine Grew.drewN ?_ _) | (with_reducible refine Grew.drew ?_))))) (hPx.grew (by (show Grew _ _; repeat (first | (with_reducible exact Grew.refl _) | (with_reducible assumption) | (with_reducible exact Grew.same_o) | (with_reducible exact Grew.app_o) | (with_reducible refine Grew.ext ?_ _ _) | (with_reducible refine Grew.alloc ?_ _) | ((with_reducible refine Grew.setCell ?_ ?_ _); rotate_left; (focus (dsimp only; first | omega | (simp only [size_ext, World.size_alloc, Array.size_append]; omega)))) | (with_reducible refine Grew.drewN ?_ _) | (with_reducible refine Grew.drew ?_)))))).mono ?_); (focus (first | (with_reducible assumption) | (with_reducible refine FS.ext ?_ _ _; with_reducible assumption) | (with_reducible refine IS.ext ?_ _ _; with_reducible assumption) | (refine hDu _ ?_; with_reducible assumption) | (refine hOu _ ?_; with_reducible assumption) | (refine hDa _ ?_; with_reducible assumption) | (refine hDb _ ?_; with_reducible assumption) | (refine hDc _ ?_; with_reducible assumption) | (refine hDd _ ?_; with_reducible assumption) | (refine FW.fs ?_ (by omega) _; with_reducible assumption) | (refine WS.fs ?_; with_reducible assumption) | (refine FW.fs ?_ (by omega) _; assumption) | omega | assumption)); (focus (first | (with_reducible assumption) | (with_reducible refine FS.ext ?_ _ _; with_reducible assumption) | (with_reducible refine IS.ext ?_ _ _; with_reducible assumption) | (refine hDu _ ?_; with_reducible assumption) | (refine hOu _ ?_; with_reducible assumption) | (refine hDa _ ?_; with_reducible assumption) | (refine hDb _ ?_; with_reducible assumption) | (refine hDc _ ?_; with_reducible assumption) | (refine hDd _ ?_; with_reducible assumption) | (refine FW.fs ?_ (by omega) _; with_reducible assumption) | (refine WS.fs ?_; with_reducible assumption) | (refine FW.fs ?_ (by omega) _; assumption) | omega | assumption)); rintro e w1 ⟨rfl, oe, ne, rfl⟩)) | (go_at_call 136; ((with_reducible refine (H.My _ ?_ ?_ (hPz.grew (by (show Grew _ _; repeat (first | (with_reducible exact Grew.refl _) | (with_reducible assumption) | (with_reducible exact Grew.same_o) | (with_reducible exact Grew.app_o) | (with_reducible refine Grew.ext ?_ _ _) | (with_reducible refine Grew.alloc ?_ _) | ((with_reducible refine Grew.setCell ?_ ?_ _); rotate_left; (focus (dsimp only; first | omega | (simp only [size_ext, World.size_alloc, Array.size_append]; omega)))) | (with_reducible refine Grew.drewN ?_ _) | (with_reducible refine Grew.drew ?_))))) (hPy.grew (by (show Grew _ _; repeat (first | (with_reducible exact Grew.refl _) | (with_reducible assumption) | (with_reducible exact Grew.same_o) | (with_reducible exact Grew.app_o) | (with_reducible refine Grew.ext ?_ _ _) | (with_reducible refine Grew.alloc ?_ _) | ((with_reducible refine Grew.setCell ?_ ?_ _); rotate_left; (focus (dsimp only; first | omega | (simp only [size_ext, World.size_alloc, Array.size_append]; omega)))) | (with_reducible refine Grew.drewN ?_ _) | (with_reducible refine Grew.drew ?_)))))).mono ?_); (focus (first | (with_reducible assumption) | (with_reducible refine FS.ext ?_ _ _; with_reducible assumption) | (with_reducible refine IS.ext ?_ _ _; with_reducible assumption) | (refine hDu _ ?_; with_reducible assumption) | (refine hOu _ ?_; with_reducible assumption) | (refine hDa _ ?_; with_reducible assumption) | (refine hDb _ ?_; with_reducible assumption) | (refine hDc _ ?_; with_reducible assumption) | (refine hDd _ ?_; with_reducible assumption) | (refine FW.fs ?_ (by omega) _; with_reducible assumption) | (refine WS.fs ?_; with_reducible assumption) | (refine FW.fs ?_ (by omega) _; assumption) | omega | assumption)); (focus (first | (with_reducible assumption) | (with_reducible refine FS.ext ?_ _ _; with_reducible assumption) | (with_reducible refine IS.ext ?_ _ _; with_reducible assumption) | (refine hDu _ ?_; with_reducible assumption) | (refine hOu _ ?_; with_reducible assumption) | (refine hDa _ ?_; with_reducible assumption) | (refine hDb _ ?_; with_reducible assumption) | (refine hDc _ ?_; with_reducible assumption) | (refine hDd _ ?_; with_reducible assumption) | (refine FW.fs ?_ (by omega) _; with_reducible assumption) | (refine WS.fs ?_; with_reducible assumption) | (refine FW.fs ?_ (by omega) _; assumption) | omega | assumption)); rintro e w1 ⟨rfl, of, nf, rfl⟩)))
      go_ret
      exact ⟨rfl, by (show Grew _ _; repeat (first | (with_reducible exact Grew.refl _) | (with_reducible assumption) | (with_reducible exact Grew.same_o) | (with_reducible exact Grew.app_o) | (with_reducible refine Grew.ext ?_ _ _) | (with_reducible refine Grew.alloc ?_ _) | ((with_reducible refine Grew.setCell ?_ ?_ _); rotate_left; (focus (dsimp only; first | omega | (simp only [size_ext, World.size_alloc, Array.size_append]; omega)))) | (with_reducible refine Grew.drewN ?_ _) | (with_reducible refine Grew.drew ?_)))⟩
  · have d1 : (x.cols != y.rows) = true := by simpa using h1
    clear h h1
    go_enter Try.func148, Try.ntmps148
    refine seq_stop ?_
    go_wp2
    refine stop_go (fun W hW => ?_)
    have s1 : w.heap.size < W.heap.size := by rw [hW]; simp only [World.size_alloc]; omega
    have b1 : ∀ i, W.cell? ⟨w.heap.size, i, none⟩ = (#[.slice (some ⟨bx, 0, none⟩) x.ws.length cx, .int .i64 x.off, .int .i64 x.rows, .int .i64 x.cols, .int .i64 x.ld] : Array Value)[i]? := by intro i; rw [hW]; go_simp
    have s2 : w.heap.size + 1 < W.heap.size := by rw [hW]; simp only [World.size_alloc]; omega
    have b2 : ∀ i, W.cell? ⟨w.heap.size + 1, i, none⟩ = (#[.slice (some ⟨bz, 0, none⟩) y.ws.length cz, .int .i64 y.off, .int .i64 y.rows, .int .i64 y.cols, .int .i64 y.ld] : Array Value)[i]? := by intro i; rw [hW]; go_simp
    have s3 : w.heap.size + 1 + 1 < W.heap.size := by rw [hW]; simp only [World.size_alloc]; omega
    have b3 : ∀ i, W.cell? ⟨w.heap.size + 1 + 1, i, none⟩ = (#[.slice (some ⟨g, 0, none⟩) z.ws.length cg, .int .i64 z.off, .int .i64 z.rows, .int .i64 z.cols, .int .i64 z.ld] : Array Value)[i]? := by intro i; rw [hW]; go_simp
    have g0 : Grew w W := by rw [hW]; exact (((Grew.refl _).alloc _).alloc _).alloc _
    clear hW
    have hXW := hX.grew g0
    have hYW := hY.grew g0
    have hZW := hZ.grew g0
    go_wp2_with (first | (go_at_call 130; ((with_reducible refine (H.X _ ?_).mono ?_); (focus (first | (with_reducible assumption) | (with_reducible refine FS.ext ?_ _ _; with_reducible assumption) | (with_reducible refine IS.ext ?_ _ _; with_reducible assumption) | (refine hDu _ ?_; with_reducible assumption) | (refine hOu _ ?_; with_reducible assumption) | (refine hDa _ ?_; with_reducible assumption) | (refine hDb _ ?_; with_reducible assumption) | (refine hDc _ ?_; with_reducible assumption) | (refine hDd _ ?_; with_reducible assumption) | (refine FW.fs ?_ (by omega) _; with_reducible assumption) | (refine WS.fs ?_; with_reducible assumption) | (refine FW.fs ?_ (by omega) _; assumption) | omega | assumption)); rintro e w1 ⟨rfl, oa, na, rfl⟩)) | (go_at_call 130; ((with_reducible refine (H.Y _ ?_).mono ?_); (focus (first | (with_reducible assumption) | (with_reducible refine FS.ext ?_ _ _; with_reducible assumption) | (with_reducible refine IS.ext ?_ _ _; with_reducible assumption) | (refine hDu _ ?_; with_reducible assumption) | (refine hOu _ ?_; with_reducible assumption) | (refine hDa _ ?_; with_reducible assumption) | (refine hDb _ ?_; with_reducible assumption) | (refine hDc _ ?_; with_reducible assumption) | (refine hDd _ ?_; with_reducible assumption) | (refine FW.fs ?_ (by omega) _; with_reducible assumption) | (refine WS.fs ?_; with_reducible assumption) | (refine FW.fs ?_ (by omega) _; assumption) | omega | assumption)); rintro e w1 ⟨rfl, ob, nb, rfl⟩)) | (go_at_call 130; ((with_reducible refine (H.Z _ ?_).mono ?_); (focus (first | (with_reducible assumption) | (with_reducible refine FS.ext ?_ _ _; with_reducible assumption) | (with_reducible refine IS.ext ?_ _ _; with_reducible assumption) | (refine hDu _ ?_; with_reducible assumption) | (refine hOu _ ?_; with_reducible assumption) | (refine hDa _ ?_; with_reducible assumption) | (refine hDb _ ?_; with_reducible assumption) | (refine hDc _ ?_; with_reducible assumption) | (refine hDd _ ?_; with_reducible assumption) | (refine FW.fs ?_ (by omega) _; with_reducible assumption) | (refine WS.fs ?_; with_reducible assumption) | (refine FW.fs ?_ (by omega) _; assumption) | omega | assumption)); rintro e w1 ⟨rfl, oc, nc, rfl⟩)) | (go_at_call 136; ((with_reducible refine (H.Mx _ ?_ ?_ (hPz.grew (by (show Grew _ _; repeat (first | (with_reducible exact Grew.refl _) | (with_reducible assumption) | (with_reducible exact Grew.same_o) | (with_reducible exact Grew.app_o) | (with_reducible refine Grew.ext ?_ _ _) | (with_reducible refine Grew.alloc ?_ _) | ((with_reducible refine Grew.setCell ?_ ?_ _); rotate_left; (focus (dsimp only; first | omega | (simp only [size_ext, World.size_alloc, Array.size_append]; omega)))) | (with_reducible refine Grew.drewN ?_ _) | (with_reducible refine Grew.drew ?_))))) (hPx.grew (by (show Grew _ _; repeat (first | (with_reducible exact Grew.refl _) | (with_reducible assumption) | (with_reducible exact Grew.same_o) | (with_reducible exact Grew.app_o) | (with_reducible refine Grew.ext ?_ _ _) | (with_reducible refine Grew.alloc ?_ _) | ((with_reducible refine Grew.setCell ?_ ?_ _); rotate_left; (focus (dsimp only; first | omega | (simp only [size_ext, World.size_alloc, Array.size_append]; omega)))) | (with_reducible refine Grew.drewN ?_ _) | (with_reducible refine Grew.drew ?_)))))).mono ?_); (focus (first | (with_reducible assumption) | (with_reducible refine FS.ext ?_ _ _; with_reducible assumption) | (with_reducible refine IS.ext ?_ _ _; with_reducible assumption) | (refine hDu _ ?_; with_reducible assumption) | (refine hOu _ ?_; with_reducible assumption) | (refine hDa _ ?_; with_reducible assumption) | (refine hDb _ ?_; with_reducible assumption) | (refine hDc _ ?_; with_reducible assumption) | (refine hDd _ ?_; with_reducible assumption) | (refine FW.fs ?_ (by omega) _; with_reducible assumption) | (refine WS.fs ?_; with_reducible assumption) | (refine FW.fs ?_ (by omega) _; assumption) | omega | assumption)); (focus (first | (with_reducible assumption) | (with_reducible refine FS.ext ?_ _ _; with_reducible assumption) | (with_reducible refine IS.ext ?_ _ _; with_reducible assumption) | (refine hDu _ ?_; with_reducible assumption) | (refine hOu _ ?_; with_reducible assumption) | (refine hDa _ ?_; with_reducible assumption) | (refine hDb _ ?_; with_reducible assumption) | (refine hDc _ ?_; with_reducible assumption) | (refine hDd _ ?_; with_reducible assumption) | (refine FW.fs ?_ (by omega) _; with_reducible assumption) | (refine WS.fs ?_; with_reducible assumption) | (refine FW.fs ?_ (by omega) _; assumption) | omega | assumption)); rintro e w1 ⟨rfl, oe, ne, rfl⟩)) | (go_at_call 136; ((with_reducible refine (H.My _ ?_ ?_ (hPz.grew (by (show Grew _ _; repeat (first | (with_reducible exact Grew.refl _) | (with_reducible assumption) | (with_reducible exact Grew.same_o) | (with_reducible exact Grew.app_o) | (with_reducible refine Grew.ext ?_ _ _) | (with_reducible refine Grew.alloc ?_ _) | ((with_reducible refine Grew.setCell ?_ ?_ _); rotate_left; (focus (dsimp only; first | omega | (simp only [size_ext, World.size_alloc, Array.size_append]; omega)))) | (with_reducible refine Grew.drewN ?_ _) | (with_reducible refine Grew.drew ?_))))) (hPy.grew (by (show Grew _ _; repeat (first | (with_reducible exact Grew.refl _) | (with_reducible assumption) | (with_reducible exact Grew.same_o) | (with_reducible exact Grew.app_o) | (with_reducible refine Grew.ext ?_ _ _) | (with_reducible refine Grew.alloc ?_ _) | ((with_reducible refine Grew.setCell ?_ ?_ _); rotate_left; (focus (dsimp only; first | omega | (simp only [size_ext, World.size_alloc, Array.size_append]; omega)))) | (with_reducible refine Grew.drewN ?_ _) | (with_reducible refine Grew.drew ?_)))))).mono ?_); (focus (first | (with_reducible assumption) | (with_reducible refine FS.ext ?_ _ _; with_reducible assumption) | (with_reducible refine IS.ext ?_ _ _; with_reducible assumption) | (refine hDu _ ?_; with_reducible assumption) | (refine hOu _ ?_; with_reducible assumption) | (refine hDa _ ?_; with_reducible assumption) | (refine hDb _ ?_; with_reducible assumption) | (refine hDc _ ?_; with_reducible assumption) | (refine hDd _ ?_; with_reducible assumption) | (refine FW.fs ?_ (by omega) _; with_reducible assumption) | (refine WS.fs ?_; with_reducible assumption) | (refine FW.fs ?_ (by omega) _; assumption) | omega | assumption)); (focus (first | (with_reducible assumption) | (with_reducible refine FS.ext ?_ _ _; with_reducible assumption) | (with_reducible refine IS.ext ?_ _ _; with_reducible assumption) | (refine hDu _ ?_; with_reducible assumption) | (refine hOu _ ?_; with_reducible assumption) | (refine hDa _ ?_; with_reducible assumption) | (refine hDb _ ?_; with_reducible assumption) | (refine hDc _ ?_; with_reducible assumption) | (refine hDd _ ?_; with_reducible assumption) | (refine FW.fs ?_ (by omega) _; with_reducible assumption) | (refine WS.fs ?_; with_reducible assumption) | (refine FW.fs ?_ (by omega) _; assumption) | omega | assumption)); rintro e w1 ⟨rfl, of, nf, rfl⟩)))
    go_ret
    exact ⟨rfl, by (show Grew _ _; repeat (first | (with_reducible exact Grew.refl _) | (with_reducible assumption) | (with_reducible exact Grew.same_o) | (with_reducible exact Grew.app_o) | (with_reducible refine Grew.ext ?_ _ _) | (with_reducible refine Grew.alloc ?_ _) | ((with_reducible refine Grew.setCell ?_ ?_ _); rotate_left; (focus (dsimp only; first | omega | (simp only [size_ext, World.size_alloc, Array.size_append]; omega)))) | (with_reducible refine Grew.drewN ?_ _) | (with_reducible refine Grew.drew ?_)))⟩
set_option maxRecDepth 100000 in
set_option maxHeartbeats 4000000 in
theorem gcheck_5 (x y z : MatM) (bx cx bz cz g cg : Nat) (w : World) (hX : FS w (.slice (some ⟨bx, 0, none⟩) x.ws.length cx) x.ws) (hY : FS w (.slice (some ⟨bz, 0, none⟩) y.ws.length cz) y.ws) (hZ : FS w (.slice (some ⟨g, 0, none⟩) z.ws.length cg) z.ws) (hPx : Plain w bx) (hPy : Plain w bz) (hPz : Plain w g) (mx my : Bool) (H : GemmC x y z bx cx bz cz g cg true true true mx my) (h1 : x.cols = y.rows) (h2 : z.rows = x.rows) (h3 : z.cols = y.cols) (h : (mx || my) = true) : Calls Try.prog 148 #[.agg #[.slice (some ⟨bx, 0, none⟩) x.ws.length cx, .int .i64 x.off, .int .i64 x.rows, .int .i64 x.cols, .int .i64 x.ld], .agg #[.slice (some ⟨bz, 0, none⟩) y.ws.length cz, .int .i64 y.off, .int .i64 y.rows, .int .i64 y.cols, .int .i64 y.ld], .agg #[.slice (some ⟨g, 0, none⟩) z.ws.length cg, .int .i64 z.off, .int .i64 z.rows, .int .i64 z.cols, .int .i64 z.ld]] w (fun e w' => e = .returned (.int .i64 2) ∧ ∃ o n, w' = ext w o n) := by
  have d1 : (x.cols != y.rows) = false := by simpa using h1
  have d2 : (z.rows != x.rows) = false := by simpa using h2
  have d3 : (z.cols != y.cols) = false := by simpa using h3
  clear h1 h2 h3
  cases mx
  · cases my
    · cases h
    · clear h
      go_enter Try.func148, Try.ntmps148
      refine seq_stop ?_
      go_wp2
      refine stop_go (fun W hW => ?_)
      have s1 : w.heap.size < W.heap.size := by rw [hW]; simp only [World.size_alloc]; omega
      have b1 : ∀ i, W.cell? ⟨w.heap.size, i, none⟩ = (#[.slice (some ⟨bx, 0, none⟩) x.ws.length cx, .int .i64 x.off, .int .i64 x.rows, .int .i64 x.cols, .int .i64 x.ld] : Array Value)[i]? := by intro i; rw [hW]; go_simp
      have s2 : w.heap.size + 1 < W.heap.size := by rw [hW]; simp only [World.size_alloc]; omega
      have b2 : ∀ i, W.cell? ⟨w.heap.size + 1, i, none⟩ = (#[.slice (some ⟨bz, 0, none⟩) y.ws.length cz, .int .i64 y.off, .int .i64 y.rows, .int .i64 y.cols, .int .i64 y.ld] : Array Value)[i]? := by intro i; rw [hW]; go_simp
      have s3 : w.heap.size + 1 + 1 < W.heap.size := by rw [hW]; simp only [World.size_alloc]; omega
      have b3 : ∀ i, W.cell? ⟨w.heap.size + 1 + 1, i, none⟩ = (#[.slice (some ⟨g, 0, none⟩) z.ws.length cg, .int .i64 z.off, .int .i64 z.rows, .int .i64 z.cols, .int .i64 z.ld] : Array Value)[i]? := by intro i; rw [hW]; go_simp
      have g0 : Grew w W := by rw [hW]; exact (((Grew.refl _).alloc _).alloc _).alloc _
      clear hW
      have hXW := hX.grew g0
      have hYW := hY.grew g0
      have hZW := hZ.grew g0
      go_wp2_with (first | (go_at_call 130; ((with_reducible refine (H.X _ ?_).mono ?_); (focus (first | (with_reducible assumption) | (with_reducible refine FS.ext ?_ _ _; with_reducible assumption) | (with_reducible refine IS.ext ?_ _ _; with_reducible assumption) | (refine hDu _ ?_; with_reducible assumption) | (refine hOu _ ?_; with_reducible assumption) | (refine hDa _ ?_; with_reducible assumption) | (refine hDb _ ?_; with_reducible assumption) | (refine hDc _ ?_; with_reducible assumption) | (refine hDd _ ?_; with_reducible assumption) | (refine FW.fs ?_ (by omega) _; with_reducible assumption) | (refine WS.fs ?_; with_reducible assumption) | (refine FW.fs ?_ (by omega) _; assumption) | omega | assumption)); rintro e w1 ⟨rfl, oa, na, rfl⟩)) | (go_at_call 130; ((with_reducible refine (H.Y _ ?_).mono ?_); (focus (first | (with_reducible assumption) | (with_reducible refine FS.ext ?_ _ _; with_reducible assumption) | (with_reducible refine IS.ext ?_ _ _; with_reducible assumption) | (refine hDu _ ?_; with_reducible assumption) | (refine hOu _ ?_; with_reducible assumption) | (refine hDa _ ?_; with_reducible assumption) | (refine hDb _ ?_; with_reducible assumption) | (refine hDc _ ?_; with_reducible assumption) | (refine hDd _ ?_; with_reducible assumption) | (refine FW.fs ?_ (by omega) _; with_reducible assumption) | (refine WS.fs ?_; with_reducible assumption) | (refine FW.fs ?_ (by omega) _; assumption) | omega | assumption)); rintro e w1 ⟨rfl, ob, nb, rfl⟩)) | (go_at_call 130; ((with_reducible refine (H.Z _ ?_).mono ?_); (focus (first | (with_reducible assumption) | (with_reducible refine FS.ext ?_ _ _; with_reducible assumption) | (with_reducible refine IS.ext ?_ _ _; with_reducible assumption) | (refine hDu _ ?_; with_reducible assumption) | (refine hOu _ ?_; with_reducible assumption) | (refine hDa _ ?_; with_reducible assumption) | (refine hDb _ ?_; with_reducible assumption) | (refine hDc _ ?_; with_reducible assumption) | (refine hDd _ ?_; with_reducible assumption) | (refine FW.fs ?_ (by omega) _; with_reducible assumption) | (refine WS.fs ?_; with_reducible assumption) | (refine FW.fs ?_ (by omega) _; assumption) | omega | assumption)); rintro e w1 ⟨rfl, oc, nc, rfl⟩)) | (go_at_call 136; ((with_reducible refine (H.Mx _ ?_ ?_ (hPz.grew (by (show Grew _ _; repeat (first | (with_reducible exact Grew.refl _) | (with_reducible assumption) | (with_reducible exact Grew.same_o) | (with_reducible exact Grew.app_o) | (with_reducible refine Grew.ext ?_ _ _) | (with_reducible refine Grew.alloc ?_ _) | ((with_reducible refine Grew.setCell ?_ ?_ _); rotate_left; (focus (dsimp only; first | omega | (simp only [size_ext, World.size_alloc, Array.size_append]; omega)))) | (with_reducible refine Grew.drewN ?_ _) | (with_reducible refine Grew.drew ?_))))) (hPx.grew (by (show Grew _ _; repeat (first | (with_reducible exact Grew.refl _) | (with_reducible assumption) | (with_reducible exact Grew.same_o) | (with_reducible exact Grew.app_o) | (with_reducible refine Grew.ext ?_ _ _) | (with_reducible refine Grew.alloc ?_ _) | ((with_reducible refine Grew.setCell ?_ ?_ _); rotate_left; (focus (dsimp only; first | omega | (simp only [size_ext, World.size_alloc, Array.size_append]; omega)))) | (with_reducible refine Grew.drewN ?_ _) | (with_reducible refine Grew.drew ?_)))))).mono ?_); (focus (first | (with_reducible assumption) | (with_reducible refine FS.ext ?_ _ _; with_reducible assumption) | (with_reducible refine IS.ext ?_ _ _; with_reducible assumption) | (refine hDu _ ?_; with_reducible assumption) | (refine hOu _ ?_; with_reducible assumption) | (refine hDa _ ?_; with_reducible assumption) | (refine hDb _ ?_; with_reducible assumption) | (refine hDc _ ?_; with_reducible assumption) | (refine hDd _ ?_; with_reducible assumption) | (refine FW.fs ?_ (by omega) _; with_reducible assumption) | (refine WS.fs ?_; with_reducible assumption) | (refine FW.fs ?_ (by omega) _; assumption) | omega | assumption)); (focus (first | (with_reducible assumption) | (with_reducible refine FS.ext ?_ _ _; with_reducible assumption) | (with_reducible refine IS.ext ?_ _ _; with_reducible assumption) | (refine hDu _ ?_; with_reducible assumption) | (refine hOu _ ?_; with_reducible assumption) | (refine hDa _ ?_; with_reducible assumption) | (refine hDb _ ?_; with_reducible assumption) | (refine hDc _ ?_; with_reducible assumption) | (refine hDd _ ?_; with_reducible assumption) | (refine FW.fs ?_ (by omega) _; with_reducible assumption) | (refine WS.fs ?_; with_reducible assumption) | (refine FW.fs ?_ (by omega) _; assumption) | omega | assumption)); rintro e w1 ⟨rfl, oe, ne, rfl⟩)) | (go_at_call 136; ((with_reducible refine (H.My _ ?_ ?_ (hPz.grew (by (show Grew _ _; repeat (first | (with_reducible exact Grew.refl _) | (with_reducible assumption) | (with_reducible exact Grew.same_o) | (with_reducible exact Grew.app_o) | (with_reducible refine Grew.ext ?_ _ _) | (with_reducible refine Grew.alloc ?_ _) | ((with_reducible refine Grew.setCell ?_ ?_ _); rotate_left; (focus (dsimp only; first | omega | (simp only [size_ext, World.size_alloc, Array.size_append]; omega)))) | (with_reducible refine Grew.drewN ?_ _) | (with_reducible refine Grew.drew ?_))))) (hPy.grew (by (show Grew _ _; repeat (first | (with_reducible exact Grew.refl _) | (with_reducible assumption) | (with_reducible exact Grew.same_o) | (with_reducible exact Grew.app_o) | (with_reducible refine Grew.ext ?_ _ _) | (with_reducible refine Grew.alloc ?_ _) | ((with_reducible refine Grew.setCell ?_ ?_ _); rotate_left; (focus (dsimp only; first | omega | (simp only [size_ext, World.size_alloc, Array.size_append]; omega)))) | (with_reducible refine Grew.drewN ?_ _) | (with_reducible refine Grew.drew ?_)))))).mono ?_); (focus (first | (with_reducible assumption) | (with_reducible refine FS.ext ?_ _ _; with_reducible assumption) | (with_reducible refine IS.ext ?_ _ _; with_reducible assumption) | (refine hDu _ ?_; with_reducible assumption) | (refine hOu _ ?_; with_reducible assumption) | (refine hDa _ ?_; with_reducible assumption) | (refine hDb _ ?_; with_reducible assumption) | (refine hDc _ ?_; with_reducible assumption) | (refine hDd _ ?_; with_reducible assumption) | (refine FW.fs ?_ (by omega) _; with_reducible assumption) | (refine WS.fs ?_; with_reducible assumption) | (refine FW.fs ?_ (by omega) _; assumption) | omega | assumption)); (focus (first | (with_reducible assumption) | (with_reducible refine FS.ext ?_ _ _; with_reducible assumption) | (with_reducible refine IS.ext ?_ _ _; with_reducible assumption) | (refine hDu _ ?_; with_reducible assumption) | (refine hOu _ ?_; with_reducible assumption) | (refine hDa _ ?_; with_reducible assumption) | (refine hDb _ ?_; with_reducible assumption) | (refine hDc _ ?_; with_reducible assumption) | (refine hDd _ ?_; with_reducible assumption) | (refine FW.fs ?_ (by omega) _; with_reducible assumption) | (refine WS.fs ?_; with_reducible assumption) | (refine FW.fs ?_ (by omega) _; assumption) | omega | assumption)); rintro e w1 ⟨rfl, of, nf, rfl⟩)))
      go_ret
      exact ⟨rfl, by (show Grew _ _; repeat (first | (with_reducible exact Grew.refl _) | (with_reducible assumption) | (with_reducible exact Grew.same_o) | (with_reducible exact Grew.app_o) | (with_reducible refine Grew.ext ?_ _ _) | (with_reducible refine Grew.alloc ?_ _) | ((with_reducible refine Grew.setCell ?_ ?_ _); rotate_left; (focus (dsimp only; first | omega | (simp only [size_ext, World.size_alloc, Array.size_append]; omega)))) | (with_reducible refine Grew.drewN ?_ _) | (with_reducible refine Grew.drew ?_)))⟩
  · clear h
    go_enter Try.func148, Try.ntmps148
    refine seq_stop ?_
    go_wp2
    refine stop_go (fun W hW => ?_)
    have s1 : w.heap.size < W.heap.size := by rw [hW]; simp only [World.size_alloc]; omega
    have b1 : ∀ i, W.cell? ⟨w.heap.size, i, none⟩ = (#[.slice (some ⟨bx, 0, none⟩) x.ws.length cx, .int .i64 x.off, .int .i64 x.rows, .int .i64 x.cols, .int .i64 x.ld] : Array Value)[i]? := by intro i; rw [hW]; go_simp
    have s2 : w.heap.size + 1 < W.heap.size := by rw [hW]; simp only [World.size_alloc]; omega
    have b2 : ∀ i, W.cell? ⟨w.heap.size + 1, i, none⟩ = (#[.slice (some ⟨bz, 0, none⟩) y.ws.length cz, .int .i64 y.off, .int .i64 y.rows, .int .i64 y.cols, .int .i64 y.ld] : Array Value)[i]? := by intro i; rw [hW]; go_simp
    have s3 : w.heap.size + 1 + 1 < W.heap.size := by rw [hW]; simp only [World.size_alloc]; omega
    have b3 : ∀ i, W.cell? ⟨w.heap.size + 1 + 1, i, none⟩ = (#[.slice (some ⟨g, 0, none⟩) z.ws.length cg, .int .i64 z.off, .int .i64 z.rows, .int .i64 z.cols, .int .i64 z.ld] : Array Value)[i]? := by intro i; rw [hW]; go_simp
    have g0 : Grew w W := by rw [hW]; exact (((Grew.refl _).alloc _).alloc _).alloc _
    clear hW
    have hXW := hX.grew g0
    have hYW := hY.grew g0
    have hZW := hZ.grew g0
    go_wp2_with (first | (go_at_call 130; ((with_reducible refine (H.X _ ?_).mono ?_); (focus (first | (with_reducible assumption) | (with_reducible refine FS.ext ?_ _ _; with_reducible assumption) | (with_reducible refine IS.ext ?_ _ _; with_reducible assumption) | (refine hDu _ ?_; with_reducible assumption) | (refine hOu _ ?_; with_reducible assumption) | (refine hDa _ ?_; with_reducible assumption) | (refine hDb _ ?_; with_reducible assumption) | (refine hDc _ ?_; with_reducible assumption) | (refine hDd _ ?_; with_reducible assumption) | (refine FW.fs ?_ (by omega) _; with_reducible assumption) | (refine WS.fs ?_; with_reducible assumption) | (refine FW.fs ?_ (by omega) _; assumption) | omega | assumption)); rintro e w1 ⟨rfl, oa, na, rfl⟩)) | (go_at_call 130; ((with_reducible refine (H.Y _ ?_).mono ?_); (focus (first | (with_reducible assumption) | (with_reducible refine FS.ext ?_ _ _; with_reducible assumption) | (with_reducible refine IS.ext ?_ _ _; with_reducible assumption) | (refine hDu _ ?_; with_reducible assumption) | (refine hOu _ ?_; with_reducible assumption) | (refine hDa _ ?_; with_reducible assumption) | (refine hDb _ ?_; with_reducible assumption) | (refine hDc _ ?_; with_reducible assumption) | (refine hDd _ ?_; with_reducible assumption) | (refine FW.fs ?_ (by omega) _; with_reducible assumption) | (refine WS.fs ?_; with_reducible assumption) | (refine FW.fs ?_ (by omega) _; assumption) | omega | assumption)); rintro e w1 ⟨rfl, ob, nb, rfl⟩)) | (go_at_call 130; ((with_reducible refine (H.Z _ ?_).mono ?_); (focus (first | (with_reducible assumption) | (with_reducible refine FS.ext ?_ _ _; with_reducible assumption) | (with_reducible refine IS.ext ?_ _ _; with_reducible assumption) | (refine hDu _ ?_; with_reducible assumption) | (refine hOu _ ?_; with_reducible assumption) | (refine hDa _ ?_; with_reducible assumption) | (refine hDb _ ?_; with_reducible assumption) | (refine hDc _ ?_; with_reducible assumption) | (refine hDd _ ?_; with_reducible assumption) | (refine FW.fs ?_ (by omega) _; with_reducible assumption) | (refine WS.fs ?_; with_reducible assumption) | (refine FW.fs ?_ (by omega) _; assumption) | omega | assumption)); rintro e w1 ⟨rfl, oc, nc, rfl⟩)) | (go_at_call 136; ((with_reducible refine (H.Mx _ ?_ ?_ (hPz.grew (by (show Grew _ _; repeat (first | (with_reducible exact Grew.refl _) | (with_reducible assumption) | (with_reducible exact Grew.same_o) | (with_reducible exact Grew.app_o) | (with_reducible refine Grew.ext ?_ _ _) | (with_reducible refine Grew.alloc ?_ _) | ((with_reducible refine Grew.setCell ?_ ?_ _); rotate_left; (focus (dsimp only; first | omega | (simp only [size_ext, World.size_alloc, Array.size_append]; omega)))) | (with_reducible refine Grew.drewN ?_ _) | (with_reducible refine Grew.drew ?_))))) (hPx.grew (by (show Grew _ _; repeat (first | (with_reducible exact Grew.refl _) | (with_reducible assumption) | (with_reducible exact Grew.same_o) | (with_reducible exact Grew.app_o) | (with_reducible refine Grew.ext ?_ _ _) | (with_reducible refine Grew.alloc ?_ _) | ((with_reducible refine Grew.setCell ?_ ?_ _); rotate_left; (focus (dsimp only; first | omega | (simp only [size_ext, World.size_alloc, Array.size_append]; omega)))) | (with_reducible refine Grew.drewN ?_ _) | (with_reducible refine Grew.drew ?_)))))).mono ?_); (focus (first | (with_reducible assumption) | (with_reducible refine FS.ext ?_ _ _; with_reducible assumption) | (with_reducible refine IS.ext ?_ _ _; with_reducible assumption) | (refine hDu _ ?_; with_reducible assumption) | (refine hOu _ ?_; with_reducible assumption) | (refine hDa _ ?_; with_reducible assumption) | (refine hDb _ ?_; with_reducible assumption) | (refine hDc _ ?_; with_reducible assumption) | (refine hDd _ ?_; with_reducible assumption) | (refine FW.fs ?_ (by omega) _; with_reducible assumption) | (refine WS.fs ?_; with_reducible assumption) | (refine FW.fs ?_ (by omega) _; assumption) | omega | assumption)); (focus (first | (with_reducible assumption) | (with_reducible refine FS.ext ?_ _ _; with_reducible assumption) | (with_reducible refine IS.ext ?_ _ _; with_reducible assumption) | (refine hDu _ ?_; with_reducible assumption) | (refine hOu _ ?_; with_reducible assumption) | (refine hDa _ ?_; with_reducible assumption) | (refine hDb _ ?_; with_reducible assumption) | (refine hDc _ ?_; with_reducible assumption) | (refine hDd _ ?_; with_reducible assumption) | (refine FW.fs ?_ (by omega) _; with_reducible assumption) | (refine WS.fs ?_; with_reducible assumption) | (refine FW.fs ?_ (by omega) _; assumption) | omega | assumption)); rintro e w1 ⟨rfl, oe, ne, rfl⟩)) | (go_at_call 136; ((with_reducible refine (H.My _ ?_ ?_ (hPz.grew (by (show Grew _ _; repeat (first | (with_reducible exact Grew.refl _) | (with_reducible assumption) | (with_reducible exact Grew.same_o) | (with_reducible exact Grew.app_o) | (with_reducible refine Grew.ext ?_ _ _) | (with_reducible refine Grew.alloc ?_ _) | ((with_reducible refine Grew.setCell ?_ ?_ _); rotate_left; (focus (dsimp only; first | omega | (simp only [size_ext, World.size_alloc, Array.size_append]; omega)))) | (with_reducible refine Grew.drewN ?_ _) | (with_reducible refine Grew.drew ?_))))) (hPy.grew (by (show Grew _ _; repeat (first | (with_reducible exact Grew.refl _) | (with_reducible assumption) | (with_reducible exact Grew.same_o) | (with_reducible exact Grew.app_o) | (with_reducible refine Grew.ext ?_ _ _) | (with_reducible refine Grew.alloc ?_ _) | ((with_reducible refine Grew.setCell ?_ ?_ _); rotate_left; (focus (dsimp only; first | omega | (simp only [size_ext, World.size_alloc, Array.size_append]; omega)))) | (with_reducible refine Grew.drewN ?_ _) | (with_reducible refine Grew.drew ?_)))))).mono ?_); (focus (first | (with_reducible assumption) | (with_reducible refine FS.ext ?_ _ _; with_reducible assumption) | (with_reducible refine IS.ext ?_ _ _; with_reducible assumption) | (refine hDu _ ?_; with_reducible assumption) | (refine hOu _ ?_; with_reducible assumption) | (refine hDa _ ?_; with_reducible assumption) | (refine hDb _ ?_; with_reducible assumption) | (refine hDc _ ?_; with_reducible assumption) | (refine hDd _ ?_; with_reducible assumption) | (refine FW.fs ?_ (by omega) _; with_reducible assumption) | (refine WS.fs ?_; with_reducible assumption) | (refine FW.fs ?_ (by omega) _; assumption) | omega | assumption)); (focus (first | (with_reducible assumption) | (with_reducible refine FS.ext ?_ _ _; with_reducible assumption) | (with_reducible refine IS.ext ?_ _ _; with_reducible assumption) | (refine hDu _ ?_; with_reducible assumption) | (refine hOu _ ?_; with_reducible assumption) | (refine hDa _ ?_; with_reducible assumption) | (refine hDb _ ?_; with_reducible assumption) | (refine hDc _ ?_; with_reducible assumption) | (refine hDd _ ?_; with_reducible assumption) | (refine FW.fs ?_ (by omega) _; with_reducible assumption) | (refine WS.fs ?_; with_reducible assumption) | (refine FW.fs ?_ (by omega) _; assumption) | omega | assumption)); rintro e w1 ⟨rfl, of, nf, rfl⟩)))
    go_ret
    exact ⟨rfl, by (show Grew _ _; repeat (first | (with_reducible exact Grew.refl _) | (with_reducible assumption) | (with_reducible exact Grew.same_o) | (with_reducible exact Grew.app_o) | (with_reducible refine Grew.ext ?_ _ _) | (with_reducible refine Grew.alloc ?_ _) | ((with_reducible refine Grew.setCell ?_ ?_ _); rotate_left; (focus (dsimp only; first | omega | (simp only [size_ext, World.size_alloc, Array.size_append]; omega)))) | (with_reducible refine Grew.drewN ?_ _) | (with_reducible refine Grew.drew ?_)))⟩
set_option maxRecDepth 100000 in
set_option maxHeartbeats 4000000 in
theorem gcheck_6 (x y z : MatM) (bx cx bz cz g cg : Nat) (w : World) (hX : FS w (.slice (some ⟨bx, 0, none⟩) x.ws.length cx) x.ws) (hY : FS w (.slice (some ⟨bz, 0, none⟩) y.ws.length cz) y.ws) (hZ : FS w (.slice (some ⟨g, 0, none⟩) z.ws.length cg) z.ws) (hPx : Plain w bx) (hPy : Plain w bz) (hPz : Plain w g) (H : GemmC x y z bx cx bz cz g cg true true true false false) (h1 : x.cols = y.rows) (h2 : z.rows = x.rows) (h3 : z.cols = y.cols) : Calls Try.prog 148 #[.agg #[.slice (some ⟨bx, 0, none⟩) x.ws.length cx, .int .i64 x.off, .int .i64 x.rows, .int .i64 x.cols, .int .i64 x.ld], .agg #[.slice (some ⟨bz, 0, none⟩) y.ws.length cz, .int .i64 y.off, .int .i64 y.rows, .int .i64 y.cols, .int .i64 y.ld], .agg #[.slice (some ⟨g, 0, none⟩) z.ws.length cg, .int .i64 z.off, .int .i64 z.rows, .int .i64 z.cols, .int .i64 z.ld]] w (fun e w' => e = .returned (.int .i64 0) ∧ ∃ o n, w' = ext w o n) := by
  have d1 : (x.cols != y.rows) = false := by simpa using h1
  have d2 : (z.rows != x.rows) = false := by simpa using h2
  have d3 : (z.cols != y.cols) = false := by simpa using h3
  clear h1 h2 h3
  go_enter Try.func148, Try.ntmps148
  refine seq_stop ?_
  go_wp2
  refine stop_go (fun W hW => ?_)
  have s1 : w.heap.size < W.heap.size := by rw [hW]; simp only [World.size_alloc]; omega
  have b1 : ∀ i, W.cell? ⟨w.heap.size, i, none⟩ = (#[.slice (some ⟨bx, 0, none⟩) x.ws.length cx, .int .i64 x.off, .int .i64 x.rows, .int .i64 x.cols, .int .i64 x.ld] : Array Value)[i]? := by intro i; rw [hW]; go_simp
  have s2 : w.heap.size + 1 < W.heap.size := by rw [hW]; simp only [World.size_alloc]; omega
  have b2 : ∀ i, W.cell? ⟨w.heap.size + 1, i, none⟩ = (#[.slice (some ⟨bz, 0, none⟩) y.ws.length cz, .int .i64 y.off, .int .i64 y.rows, .int .i64 y.cols, .int .i64 y.ld] : Array Value)[i]? := by intro i; rw [hW]; go_simp
  have s3 : w.heap.size + 1 + 1 < W.heap.size := by rw [hW]; simp only [World.size_alloc]; omega
  have b3 : ∀ i, W.cell? ⟨w.heap.size + 1 + 1, i, none⟩ = (#[.slice (some ⟨g, 0, none⟩) z.ws.length cg, .int .i64 z.off, .int .i64 z.rows, .int .i64 z.cols, .int .i64 z.ld] : Array Value)[i]? := by intro i; rw [hW]; go_simp
  have g0 : Grew w W := by rw [hW]; exact (((Grew.refl _).alloc _).alloc _).alloc _
  clear hW
  have hXW := hX.grew g0
  have hYW := hY.grew g0
  have hZW := hZ.grew g0
  go_wp2_with (first | (go_at_call 130; ((with_reducible refine (H.X _ ?_).mono ?_); (focus (first | (with_reducible assumption) | (with_reducible refine FS.ext ?_ _ _; with_reducible assumption) | (with_reducible refine IS.ext ?_ _ _; with_reducible assumption) | (refine hDu _ ?_; with_reducible assumption) | (refine hOu _ ?_; with_reducible assumption) | (refine hDa _ ?_; with_reducible assumption) | (refine hDb _ ?_; with_reducible assumption) | (refine hDc _ ?_; with_reducible assumption) | (refine hDd _ ?_; with_reducible assumption) | (refine FW.fs ?_ (by omega) _; with_reducible assumption) | (refine WS.fs ?_; with_reducible assumption) | (refine FW.fs ?_ (by omega) _; assumption) | omega | assumption)); rintro e w1 ⟨rfl, oa, na, rfl⟩)) | (go_at_call 130; ((with_reducible refine (H.Y _ ?_).mono ?_); (focus (first | (with_reducible assumption) | (with_reducible refine FS.ext ?_ _ _; with_reducible assumption) | (with_reducible refine IS.ext ?_ _ _; with_reducible assumption) | (refine hDu _ ?_; with_reducible assumption) | (refine hOu _ ?_; with_reducible assumption) | (refine hDa _ ?_; with_reducible assumption) | (refine hDb _ ?_; with_reducible assumption) | (refine hDc _ ?_; with_reducible assumption) | (refine hDd _ ?_; with_reducible assumption) | (refine FW.fs ?_ (by omega) _; with_reducible assumption) | (refine WS.fs ?_; with_reducible assumption) | (refine FW.fs ?_ (by omega) _; assumption) | omega | assumption)); rintro e w1 ⟨rfl, ob, nb, rfl⟩)) | (go_at_call 130; ((with_reducible refine (H.Z _ ?_).mono ?_); (focus (first | (with_reducible assumption) | (with_reducible refine FS.ext ?_ _ _; with_reducible assumption) | (with_reducible refine IS.ext ?_ _ _; with_reducible assumption) | (refine hDu _ ?_; with_reducible assumption) | (refine hOu _ ?_; with_reducible assumption) | (refine hDa _ ?_; with_reducible assumption) | (refine hDb _ ?_; with_reducible assumption) | (refine hDc _ ?_; with_reducible assumption) | (refine hDd _ ?_; with_reducible assumption) | (refine FW.fs ?_ (by omega) _; with_reducible assumption) | (refine WS.fs ?_; with_reducible assumption) | (refine FW.fs ?_ (by omega) _; assumption) | omega | assumption)); rintro e w1 ⟨rfl, oc, nc, rfl⟩)) | (go_at_call 136; ((with_reducible refine (H.Mx _ ?_ ?_ (hPz.grew (by (show Grew _ _; repeat (first | (with_reducible exact Grew.refl _) | (with_reducible assumption) | (with_reducible exact Grew.same_o) | (with_reducible exact Grew.app_o) | (with_reducible refine Grew.ext ?_ _ _) | (with_reducible refine Grew.alloc ?_ _) | ((with_reducible refine Grew.setCell ?_ ?_ _); rotate_left; (focus (dsimp only; first | omega | (simp only [size_ext, World.size_alloc, Array.size_append]; omega)))) | (with_reducible refine Grew.drewN ?_ _) | (with_reducible refine Grew.drew ?_))))) (hPx.grew (by (show Grew _ _; repeat (first | (with_reducible exact Grew.refl _) | (with_reducible assumption) | (with_reducible exact Grew.same_o) | (with_reducible exact Grew.app_o) | (with_reducible refine Grew.ext ?_ _ _) | (with_reducible refine Grew.alloc ?_ _) | ((with_reducible refine Grew.setCell ?_ ?_ _); rotate_left; (focus (dsimp only; first | omega | (simp only [size_ext, World.size_alloc, Array.size_append]; omega)))) | (with_reducible refine Grew.drewN ?_ _) | (with_reducible refine Grew.drew ?_)))))).mono ?_); (focus (first | (with_reducible assumption) | (with_reducible refine FS.ext ?_ _ _; with_reducible assumption) | (with_reducible refine IS.ext ?_ _ _; with_reducible assumption) | (refine hDu _ ?_; with_reducible assumption) | (refine hOu _ ?_; with_reducible assumption) | (refine hDa _ ?_; with_reducible assumption) | (refine hDb _ ?_; with_reducible assumption) | (refine hDc _ ?_; with_reducible assumption) | (refine hDd _ ?_; with_reducible assumption) | (refine FW.fs ?_ (by omega) _; with_reducible assumption) | (refine WS.fs ?_; with_reducible assumption) | (refine FW.fs ?_ (by omega) _; assumption) | omega | assumption)); (focus (first | (with_reducible assumption) | (with_reducible refine FS.ext ?_ _ _; with_reducible assumption) | (with_reducible refine IS.ext ?_ _ _; with_reducible assumption) | (refine hDu _ ?_; with_reducible assumption) | (refine hOu _ ?_; with_reducible assumption) | (refine hDa _ ?_; with_reducible assumption) | (refine hDb _ ?_; with_reducible assumption) | (refine hDc _ ?_; with_reducible assumption) | (refine hDd _ ?_; with_reducible assumption) | (refine FW.fs ?_ (by omega) _; with_reducible assumption) | (refine WS.fs ?_; with_reducible assumption) | (refine FW.fs ?_ (by omega) _; assumption) | omega | assumption)); rintro e w1 ⟨rfl, oe, ne, rfl⟩)) | (go_at_call 136; ((with_reducible refine (H.My _ ?_ ?_ (hPz.grew (by (show Grew _ _; repeat (first | (with_reducible exact Grew.refl _) | (with_reducible assumption) | (with_reducible exact Grew.same_o) | (with_reducible exact Grew.app_o) | (with_reducible refine Grew.ext ?_ _ _) | (with_reducible refine Grew.alloc ?_ _) | ((with_reducible refine Grew.setCell ?_ ?_ _); rotate_left; (focus (dsimp only; first | omega | (simp only [size_ext, World.size_alloc, Array.size_append]; omega)))) | (with_reducible refine Grew.drewN ?_ _) | (with_reducible refine Grew.drew ?_))))) (hPy.grew (by (show Grew _ _; repeat (first | (with_reducible exact Grew.refl _) | (with_reducible assumption) | (with_reducible exact Grew.same_o) | (with_reducible exact Grew.app_o) | (with_reducible refine Grew.ext ?_ _ _) | (with_reducible refine Grew.alloc ?_ _) | ((with_reducible refine Grew.setCell ?_ ?_ _); rotate_left; (focus (dsimp only; first | omega | (simp only [size_ext, World.size_alloc, Array.size_append]; omega)))) | (with_reducible refine Grew.drewN ?_ _) | (with_reducible refine Grew.drew ?_)))))).mono ?_); (focus (first | (with_reducible assumption) | (with_reducible refine FS.ext ?_ _ _; with_reducible assumption) | (with_reducible refine IS.ext ?_ _ _; with_reducible assumption) | (refine hDu _ ?_; with_reducible assumption) | (refine hOu _ ?_; with_reducible assumption) | (refine hDa _ ?_; with_reducible assumption) | (refine hDb _ ?_; with_reducible assumption) | (refine hDc _ ?_; with_reducible assumption) | (refine hDd _ ?_; with_reducible assumption) | (refine FW.fs ?_ (by omega) _; with_reducible assumption) | (refine WS.fs ?_; with_reducible assumption) | (refine FW.fs ?_ (by omega) _; assumption) | omega | assumption)); (focus (first | (with_reducible assumption) | (with_reducible refine FS.ext ?_ _ _; with_reducible assumption) | (with_reducible refine IS.ext ?_ _ _; with_reducible assumption) | (refine hDu _ ?_; with_reducible assumption) | (refine hOu _ ?_; with_reducible assumption) | (refine hDa _ ?_; with_reducible assumption) | (refine hDb _ ?_; with_reducible assumption) | (refine hDc _ ?_; with_reducible assumption) | (refine hDd _ ?_; with_reducible assumption) | (refine FW.fs ?_ (by omega) _; with_reducible assumption) | (refine WS.fs ?_; with_reducible assumption) | (refine FW.fs ?_ (by omega) _; assumption) | omega | assumption)); rintro e w1 ⟨rfl, of, nf, rfl⟩)))
  go_ret
  exact ⟨rfl, by (show Grew _ _; repeat (first | (with_reducible exact Grew.refl _) | (with_reducible assumption) | (with_reducible exact Grew.same_o) | (with_reducible exact Grew.app_o) | (with_reducible refine Grew.ext ?_ _ _) | (with_reducible refine Grew.alloc ?_ _) | ((with_reducible refine Grew.setCell ?_ ?_ _); rotate_left; (focus (dsimp only; first | omega | (simp only [size_ext, World.size_alloc, Array.size_append]; omega)))) | (with_reducible refine Grew.drewN ?_ _) | (with_reducible refine Grew.drew ?_)))⟩
/-- gemm.check. -/
theorem gcheck_any (x y z : MatM) (bx cx bz cz g cg : Nat) (w : World) (hX : FS w (.slice (some ⟨bx, 0, none⟩) x.ws.length cx) x.ws) (hY : FS w (.slice (some ⟨bz, 0, none⟩) y.ws.length cz) y.ws) (hZ : FS w (.slice (some ⟨g, 0, none⟩) z.ws.length cg) z.ws) (hPx : Plain w bx) (hPy : Plain w bz) (hPz : Plain w g) (hwx : x.wf) (hwy : y.wf) (hwz : z.wf) (hlx : x.ws.length ≤ 1000000) (hly : y.ws.length ≤ 1000000) (hlz : z.ws.length ≤ 1000000) : Calls Try.prog 148 #[.agg #[.slice (some ⟨bx, 0, none⟩) x.ws.length cx, .int .i64 x.off, .int .i64 x.rows, .int .i64 x.cols, .int .i64 x.ld], .agg #[.slice (some ⟨bz, 0, none⟩) y.ws.length cz, .int .i64 y.off, .int .i64 y.rows, .int .i64 y.cols, .int .i64 y.ld], .agg #[.slice (some ⟨g, 0, none⟩) z.ws.length cg, .int .i64 z.off, .int .i64 z.rows, .int .i64 z.cols, .int .i64 z.ld]] w (fun e w' => e = .returned (.int .i64 (gemmE x y z (decide (g = bx)) (decide (g = bz)))) ∧ ∃ o n, w' = ext w o n) := by
  have H := gemmC x y z bx cx bz cz g cg hwx hwy hwz hlx hly hlz
  unfold gemmE
  cases h1 : x.good
  · rw [h1] at H
    rw [if_pos (.inl rfl)]
    exact gcheck_1 x y z bx cx bz cz g cg w hX hY hZ hPx hPy hPz _ _ _ _ H
  · rw [h1] at H
    cases h2 : y.good
    · rw [h2] at H
      rw [if_pos (.inr (.inl rfl))]
      exact gcheck_2 x y z bx cx bz cz g cg w hX hY hZ hPx hPy hPz _ _ _ H
    · rw [h2] at H
      cases h3 : z.good
      · rw [h3] at H
        rw [if_pos (.inr (.inr rfl))]
        exact gcheck_3 x y z bx cx bz cz g cg w hX hY hZ hPx hPy hPz _ _ H
      · rw [h3] at H
        rw [if_neg (by simp)]
        by_cases h : x.cols ≠ y.rows ∨ z.rows ≠ x.rows ∨ z.cols ≠ y.cols
        · rw [if_pos h]
          exact gcheck_4 x y z bx cx bz cz g cg w hX hY hZ hPx hPy hPz _ _ H h
        · rw [if_neg h]
          have e1 : x.cols = y.rows := Decidable.not_not.1 fun e => h (.inl e)
          have e2 : z.rows = x.rows := Decidable.not_not.1 fun e => h (.inr (.inl e))
          have e3 : z.cols = y.cols := Decidable.not_not.1 fun e => h (.inr (.inr e))
          by_cases hm : meetM z x (decide (g = bx)) = true ∨ meetM z y (decide (g = bz)) = true
          · rw [if_pos hm]
            exact gcheck_5 x y z bx cx bz cz g cg w hX hY hZ hPx hPy hPz _ _ H e1 e2 e3 (by rcases hm with hm | hm <;> simp [hm])
          · rw [if_neg hm]
            simp only [not_or, Bool.not_eq_true] at hm
            rw [hm.1, hm.2] at H
            exact gcheck_6 x y z bx cx bz cz g cg w hX hY hZ hPx hPy hPz H e1 e2 e3
end Go.Proofs.Ytcmggfpcbijcjaa
end
section
/-
  Worlds that grew: arrays of new blocks, however they are bracketed.
-/
set_option linter.unusedSimpArgs false
set_option linter.unusedVariables false
namespace Sedge
open Go Go.RowKit
theorem Grew.app_r {X U : World} {o o' : Array Obj} {n : Nat} (h : Grew X (Sedge.ext U o n)) : Grew X (Sedge.ext U (o ++ o') n) := h.trans ⟨o', n, by simp⟩
end Sedge
end
section
/-
  Contracts: view.Dense of no numbers, view.Set, gemv.MulT (where all is well).
-/
set_option linter.unusedSimpArgs false
set_option linter.unusedVariables false
open Go Go.RowKit Sedge
namespace Go.Proofs.Ytcmggfpcbijcjaa
set_option maxRecDepth 100000 in
set_option maxHeartbeats 1000000 in
/-- view.Dense, without numbers. -/
theorem dense0k_any (r c : Nat) (w : World) (hr : r ≤ 64) (hc : c ≤ 64) (hr1 : 1 ≤ r) :
   Calls Try.prog 69 #[.int .i64 r, .int .i64 c, .slice none 0 0] w (fun e w' => ∃ k, e = .returned (.agg #[.slice (some ⟨k, 0, none⟩) (r * c) (r * c), .int .i64 0, .int .i64 r, .int .i64 c, .int .i64 r]) ∧ w.heap.size ≤ k ∧ FW w' k (List.replicate (r * c) 0) ∧ ∃ o n, w' = ext w o n) := by
  have hm : r * c ≤ 64 * 64 := Nat.mul_le_mul hr hc
  have h2 : IntKind.i64.wrap ((r : Int) * c) = (r : Int) * c := IntWalk.i64_in _ (by rw [← Int.natCast_mul]; omega)
  have d1 : decide ((r : Int) < 0) = false := by simp
  have d2 : decide ((c : Int) < 0) = false := by simp
  have d3 : decide ((64 : Int) < (r : Int)) = false := by simp; omega
  have d4 : decide ((64 : Int) < (c : Int)) = false := by simp; omega
  have d6 : decide ((1 : Int) ≤ (r : Int)) = true := by simp; omega
  have d7 : (0 : Int) ≤ (r : Int) * c := by rw [← Int.natCast_mul]; omega
  go_enter Try.func69, Try.ntmps69
  refine seq_stop ?_
  go_wp2
  refine stop_go (fun W hW => ?_)
  have s1 : w.heap.size < W.heap.size := by rw [hW]; simp only [World.size_alloc]; omega
  have b1 : ∀ i, W.cell? ⟨w.heap.size, i, none⟩ = (#[.slice none 0 0, .int .i64 0, .int .i64 0, .int .i64 0, .int .i64 0] : Array Value)[i]? := by intro i; rw [hW]; go_simp
  have f1 : ∀ i, W.frozen? ⟨w.heap.size, i, none⟩ = false := by intro i; rw [hW]; go_simp
  have g0 : Grew w W := by rw [hW]; exact (Grew.refl _).alloc _
  clear hW
  go_wp2_with (at_make; refine make_f (L := (r : Int) * (c : Int)) finfo (Grew.refl W) _ _ rfl rfl (r * c) (Int.natCast_mul r c).symm rfl rfl (by omega) ?_; intro oo nn k hk ho; have hF := ho.made)
  refine name_any (fun V hV => ?_)
  have gV : Grew W V := by rw [← hV]; (show Grew _ _; repeat (first | (with_reducible exact Grew.refl _) | (with_reducible assumption) | (with_reducible exact Grew.same_o) | (with_reducible exact Grew.app_o) | (with_reducible refine Grew.ext ?_ _ _) | (with_reducible refine Grew.alloc ?_ _) | ((with_reducible refine Grew.setCell ?_ ?_ _); rotate_left; (focus (dsimp only; first | omega | (simp only [size_ext, World.size_alloc, Array.size_append]; omega)))) | (with_reducible refine Grew.drewN ?_ _) | (with_reducible refine Grew.drew ?_)))
  have sV := gV.below.size
  have k1 : w.heap.size < V.heap.size := by omega
  have k3 : W.heap.size + oo.size < V.heap.size := by rw [← hV]; simp only [World.size_alloc, size_ext]; omega
  have c3 : ∀ i, V.cell? ⟨W.heap.size + oo.size, i, none⟩ = (#[.slice (some ⟨k, 0, none⟩) (r * c) (r * c), .int .i64 0, .int .i64 r, .int .i64 c, .int .i64 r] : Array Value)[i]? := by subst hV; intro i; go_simp
  have c1 : ∀ i, V.cell? ⟨w.heap.size, i, none⟩ = (#[.slice none 0 0, .int .i64 0, .int .i64 0, .int .i64 0, .int .i64 0] : Array Value)[i]? := fun i => (gV.cell s1).trans (b1 i)
  have z1 : ∀ i, V.frozen? ⟨w.heap.size, i, none⟩ = false := fun i => (gV.frozen s1).trans (f1 i)
  have hFV : FW V k (List.replicate (r * c) 0) := by rw [← hV]; (repeat (first | (with_reducible assumption) | ((with_reducible refine FW.ext_set ?_ ?_ ?_ _); rotate_left; (focus (simp only [size_setCell', World.size_alloc, size_ext, size_upd]; omega)); (focus (dsimp only; omega))) | ((with_reducible refine FW.setCell_ne ?_ ?_ _); rotate_left; (focus (dsimp only; omega))) | (with_reducible refine FW.ext ?_ _ _) | (with_reducible refine FW.alloc ?_ _)))
  clear hV b1 f1 ho
  go_loopw [43] (fun s wr => s = .int .i64 0 ∧ wr = V) (fun s _ => 0)
  case atStart => exact ⟨rfl, rfl⟩
  case round =>
    obtain ⟨rfl, rfl⟩ := hrel
    go_wp2
    refine bodyPost_ret (v := .agg #[.slice (some ⟨k, 0, none⟩) (r * c) (r * c), .int .i64 0, .int .i64 r, .int .i64 c, .int .i64 r]) (by simp [results, Try.results69, go_sem, *]) rfl ?_
    have g1 := Grew.trans g0 gV
    exact ⟨k, rfl, by omega, by (repeat (first | (with_reducible assumption) | ((with_reducible refine FW.ext_set ?_ ?_ ?_ _); rotate_left; (focus (simp only [size_setCell', World.size_alloc, size_ext, size_upd]; omega)); (focus (dsimp only; omega))) | ((with_reducible refine FW.setCell_ne ?_ ?_ _); rotate_left; (focus (dsimp only; omega))) | (with_reducible refine FW.ext ?_ _ _) | (with_reducible refine FW.alloc ?_ _))), by (show Grew _ _; repeat (first | (with_reducible exact Grew.refl _) | (with_reducible assumption) | (with_reducible exact Grew.same_o) | (with_reducible exact Grew.app_o) | (with_reducible refine Grew.ext ?_ _ _) | (with_reducible refine Grew.alloc ?_ _) | ((with_reducible refine Grew.setCell ?_ ?_ _); rotate_left; (focus (dsimp only; first | omega | (simp only [size_ext, World.size_alloc, Array.size_append]; omega)))) | (with_reducible refine Grew.drewN ?_ _) | (with_reducible refine Grew.drew ?_)))⟩
set_option maxRecDepth 100000 in
set_option maxHeartbeats 1000000 in
/-- view.Set, within. -/
theorem vset_any (x : MatM) (g cap i j b X : Nat) (w : World) (hF : FW w g x.ws) (hb : IsF b X) (hx : x.good = true) (hwf : x.wf) (hi : (i : Int) < x.rows) (hj : (j : Int) < x.cols) (hl : x.ws.length ≤ 1000000) :
   Calls Try.prog 83 #[.agg #[.slice (some ⟨g, 0, none⟩) x.ws.length cap, .int .i64 x.off, .int .i64 x.rows, .int .i64 x.cols, .int .i64 x.ld], .int .i64 i, .int .i64 j, .float .f64 b] w (fun e w' => e = .returned (.bool true) ∧ But w [g] w' ∧ FW w' g (x.ws.set (x.place i j) X)) := by
  have hp := MatM.good_place hx hi hj
  have hpl : ∀ w', FS w' (.slice (some ⟨g, 0, none⟩) x.ws.length cap) x.ws → Calls Try.prog 159 #[.agg #[.slice (some ⟨g, 0, none⟩) x.ws.length cap, .int .i64 x.off, .int .i64 x.rows, .int .i64 x.cols, .int .i64 x.ld], .int .i64 i, .int .i64 j] w' (fun e w2 => e = .returned (.int .i64 (x.off + i + j * x.ld)) ∧ ∃ o n, w2 = ext w' o n) := fun w' h => place_any x _ i j w' h hx hwf hi hj hl
  have d0 : decide (0 ≤ x.off + i + j * x.ld) = true := by simp; omega
  have hltg := hF.lt
  obtain ⟨P, hP⟩ : ∃ P : Nat, x.off + i + j * x.ld = P := ⟨(x.off + i + j * x.ld).toNat, by omega⟩
  have ePl : x.place i j = P := by unfold MatM.place; omega
  have ltP : P < x.ws.length := by omega
  rw [hP] at d0
  simp only [hP] at hpl
  rw [ePl]
  clear hx hwf hP ePl
  go_enter Try.func83, Try.ntmps83
  refine seq_stop ?_
  go_wp2
  refine stop_go (fun W hW => ?_)
  have s1 : w.heap.size < W.heap.size := by rw [hW]; simp only [World.size_alloc]; omega
  have b1 : ∀ i, W.cell? ⟨w.heap.size, i, none⟩ = (#[.slice (some ⟨g, 0, none⟩) x.ws.length cap, .int .i64 x.off, .int .i64 x.rows, .int .i64 x.cols, .int .i64 x.ld] : Array Value)[i]? := by intro i; rw [hW]; go_simp
  have g0 : Grew w W := by rw [hW]; exact (Grew.refl _).alloc _
  clear hW
  have hFW := hF.grew g0
  have hDW := hFW.fs (by omega) cap
  have fz := hFW.notFrozen
  obtain ⟨r0, hr0, _⟩ := hFW.get ltP
  have hlW := hFW.lt
  have bW := (But.refl w [g]).grew g0
  go_wp2_with (first | (go_at_call 159; ((with_reducible refine (hpl _ ?_).mono ?_); (focus (first | (with_reducible assumption) | (with_reducible refine FS.ext ?_ _ _; with_reducible assumption) | (with_reducible refine IS.ext ?_ _ _; with_reducible assumption) | (refine hDu _ ?_; with_reducible assumption) | (refine hOu _ ?_; with_reducible assumption) | (refine hDa _ ?_; with_reducible assumption) | (refine hDb _ ?_; with_reducible assumption) | (refine hDc _ ?_; with_reducible assumption) | (refine hDd _ ?_; with_reducible assumption) | (refine FW.fs ?_ (by omega) _; with_reducible assumption) | (refine WS.fs ?_; with_reducible assumption) | (refine FW.fs ?_ (by omega) _; assumption) | omega | assumption)); rintro e w1 ⟨rfl, o1, n1, rfl⟩)))
  go_ret
  have q1 : But w [g] (W.setCell ⟨g, P, none⟩ (.float .f64 b)) := bW.setc hFW (by simp)
  have q2 : FW (W.setCell ⟨g, P, none⟩ (.float .f64 b)) g (x.ws.set P X) := hFW.setc hb
  exact ⟨rfl, q1.grew ⟨o1, n1, rfl⟩, q2.ext o1 n1⟩
set_option maxRecDepth 100000 in
set_option maxHeartbeats 2000000 in
/-- gemv.MulT, where all is well, in lists of their own. -/
theorem mulT_ok (a α b β : Nat) (m : MatM) (x y : VecM) (bm cm bx cx g cg : Nat) (w : World) (ha : IsF a α) (hb : IsF b β) (H : MulOk m x y bm cm bx cx g cg m.cols m.rows w) (hF : FW w g y.ws) (n1 : bm ≠ g) (n2 : bx ≠ g) (hr0 : 0 < m.rows) :
   Calls Try.prog 84 #[.float .f64 a, .agg #[(.slice (some ⟨bm, 0, none⟩) m.ws.length cm), .int .i64 m.off, .int .i64 m.rows, .int .i64 m.cols, .int .i64 m.ld], .agg #[(.slice (some ⟨bx, 0, none⟩) x.ws.length cx), .int .i64 x.off, .int .i64 x.n, .int .i64 x.inc], .float .f64 b, .agg #[(.slice (some ⟨g, 0, none⟩) y.ws.length cg), .int .i64 y.off, .int .i64 y.n, .int .i64 y.inc]] w
     (fun e w' => e = .returned (.int .i64 0) ∧ But w [g] w' ∧ ∃ L, FW w' g L ∧ VH y L (fun j => fadd (beginF β (y.num j)) (fmul α (dotTo (colV m j) x m.rows.toNat)))) := by
  have hck : ∀ w', Grew w w' → Calls Try.prog 144 #[.agg #[(.slice (some ⟨bm, 0, none⟩) m.ws.length cm), .int .i64 m.off, .int .i64 m.rows, .int .i64 m.cols, .int .i64 m.ld], .int .i64 m.cols, .int .i64 m.rows, .agg #[(.slice (some ⟨bx, 0, none⟩) x.ws.length cx), .int .i64 x.off, .int .i64 x.n, .int .i64 x.inc], .agg #[(.slice (some ⟨g, 0, none⟩) y.ws.length cg), .int .i64 y.off, .int .i64 y.n, .int .i64 y.inc]] w' (fun e w2 => e = .returned (.int .i64 0) ∧ ∃ o n, w2 = ext w' o n) := fun w' hg =>
    vcheck_ok m x y bm cm bx cx g cg m.cols m.rows w' ⟨H.M.grew hg, H.X.grew hg, H.Y.grew hg, H.pM.grew hg, H.pX.grew hg, H.pY.grew hg, H.good, H.rx, H.ry, H.xn, H.yn, H.m1, H.m2, H.wm, H.wx, H.wy, H.lm, H.lx, H.ly⟩
  have hltg := hF.lt
  have hny := VecM.right_n H.ry
  have hnly := VecM.right_nle H.ry H.ly
  have Hry := hid H.ry
  have Hyn := hid H.yn
  have hbeg : ∀ w', Grew w w' → Calls Try.prog 145 #[.float .f64 b, .agg #[(.slice (some ⟨g, 0, none⟩) y.ws.length cg), .int .i64 y.off, .int .i64 y.n, .int .i64 y.inc]] w' (fun e w2 => e = .returned (.tuple #[]) ∧ But w' [g] w2 ∧ ∃ L, FW w2 g L ∧ VH y L (fun r => beginF β (y.num r))) := fun w' hg => begin_any b β y g cg y.num y.ws w' hb (hF.grew hg) (VH.start y) H.ry H.ly
  have hcol : ∀ w' (j : Nat), (j : Int) < y.n → But w [g] w' → Calls Try.prog 149 #[.agg #[(.slice (some ⟨bm, 0, none⟩) m.ws.length cm), .int .i64 m.off, .int .i64 m.rows, .int .i64 m.cols, .int .i64 m.ld], .int .i64 j] w' (fun e w2 => e = .returned (.agg #[(.slice (some ⟨bm, 0, none⟩) m.ws.length cm), .int .i64 (m.off + j * m.ld), .int .i64 m.rows, .int .i64 1]) ∧ ∃ o n, w2 = ext w' o n) := fun w' j hj hB => by
    have := col_any m (.slice (some ⟨bm, 0, none⟩) m.ws.length cm) j w' (hB.fs_ne H.M n1) H.good H.wm (by have := H.yn; omega)
    have e : (colV m j).off = m.off + j * m.ld := by unfold colV; simp [hr0]
    rw [e] at this
    exact this
  have hdot : ∀ w' (j : Nat), (j : Int) < y.n → But w [g] w' → Calls Try.prog 128 #[.agg #[(.slice (some ⟨bm, 0, none⟩) m.ws.length cm), .int .i64 (m.off + j * m.ld), .int .i64 m.rows, .int .i64 1], .agg #[(.slice (some ⟨bx, 0, none⟩) x.ws.length cx), .int .i64 x.off, .int .i64 x.n, .int .i64 x.inc]] w' (fun e w2 => ∃ b, e = .returned (.tuple #[.float .f64 b, .int .i64 0]) ∧ IsF b (dotTo (colV m j) x m.rows.toNat) ∧ ∃ o n, w2 = ext w' o n) := fun w' j hj hB => by
    have e : (colV m j).off = m.off + j * m.ld := by unfold colV; simp [hr0]
    have := dot_ok (colV m j) x (.slice (some ⟨bm, 0, none⟩) m.ws.length cm) (.slice (some ⟨bx, 0, none⟩) x.ws.length cx) w' (hB.fs_ne H.M n1) (hB.fs_ne H.X n2) (colV_wf H.good H.lm H.wm (by have := H.yn; omega)) H.wx (colV_right H.good (by have := H.yn; omega) hr0) H.rx (by have := H.xn; show m.rows = _; omega)
    rw [e] at this
    exact this
  have hat : ∀ i : Nat, (i : Int) < y.n → ∀ w', Calls Try.prog 160 #[.agg #[(.slice (some ⟨g, 0, none⟩) y.ws.length cg), .int .i64 y.off, .int .i64 y.n, .int .i64 y.inc], .int .i64 i] w' (fun e w2 => e = .returned (.pointer (some ⟨g, y.place i, none⟩)) ∧ ∃ o n, w2 = ext w' o n) := fun i hi w' => gat_any y g cg i w' H.ry hi H.ly
  clear H
  go_enter Try.func84, Try.ntmps84
  refine seq_stop ?_
  go_wp2
  refine stop_go (fun W hW => ?_)
  have s1 : w.heap.size < W.heap.size := by rw [hW]; simp only [World.size_alloc]; omega
  have b1 : ∀ i, W.cell? ⟨w.heap.size, i, none⟩ = (#[(.slice (some ⟨bm, 0, none⟩) m.ws.length cm), .int .i64 m.off, .int .i64 m.rows, .int .i64 m.cols, .int .i64 m.ld] : Array Value)[i]? := by intro i; rw [hW]; go_simp
  have s2 : w.heap.size + 1 < W.heap.size := by rw [hW]; simp only [World.size_alloc]; omega
  have b2 : ∀ i, W.cell? ⟨w.heap.size + 1, i, none⟩ = (#[(.slice (some ⟨bx, 0, none⟩) x.ws.length cx), .int .i64 x.off, .int .i64 x.n, .int .i64 x.inc] : Array Value)[i]? := by intro i; rw [hW]; go_simp
  have s3 : w.heap.size + 1 + 1 < W.heap.size := by rw [hW]; simp only [World.size_alloc]; omega
  have b3 : ∀ i, W.cell? ⟨w.heap.size + 1 + 1, i, none⟩ = (#[(.slice (some ⟨g, 0, none⟩) y.ws.length cg), .int .i64 y.off, .int .i64 y.n, .int .i64 y.inc] : Array Value)[i]? := by intro i; rw [hW]; go_simp
  have g0 : Grew w W := by rw [hW]; exact (((Grew.refl _).alloc _).alloc _).alloc _
  clear hW
  have hFW := hF.grew g0
  have zW := g0.below.size
  have bw : ∀ w', But W [g] w' → But w [g] w' := fun w' h => ((But.refl w [g]).grew g0).trans h (fun _ hb => .inl hb)
  have c1 : ∀ w', But W [g] w' → ∀ i, w'.cell? ⟨w.heap.size, i, none⟩ = (#[(.slice (some ⟨bm, 0, none⟩) m.ws.length cm), .int .i64 m.off, .int .i64 m.rows, .int .i64 m.cols, .int .i64 m.ld] : Array Value)[i]? := fun w' h i => (h.cell s1 (by simp; omega)).trans (b1 i)
  have c2 : ∀ w', But W [g] w' → ∀ i, w'.cell? ⟨w.heap.size + 1, i, none⟩ = (#[(.slice (some ⟨bx, 0, none⟩) x.ws.length cx), .int .i64 x.off, .int .i64 x.n, .int .i64 x.inc] : Array Value)[i]? := fun w' h i => (h.cell s2 (by simp; omega)).trans (b2 i)
  have c3 : ∀ w', But W [g] w' → ∀ i, w'.cell? ⟨w.heap.size + 1 + 1, i, none⟩ = (#[(.slice (some ⟨g, 0, none⟩) y.ws.length cg), .int .i64 y.off, .int .i64 y.n, .int .i64 y.inc] : Array Value)[i]? := fun w' h i => (h.cell s3 (by simp; omega)).trans (b3 i)
  go_upto_region 4 with (first | (go_at_call 144; ((with_reducible refine (hck _ (g0.trans (by (show Grew _ _; repeat (first | (with_reducible exact Grew.refl _) | (with_reducible assumption) | (with_reducible exact Grew.same_o) | (with_reducible exact Grew.app_o) | (with_reducible refine Grew.ext ?_ _ _) | (with_reducible refine Grew.alloc ?_ _) | ((with_reducible refine Grew.setCell ?_ ?_ _); rotate_left; (focus (dsimp only; first | omega | (simp only [size_ext, World.size_alloc, Array.size_append]; omega)))) | (with_reducible refine Grew.drewN ?_ _) | (with_reducible refine Grew.drew ?_)))))).mono ?_); rintro e w1 ⟨rfl, oa, na, rfl⟩)))
  refine name_any (fun V hV => ?_)
  have gV : Grew W V := by rw [← hV]; (show Grew _ _; repeat (first | (with_reducible exact Grew.refl _) | (with_reducible assumption) | (with_reducible exact Grew.same_o) | (with_reducible exact Grew.app_o) | (with_reducible refine Grew.ext ?_ _ _) | (with_reducible refine Grew.alloc ?_ _) | ((with_reducible refine Grew.setCell ?_ ?_ _); rotate_left; (focus (dsimp only; first | omega | (simp only [size_ext, World.size_alloc, Array.size_append]; omega)))) | (with_reducible refine Grew.drewN ?_ _) | (with_reducible refine Grew.drew ?_)))
  have BV : But W [g] V := (But.refl _ _).grew gV
  have t3 := c3 _ BV
  have zV := gV.below.size
  clear hV b1 b2 b3 hck
  go_upto_region 5 with (first | (go_at_call 145; ((with_reducible refine (hbeg _ (g0.trans (gV.trans (by (show Grew _ _; repeat (first | (with_reducible exact Grew.refl _) | (with_reducible assumption) | (with_reducible exact Grew.same_o) | (with_reducible exact Grew.app_o) | (with_reducible refine Grew.ext ?_ _ _) | (with_reducible refine Grew.alloc ?_ _) | ((with_reducible refine Grew.setCell ?_ ?_ _); rotate_left; (focus (dsimp only; first | omega | (simp only [size_ext, World.size_alloc, Array.size_append]; omega)))) | (with_reducible refine Grew.drewN ?_ _) | (with_reducible refine Grew.drew ?_))))))).mono ?_); rintro e w1 ⟨rfl, hB1, L1, hL1, hS1⟩)))
  have BW1 : But W [g] w1 := BV.trans hB1 (fun _ hb => .inl hb)
  have t3 := c3 _ BW1
  have zB1 := BW1.size
  have k3 : w.heap.size + 1 + 1 < w1.heap.size := by omega
  go_wp2
  clear t3
  go_loopw [31] (fun c wr => ∃ (i : Nat) (L : List Nat), (i : Int) ≤ y.n ∧ c = .int .i64 i ∧ But W [g] wr ∧ FW wr g L ∧ VH y L (fun r => if r < i then fadd (beginF β (y.num r)) (fmul α (dotTo (colV m r) x m.rows.toNat)) else beginF β (y.num r))) (fun c _ => (y.n - intOf c).toNat)
  case atStart => exact ⟨0, L1, hny.1, rfl, BW1, hL1, hS1.congr fun r _ => by simp⟩
  case round =>
    obtain ⟨i, L, hi, rfl, hB, hL, hS⟩ := hrel
    have zB := hB.size
    by_cases hlt : (i : Int) < y.n
    · have hlt' := hid hlt
      have t1 := c1 _ hB
      have t2 := c2 _ hB
      have k1 : w.heap.size < wr.heap.size := by omega
      have k2 : w.heap.size + 1 < wr.heap.size := by omega
      have hc2 := fun w' g => hcol w' i hlt (bw _ (hB.grew g))
      have hd2 := fun w' g => hdot w' i hlt (bw _ (hB.grew g))
      have hat2 := hat i hlt
      obtain ⟨r0, hr0, hf0⟩ := hL.get (i := y.place i) (by rw [hS.len]; exact VecM.place_lt Hry.out hlt)
      have hgi := hS.get i hlt
      rw [if_neg (by omega)] at hgi
      rw [hgi] at hf0
      have t3 := c3 _ hB
      have k3 : w.heap.size + 1 + 1 < wr.heap.size := by omega
      have gl := hL.lt
      have fz : ∀ i, wr.frozen? ⟨g, i, none⟩ = false := hL.notFrozen
      go_upto_region 8 with fail
      refine wp_region_R (Grew wr) [] [(0,0), (0,1), (0,3), (1,2), (1,4), (0,5), (0,6), (0,7), (0,8), (0,9)] (by kernel_rfl) (by kernel_rfl) (fun _ _ _ _ h _ => h) (by first | exact ⟨_, _, ext_drew⟩ | exact ⟨_, _, drew_ext0⟩ | (show Grew _ _; repeat (first | (with_reducible exact Grew.refl _) | (with_reducible assumption) | (with_reducible exact Grew.same_o) | (with_reducible exact Grew.app_o) | (with_reducible refine Grew.ext ?_ _ _) | (with_reducible refine Grew.alloc ?_ _) | ((with_reducible refine Grew.setCell ?_ ?_ _); rotate_left; (focus (dsimp only; first | omega | (simp only [size_ext, World.size_alloc, Array.size_append]; omega)))) | (with_reducible refine Grew.drewN ?_ _) | (with_reducible refine Grew.drew ?_)))) ?_
      go_wp2_with (first | ((with_reducible refine wpR_id ?_); first | (refine wpR_take (v := ?_) rfl rfl ?_ ?_; rotate_left; (focus (rintro w' ⟨o', n', rfl⟩; go_simp; try with_reducible rfl)); simp only [Act.put, List.setIfInBounds_toArray, List.set_cons_zero, List.set_cons_succ]) | (refine wpR_pure (v := ?_) rfl rfl ?_ ?_; rotate_left; (focus (intro w'; go_simp; try with_reducible rfl)); simp only [Act.put, List.setIfInBounds_toArray, List.set_cons_zero, List.set_cons_succ]) | (refine wpR_takeG (v := ?_) rfl rfl rfl rfl rfl ?_ ?_; rotate_left; (focus (rintro w' ⟨o', n', rfl⟩; go_simp; try with_reducible rfl)); simp only [Act.put, List.setIfInBounds_toArray, List.set_cons_zero, List.set_cons_succ]) | (refine wpR_skip rfl rfl rfl rfl rfl rfl ?_; simp only [Act.put, List.setIfInBounds_toArray, List.set_cons_zero, List.set_cons_succ]) | (refine wpR_skipU rfl rfl rfl rfl rfl ?_; simp only [Act.put, List.setIfInBounds_toArray, List.set_cons_zero, List.set_cons_succ]) | (refine wpR_do rfl rfl (fun K hK => ?_)) | (refine wpR_doG rfl rfl rfl rfl rfl (fun K hK => ?_)) | (refine wpR_last rfl rfl (fun K hK => ?_)) | (refine wpR_nil ?_)) | ((with_reducible refine wpR_go ?_ ?_); (focus (show Grew _ _; repeat (first | (with_reducible exact Grew.refl _) | (with_reducible assumption) | (with_reducible exact Grew.same_o) | (with_reducible exact Grew.app_o) | (with_reducible refine Grew.ext ?_ _ _) | (with_reducible refine Grew.alloc ?_ _) | ((with_reducible refine Grew.setCell ?_ ?_ _); rotate_left; (focus (dsimp only; first | omega | (simp only [size_ext, World.size_alloc, Array.size_append]; omega)))) | (with_reducible refine Grew.drewN ?_ _) | (with_reducible refine Grew.drew ?_))))) | ((with_reducible refine upon_id ?_); refine upon_fop rfl (by assumption) (by assumption) ?_; intro rr nn hr) | (go_at_call 149; ((with_reducible refine (hc2 _ (by (show Grew _ _; (try simp only [← Array.append_assoc]); repeat (first | (with_reducible exact Grew.same_o) | (with_reducible exact Grew.refl _) | (with_reducible assumption) | (with_reducible refine Grew.alloc ?_ _) | (with_reducible refine Grew.app_r ?_) | ((with_reducible refine Grew.setCell ?_ ?_ _); rotate_left; (focus (dsimp only; first | omega | (simp only [size_ext, World.size_alloc, Array.size_append]; omega)))) | (with_reducible refine Grew.ext ?_ _ _) | (with_reducible refine Grew.drewN ?_ _) | (with_reducible refine Grew.drew ?_))))).mono ?_); rintro e w1 ⟨rfl, oc, nc, rfl⟩)) | (go_at_call 128; ((with_reducible refine (hd2 _ (by (show Grew _ _; (try simp only [← Array.append_assoc]); repeat (first | (with_reducible exact Grew.same_o) | (with_reducible exact Grew.refl _) | (with_reducible assumption) | (with_reducible refine Grew.alloc ?_ _) | (with_reducible refine Grew.app_r ?_) | ((with_reducible refine Grew.setCell ?_ ?_ _); rotate_left; (focus (dsimp only; first | omega | (simp only [size_ext, World.size_alloc, Array.size_append]; omega)))) | (with_reducible refine Grew.ext ?_ _ _) | (with_reducible refine Grew.drewN ?_ _) | (with_reducible refine Grew.drew ?_))))).mono ?_); rintro e w1 ⟨bd, rfl, hbd, od, nd, rfl⟩)) | (go_at_call 160; ((with_reducible refine (hat2 _).mono ?_); rintro e w1 ⟨rfl, o1, n1, rfl⟩)) | ((with_reducible refine upon_id ?_); refine upon_fop rfl (by assumption) (by assumption) ?_; intro rr nn hr))
      go_roundw
      case rel => exact ⟨i + 1, _, by have := hlt'.out; omega, by go_num, (hB.setc hL (by simp)).grew ⟨_, _, rfl⟩, (hL.setc (k := y.place i) (by assumption)).ext _ _, (hS.set Hry.out hlt'.out).congr fun r hr => by
        by_cases e : r = i
        · subst e; rw [if_pos rfl, if_pos (by omega)]; rfl
        · rw [if_neg e]
          by_cases h2 : r < i
          · rw [if_pos h2, if_pos (by omega)]
          · rw [if_neg h2, if_neg (by omega)]⟩
      case measure => (have := hlt'.out; simp [intOf]; omega)
    · go_wp2
      go_ret
      exact ⟨rfl, bw _ hB, L, hL, hS.congr fun r hr => by rw [if_pos (by omega)]⟩
end Go.Proofs.Ytcmggfpcbijcjaa
end
section
/-
  gemv.MulT and gemv.Mul, of matrices and lists of our own, from 0.
-/
set_option linter.unusedSimpArgs false
set_option linter.unusedVariables false
open Go Go.RowKit Sedge
namespace Go.Proofs.Ytcmggfpcbijcjaa
theorem vec1_right' {X : List Nat} {n : Nat} (h : X.length = n) (h1 : 1 ≤ n) : VecM.right ⟨X, 0, n, 1⟩ = true := by
  simp only [VecM.right, fitsB, Bool.and_eq_true, Bool.or_eq_true, decide_eq_true_eq]; refine ⟨by omega, .inr ⟨by omega, by omega⟩⟩
/-- gemv.MulT, r x c. -/
theorem mulT_tn (a α r c : Nat) (LA X Y : List Nat) (hr : r ≤ 64) (hr1 : 1 ≤ r) (hc : c ≤ 64) (hc1 : 1 ≤ c) (ga ca gv cv gy cy : Nat) (w : World) (ha : IsF a α) (hA : FW w ga LA) (hV : FW w gv X) (hY : FW w gy Y) (eA : LA.length = r * c) (eV : X.length = r) (eY : Y.length = c) (n1 : ga ≠ gy) (n2 : gv ≠ gy) :
    Calls Try.prog 84 #[.float .f64 a, .agg #[.slice (some ⟨ga, 0, none⟩) (r * c) ca, .int .i64 0, .int .i64 r, .int .i64 c, .int .i64 r], .agg #[.slice (some ⟨gv, 0, none⟩) r cv, .int .i64 0, .int .i64 r, .int .i64 1], .float .f64 0, .agg #[.slice (some ⟨gy, 0, none⟩) c cy, .int .i64 0, .int .i64 c, .int .i64 1]] w
      (fun e w' => e = .returned (.int .i64 0) ∧ But w [gy] w' ∧ ∃ Z, FW w' gy Z ∧ Z.length = c ∧ ∀ j, j < c → Z.getD j 0 = fadd 0 (fmul α (dotTo (colV ⟨LA, 0, r, c, r⟩ j) ⟨X, 0, r, 1⟩ r))) := by
  have hm : r * c ≤ 64 * 64 := Nat.mul_le_mul hr hc
  have h := mulT_ok a α 0 0 ⟨LA, 0, r, c, r⟩ ⟨X, 0, r, 1⟩ ⟨Y, 0, c, 1⟩ ga ca gv cv gy cy w ha isF_zero
    ⟨hA.fs (by omega) ca, hV.fs (by omega) cv, hY.fs (by omega) cy, FW.plain hA, FW.plain hV, FW.plain hY, matd_good eA hr1 hc1, vec1_right' eV hr1, vec1_right' eY hc1,
      rfl, rfl, by rw [show decide (gy = ga) = false by simpa using n1.symm]; simp [meetM], by rw [show decide (gy = gv) = false by simpa using n2.symm]; simp [meetM], by simp [MatM.wf, I64]; omega, by simp [VecM.wf, I64]; omega, by simp [VecM.wf, I64]; omega, by show LA.length ≤ _; omega, by show X.length ≤ _; omega, by show Y.length ≤ _; omega⟩
    hY n1 n2 (by show (0 : Int) < r; omega)
  simp only at h
  rw [eA, eV, eY] at h
  refine h.mono fun e w' hh => ?_
  obtain ⟨rfl, q1, Z, q2, q3⟩ := hh
  refine ⟨rfl, q1, Z, q2, by rw [q3.len]; exact eY, fun j hj => ?_⟩
  have hz := q3.get j (by show (j : Int) < c; omega)
  have e3 : VecM.place ⟨Y, 0, c, 1⟩ j = j := by unfold VecM.place; simp
  rw [e3] at hz
  rw [hz, beginF_zero]
  simp
/-- gemv.Mul, r x c. -/
theorem mul_tn (a α r c : Nat) (LA X Y : List Nat) (hr : r ≤ 64) (hr1 : 1 ≤ r) (hc : c ≤ 64) (hc1 : 1 ≤ c) (ga ca gv cv gy cy : Nat) (w : World) (ha : IsF a α) (hA : FW w ga LA) (hV : FW w gv X) (hY : FW w gy Y) (eA : LA.length = r * c) (eV : X.length = c) (eY : Y.length = r) (n1 : ga ≠ gy) (n2 : gv ≠ gy) :
    Calls Try.prog 71 #[.float .f64 a, .agg #[.slice (some ⟨ga, 0, none⟩) (r * c) ca, .int .i64 0, .int .i64 r, .int .i64 c, .int .i64 r], .agg #[.slice (some ⟨gv, 0, none⟩) c cv, .int .i64 0, .int .i64 c, .int .i64 1], .float .f64 0, .agg #[.slice (some ⟨gy, 0, none⟩) r cy, .int .i64 0, .int .i64 r, .int .i64 1]] w
      (fun e w' => e = .returned (.int .i64 0) ∧ But w [gy] w' ∧ ∃ Z, FW w' gy Z ∧ Z.length = r ∧ ∀ i, i < r → Z.getD i 0 = mulTo α (MatM.num ⟨LA, 0, r, c, r⟩) (VecM.num ⟨X, 0, c, 1⟩) 0 i c) := by
  have hm : r * c ≤ 64 * 64 := Nat.mul_le_mul hr hc
  have h := mul_ok a α 0 0 ⟨LA, 0, r, c, r⟩ ⟨X, 0, c, 1⟩ ⟨Y, 0, r, 1⟩ ga ca gv cv gy cy w ha isF_zero
    ⟨hA.fs (by omega) ca, hV.fs (by omega) cv, hY.fs (by omega) cy, FW.plain hA, FW.plain hV, FW.plain hY, matd_good eA hr1 hc1, vec1_right' eV hc1, vec1_right' eY hr1,
      rfl, rfl, by rw [show decide (gy = ga) = false by simpa using n1.symm]; simp [meetM], by rw [show decide (gy = gv) = false by simpa using n2.symm]; simp [meetM], by simp [MatM.wf, I64]; omega, by simp [VecM.wf, I64]; omega, by simp [VecM.wf, I64]; omega, by show LA.length ≤ _; omega, by show X.length ≤ _; omega, by show Y.length ≤ _; omega⟩
    hY (by show (0 : Int) < r; omega) (fun e => absurd e n1) (fun e => absurd e n2) hA.lt hV.lt
  simp only at h
  rw [eA, eV, eY] at h
  refine h.mono fun e w' hh => ?_
  obtain ⟨rfl, q1, Z, q2, q3⟩ := hh
  refine ⟨rfl, q1, Z, q2, by rw [q3.len]; exact eY, fun j hj => ?_⟩
  have hz := q3.get j (by show (j : Int) < r; omega)
  have e3 : VecM.place ⟨Y, 0, r, 1⟩ j = j := by unfold VecM.place; simp
  rw [e3] at hz
  rw [hz, beginF_zero]
  simp
end Go.Proofs.Ytcmggfpcbijcjaa
end
section
/-
  Slices of whole numbers that a call makes itself: appends, two slices beside one another.
-/
set_option linter.unusedSimpArgs false
set_option linter.unusedVariables false
namespace Sedge
open Go Go.RowKit
/-- Their own blocks are not one. -/
def ApartV (u v : Value) : Prop := ∀ k, u.ownBlock = some k → v.ownBlock ≠ some k
section
variable {P : Program} {ops : Array Oper} {rest : List Oper} {o : Oper} {a : Act} {Q : Exit → Act → World → Prop}
theorem append1_v {t e e' : TypeId} {z0 : Value} (und : P.underlying t = some (.slice e)) (info : (P.info? e).map (fun i => (i.zero, i.size, i.bytes)) = some (some z0, 1, 8)) (hz0 : z0.cells.size = 1)
    {W w : World} (hW : Grew W w) {v y : Value} {xs : List Value} (hown : w.ownsRow W.heap.size e 1 v xs.length xs) (hy : y.oneCell' = true)
    (hlen : xs.length < 17592186044415) (s x : Operand) (hg : o.guard = none)
    (ho : o.op = .call { callee := .builtin .append, args := #[s, x], argTypes := #[t, t] }) (hs : a.eval s = v) {k : Nat} (hk : k = w.heap.size) (hx : a.eval x = .slice (some ⟨k, 0, none⟩) 1 1)
    (h : ∀ v' oo nn, (ext W oo nn).ownsRow W.heap.size e 1 v' (xs.length + 1) (xs ++ [y]) →
      (∀ e2 u n2 ys, w.ownsRow W.heap.size e2 1 u n2 ys → ApartV u v → (ext W oo nn).ownsRow W.heap.size e2 1 u n2 ys ∧ ApartV u v') → wpList P ops Q rest (a.put o.dst v') (ext W oo nn)) :
    wpList P ops Q (o :: rest) a (w.alloc (.cells #[y] e')) := by
  subst hk
  obtain ⟨i0, hi, hz⟩ := Option.map_eq_some_iff.1 info
  simp only [Prod.mk.injEq] at hz
  obtain ⟨hz1, hz2, hz3⟩ := hz
  have hgA : Grew w (w.alloc (.cells #[y] e')) := (Grew.refl w).alloc _
  have keep : ∀ e2 u n2 ys (w' : World), w.ownsRow W.heap.size e2 1 u n2 ys → (∀ k, u.ownBlock = some k → w'.heap[k]? = w.heap[k]?) → w'.ownsRow W.heap.size e2 1 u n2 ys := fun e2 u n2 ys w' hu hk => by
    obtain ⟨h1, h2⟩ := hu
    refine ⟨h1, ?_⟩
    rcases h2 with h2 | ⟨g, cap, cur, rfl, hB, hh, r⟩
    · exact .inl h2
    · exact .inr ⟨g, cap, cur, rfl, hB, by rw [hk g rfl]; exact hh, r⟩
  have hown' := keep _ _ _ _ (w.alloc (.cells #[y] e')) hown (fun k hk => hgA.below.block k (hown.lt k hk).2)
  refine wpList_append_own_at _ hg s x t ho W.heap.size e i0 z0 1 8 und hi hz1 hz2 hz3 hz0 (by decide) v xs.length xs hs hown' ⟨w.heap.size, 0, none⟩ 1 1 [y] hx rfl ?_ ?_ ?_ ?_ ?_ ?_
  · intro j u hj
    match j, hj with
    | 0, hj =>
      simp at hj; subst hj
      have e1 : (⟨w.heap.size, 0, none⟩ : Addr).add 0 = ⟨w.heap.size, 0, none⟩ := by simp [Addr.add]
      rw [e1, World.cell?_alloc_new]; rfl
  · intro u hu; simp at hu; subst hu; exact hy
  · simp [maxLen]; omega
  · omega
  · have := hW.below.size; simp; omega
  · intro v' w' ho2 hgr hnn hloc
    obtain ⟨oo, nn, rfl⟩ := grew_grown (hW.alloc (.cells #[y] e')) hgr (fun k hk => (hown.lt k hk).1)
    refine h v' oo nn ho2 fun e2 u n2 ys hu hap => ⟨keep _ _ _ _ _ hu fun k hk => ?_, fun k hk => ?_⟩
    · have hlt := (hu.lt k hk).2
      exact (hgr.block k (Nat.lt_of_lt_of_le hlt hgA.below.size) (fun e => hap k hk e.symm)).trans (hgA.below.block k hlt)
    · have hlt := (hu.lt k hk).2
      rcases hloc with h1 | h1
      · rw [h1]; exact hap k hk
      · rw [h1]; intro e; simp at e; omega
end
/-- The slice v of ours owns the whole numbers zs. -/
def OwnI (w : World) (B : Nat) (v : Value) (zs : List Int) : Prop := w.ownsRow B 3 1 v zs.length (zs.map (Value.int .i64))
theorem OwnI.nil (w : World) (B : Nat) : OwnI w B (.slice none 0 0) [] := ⟨by simp, .inl ⟨rfl, rfl⟩⟩
theorem OwnI.grew {w w' : World} {B : Nat} {v : Value} {zs : List Int} (h : OwnI w B v zs) (g : Grew w w') : OwnI w' B v zs := by
  obtain ⟨h0, h1⟩ := h
  refine ⟨h0, ?_⟩
  rcases h1 with h1 | ⟨gg, cap, cur, hv, hB, hh, r⟩
  · exact .inl h1
  · have hlt : gg < w.heap.size := by
      rcases Nat.lt_or_ge gg w.heap.size with h | h
      · exact h
      · rw [Array.getElem?_eq_none h] at hh; cases hh
    exact .inr ⟨gg, cap, cur, hv, hB, by rw [g.below.block gg hlt]; exact hh, r⟩
theorem OwnI.is {w : World} {B : Nat} {v : Value} {zs : List Int} (h : OwnI w B v zs) (hl : zs.length ≤ 9223372036854775807) : IS .i64 w v zs := by
  obtain ⟨_, h1⟩ := h
  rcases h1 with ⟨rfl, h1⟩ | ⟨g, cap, cur, rfl, _, hh, hn, hm, hsz, ht⟩
  · have : zs = [] := List.length_eq_zero_iff.1 h1
    subst this
    exact ⟨by simp, none, 0, rfl, fun i hi => by simp at hi⟩
  · refine ⟨hl, some ⟨g, 0, none⟩, cap, rfl, fun i hi => ⟨g, 0, rfl, ?_⟩⟩
    rw [Nat.mul_one] at ht
    have := take_getElem? (i := i) ht (by simpa using hi)
    simp only [World.cell?, hh, Nat.zero_add, Option.isSome_none, Bool.false_eq_true, if_false]
    rw [← Array.getElem?_toList, this]
    simp [List.getD_eq_getElem?_getD, hi]
end Sedge
end
