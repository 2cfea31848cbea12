/-
  Texts laid one behind the other (a claim has at most 60 files): Trsv1, Sums, Ger1, TrsvLaw, TrsvLaw2, Trsv2, Clear, Gemv1.
-/
import Derived.Test.YtcmggfpcbijcjaaQAxesClose1
import Derived.Test.YtcmggfpcbijcjaaQAxesClose2
import Derived.Test.YtcmggfpcbijcjaaQAxesClose3
import Derived.Test.YtcmggfpcbijcjaaQAxesClose4
import Derived.Test.YtcmggfpcbijcjaaQAxesClose5
section
/-
  Contracts: view.place, view.At; trsv.square, zero; the system's num, at, less.
-/
set_option linter.unusedSimpArgs false
set_option linter.unusedVariables false
open Go Go.RowKit Sedge
namespace Go.Proofs.Ytcmggfpcbijcjaa
set_option maxRecDepth 100000 in
set_option maxHeartbeats 1000000 in
/-- view.place, within. -/
theorem place_any (x : MatM) (D : Value) (i j : Nat) (w : World) (hD : FS w D x.ws) (hx : x.good = true) (hwf : x.wf) (hi : (i : Int) < x.rows) (hj : (j : Int) < x.cols) (hl : x.ws.length ≤ 1000000) :
   Calls Try.prog 159 #[.agg #[D, .int .i64 x.off, .int .i64 x.rows, .int .i64 x.cols, .int .i64 x.ld], .int .i64 i, .int .i64 j] w (fun e w' => e = .returned (.int .i64 (x.off + i + j * x.ld)) ∧ ∃ o n, w' = ext w o n) := by
  have Hw := hid hwf
  have hp := MatM.good_place hx hi hj
  have hn := x.good_n hx
  have r1 : IntKind.i64.wrap (x.off + i) = x.off + i := IntWalk.i64_in _ (by omega)
  have r2 : IntKind.i64.wrap (j * x.ld) = j * x.ld := IntWalk.i64_in _ (by omega)
  have r3 : IntKind.i64.wrap (x.off + i + j * x.ld) = x.off + i + j * x.ld := IntWalk.i64_in _ (by omega)
  have d1 : decide ((i : Int) < 0) = false := by simp
  have d2 : decide ((j : Int) < 0) = false := by simp
  have d3 : decide (x.rows ≤ (i : Int)) = false := by simp; omega
  have d4 : decide (x.cols ≤ (j : Int)) = false := by simp; omega
  clear hwf
  go_enter Try.func159, Try.ntmps159
  refine seq_stop ?_
  go_wp2
  refine stop_go (fun W hW => ?_)
  have s1 : w.heap.size < W.heap.size := by rw [hW]; simp only [World.size_alloc]; omega
  have b1 : ∀ i, W.cell? ⟨w.heap.size, i, none⟩ = (#[D, .int .i64 x.off, .int .i64 x.rows, .int .i64 x.cols, .int .i64 x.ld] : Array Value)[i]? := by intro i; rw [hW]; go_simp
  have g0 : Grew w W := by rw [hW]; exact (Grew.refl _).alloc _
  clear hW
  have hDW := hD.grew g0
  go_wp2_with (first | (go_at_call 130; ((with_reducible refine (good_any x _ _ ?_ Hw.out).mono ?_); (focus (first | (with_reducible assumption) | (with_reducible refine FS.ext ?_ _ _; with_reducible assumption) | (with_reducible refine IS.ext ?_ _ _; with_reducible assumption) | (refine hDu _ ?_; with_reducible assumption) | (refine hOu _ ?_; with_reducible assumption) | (refine hDa _ ?_; with_reducible assumption) | (refine hDb _ ?_; with_reducible assumption) | (refine hDc _ ?_; with_reducible assumption) | (refine hDd _ ?_; with_reducible assumption) | (refine FW.fs ?_ (by omega) _; with_reducible assumption) | (refine WS.fs ?_; with_reducible assumption) | (refine FW.fs ?_ (by omega) _; assumption) | omega | assumption)); rintro e w1 ⟨rfl, o1, n1, rfl⟩)))
  go_ret
  exact ⟨rfl, by (show Grew _ _; repeat (first | (with_reducible exact Grew.refl _) | (with_reducible assumption) | (with_reducible refine Grew.ext ?_ _ _) | (with_reducible refine Grew.alloc ?_ _) | ((with_reducible refine Grew.setCell ?_ ?_ _); rotate_left; (focus (dsimp only; first | omega | (simp only [size_ext, World.size_alloc, Array.size_append]; omega)))) | (with_reducible refine Grew.drewN ?_ _) | (with_reducible refine Grew.drew ?_)))⟩
set_option maxRecDepth 100000 in
set_option maxHeartbeats 1000000 in
/-- view.At, within. -/
theorem vat_any (x : MatM) (D : Value) (i j : Nat) (w : World) (hD : FS w D x.ws) (hx : x.good = true) (hwf : x.wf) (hi : (i : Int) < x.rows) (hj : (j : Int) < x.cols) (hl : x.ws.length ≤ 1000000) :
   Calls Try.prog 186 #[.agg #[D, .int .i64 x.off, .int .i64 x.rows, .int .i64 x.cols, .int .i64 x.ld], .int .i64 i, .int .i64 j] w (fun e w' => ∃ b, e = .returned (.float .f64 b) ∧ IsF b (x.num i j) ∧ ∃ o n, w' = ext w o n) := by
  have hp := MatM.good_place hx hi hj
  obtain ⟨blk, o, cap, rfl, hblk, hc⟩ := hD.open (by omega)
  have hpl : ∀ w', FS w' (.slice (some ⟨blk, o, none⟩) x.ws.length cap) x.ws → Calls Try.prog 159 #[.agg #[.slice (some ⟨blk, o, none⟩) x.ws.length cap, .int .i64 x.off, .int .i64 x.rows, .int .i64 x.cols, .int .i64 x.ld], .int .i64 i, .int .i64 j] w' (fun e w2 => e = .returned (.int .i64 (x.off + i + j * x.ld)) ∧ ∃ o n, w2 = ext w' o n) := fun w' h => place_any x _ i j w' h hx hwf hi hj hl
  obtain ⟨b, hb0, hf⟩ := hc (x.place i j) (by unfold MatM.place; omega)
  have hf' : IsF b (x.num i j) := hf
  unfold MatM.place at hb0
  have d0 : decide (0 ≤ x.off + i + j * x.ld) = true := by simp; omega
  clear hx hwf hc
  go_enter Try.func186, Try.ntmps186
  refine seq_stop ?_
  go_wp2
  refine stop_go (fun W hW => ?_)
  have s1 : w.heap.size < W.heap.size := by rw [hW]; simp only [World.size_alloc]; omega
  have b1 : ∀ i, W.cell? ⟨w.heap.size, i, none⟩ = (#[.slice (some ⟨blk, o, none⟩) x.ws.length cap, .int .i64 x.off, .int .i64 x.rows, .int .i64 x.cols, .int .i64 x.ld] : Array Value)[i]? := by intro i; rw [hW]; go_simp
  have g0 : Grew w W := by rw [hW]; exact (Grew.refl _).alloc _
  clear hW
  have hDW := hD.grew g0
  have hb := (g0.cell hblk).trans hb0
  have kb : blk < W.heap.size := by omega
  go_wp2_with (first | (go_at_call 159; ((with_reducible refine (hpl _ ?_).mono ?_); (focus (first | (with_reducible assumption) | (with_reducible refine FS.ext ?_ _ _; with_reducible assumption) | (with_reducible refine IS.ext ?_ _ _; with_reducible assumption) | (refine hDu _ ?_; with_reducible assumption) | (refine hOu _ ?_; with_reducible assumption) | (refine hDa _ ?_; with_reducible assumption) | (refine hDb _ ?_; with_reducible assumption) | (refine hDc _ ?_; with_reducible assumption) | (refine hDd _ ?_; with_reducible assumption) | (refine FW.fs ?_ (by omega) _; with_reducible assumption) | (refine WS.fs ?_; with_reducible assumption) | (refine FW.fs ?_ (by omega) _; assumption) | omega | assumption)); rintro e w1 ⟨rfl, o1, n1, rfl⟩)))
  go_ret
  exact ⟨b, rfl, hf', by (show Grew _ _; repeat (first | (with_reducible exact Grew.refl _) | (with_reducible assumption) | (with_reducible refine Grew.ext ?_ _ _) | (with_reducible refine Grew.alloc ?_ _) | ((with_reducible refine Grew.setCell ?_ ?_ _); rotate_left; (focus (dsimp only; first | omega | (simp only [size_ext, World.size_alloc, Array.size_append]; omega)))) | (with_reducible refine Grew.drewN ?_ _) | (with_reducible refine Grew.drew ?_)))⟩
def sqE (k : Int) (x : MatM) (n : Int) : Int := if k < 1 ∨ 4 < k ∨ x.good = false then 1 else if x.rows = x.cols ∧ x.rows = n then 0 else 3
set_option maxRecDepth 100000 in
set_option maxHeartbeats 1000000 in
/-- trsv.square. -/
theorem square_any (k : Int) (x : MatM) (D : Value) (n : Int) (w : World) (hD : FS w D x.ws) (hwf : x.wf) :
   Calls Try.prog 151 #[.int .i64 k, .agg #[D, .int .i64 x.off, .int .i64 x.rows, .int .i64 x.cols, .int .i64 x.ld], .int .i64 n] w (fun e w' => e = .returned (.int .i64 (sqE k x n)) ∧ ∃ o n, w' = ext w o n) := by
  have Hw := hid hwf
  clear hwf
  by_cases k1 : k < 1
  · have q := hid (show sqE k x n = 1 by unfold sqE; rw [if_pos (.inl k1)])
    have d1 : decide (k < 1) = true := by simpa using k1
    go_enter Try.func151, Try.ntmps151
    refine seq_stop ?_
    go_wp2
    refine stop_go (fun W hW => ?_)
    have s1 : w.heap.size < W.heap.size := by rw [hW]; simp only [World.size_alloc]; omega
    have b1 : ∀ i, W.cell? ⟨w.heap.size, i, none⟩ = (#[D, .int .i64 x.off, .int .i64 x.rows, .int .i64 x.cols, .int .i64 x.ld] : Array Value)[i]? := by intro i; rw [hW]; go_simp
    have g0 : Grew w W := by rw [hW]; exact (Grew.refl _).alloc _
    clear hW
    have hDW := hD.grew g0
    go_wp2_with (first | (go_at_call 130; ((with_reducible refine (good_any x _ _ ?_ Hw.out).mono ?_); (focus (first | (with_reducible assumption) | (with_reducible refine FS.ext ?_ _ _; with_reducible assumption) | (with_reducible refine IS.ext ?_ _ _; with_reducible assumption) | (refine hDu _ ?_; with_reducible assumption) | (refine hOu _ ?_; with_reducible assumption) | (refine hDa _ ?_; with_reducible assumption) | (refine hDb _ ?_; with_reducible assumption) | (refine hDc _ ?_; with_reducible assumption) | (refine hDd _ ?_; with_reducible assumption) | (refine FW.fs ?_ (by omega) _; with_reducible assumption) | (refine WS.fs ?_; with_reducible assumption) | (refine FW.fs ?_ (by omega) _; assumption) | omega | assumption)); rintro e w1 ⟨rfl, o1, n1, rfl⟩)))
    go_ret
    exact ⟨ret_int q.out.symm, by (show Grew _ _; repeat (first | (with_reducible exact Grew.refl _) | (with_reducible assumption) | (with_reducible refine Grew.ext ?_ _ _) | (with_reducible refine Grew.alloc ?_ _) | ((with_reducible refine Grew.setCell ?_ ?_ _); rotate_left; (focus (dsimp only; first | omega | (simp only [size_ext, World.size_alloc, Array.size_append]; omega)))) | (with_reducible refine Grew.drewN ?_ _) | (with_reducible refine Grew.drew ?_)))⟩
  · have d1 : decide (k < 1) = false := by simpa using k1
    by_cases k2 : 4 < k
    · have q := hid (show sqE k x n = 1 by unfold sqE; rw [if_pos (.inr (.inl k2))])
      have d2 : decide (4 < k) = true := by simpa using k2
      go_enter Try.func151, Try.ntmps151
      refine seq_stop ?_
      go_wp2
      refine stop_go (fun W hW => ?_)
      have s1 : w.heap.size < W.heap.size := by rw [hW]; simp only [World.size_alloc]; omega
      have b1 : ∀ i, W.cell? ⟨w.heap.size, i, none⟩ = (#[D, .int .i64 x.off, .int .i64 x.rows, .int .i64 x.cols, .int .i64 x.ld] : Array Value)[i]? := by intro i; rw [hW]; go_simp
      have g0 : Grew w W := by rw [hW]; exact (Grew.refl _).alloc _
      clear hW
      have hDW := hD.grew g0
      go_wp2_with (first | (go_at_call 130; ((with_reducible refine (good_any x _ _ ?_ Hw.out).mono ?_); (focus (first | (with_reducible assumption) | (with_reducible refine FS.ext ?_ _ _; with_reducible assumption) | (with_reducible refine IS.ext ?_ _ _; with_reducible assumption) | (refine hDu _ ?_; with_reducible assumption) | (refine hOu _ ?_; with_reducible assumption) | (refine hDa _ ?_; with_reducible assumption) | (refine hDb _ ?_; with_reducible assumption) | (refine hDc _ ?_; with_reducible assumption) | (refine hDd _ ?_; with_reducible assumption) | (refine FW.fs ?_ (by omega) _; with_reducible assumption) | (refine WS.fs ?_; with_reducible assumption) | (refine FW.fs ?_ (by omega) _; assumption) | omega | assumption)); rintro e w1 ⟨rfl, o1, n1, rfl⟩)))
      go_ret
      exact ⟨ret_int q.out.symm, by (show Grew _ _; repeat (first | (with_reducible exact Grew.refl _) | (with_reducible assumption) | (with_reducible refine Grew.ext ?_ _ _) | (with_reducible refine Grew.alloc ?_ _) | ((with_reducible refine Grew.setCell ?_ ?_ _); rotate_left; (focus (dsimp only; first | omega | (simp only [size_ext, World.size_alloc, Array.size_append]; omega)))) | (with_reducible refine Grew.drewN ?_ _) | (with_reducible refine Grew.drew ?_)))⟩
    · have d2 : decide (4 < k) = false := by simpa using k2
      cases hg : x.good
      · have q := hid (show sqE k x n = 1 by unfold sqE; rw [if_pos (.inr (.inr hg))])
        go_enter Try.func151, Try.ntmps151
        refine seq_stop ?_
        go_wp2
        refine stop_go (fun W hW => ?_)
        have s1 : w.heap.size < W.heap.size := by rw [hW]; simp only [World.size_alloc]; omega
        have b1 : ∀ i, W.cell? ⟨w.heap.size, i, none⟩ = (#[D, .int .i64 x.off, .int .i64 x.rows, .int .i64 x.cols, .int .i64 x.ld] : Array Value)[i]? := by intro i; rw [hW]; go_simp
        have g0 : Grew w W := by rw [hW]; exact (Grew.refl _).alloc _
        clear hW
        have hDW := hD.grew g0
        go_wp2_with (first | (go_at_call 130; ((with_reducible refine (good_any x _ _ ?_ Hw.out).mono ?_); (focus (first | (with_reducible assumption) | (with_reducible refine FS.ext ?_ _ _; with_reducible assumption) | (with_reducible refine IS.ext ?_ _ _; with_reducible assumption) | (refine hDu _ ?_; with_reducible assumption) | (refine hOu _ ?_; with_reducible assumption) | (refine hDa _ ?_; with_reducible assumption) | (refine hDb _ ?_; with_reducible assumption) | (refine hDc _ ?_; with_reducible assumption) | (refine hDd _ ?_; with_reducible assumption) | (refine FW.fs ?_ (by omega) _; with_reducible assumption) | (refine WS.fs ?_; with_reducible assumption) | (refine FW.fs ?_ (by omega) _; assumption) | omega | assumption)); rintro e w1 ⟨rfl, o1, n1, rfl⟩)))
        go_ret
        exact ⟨ret_int q.out.symm, by (show Grew _ _; repeat (first | (with_reducible exact Grew.refl _) | (with_reducible assumption) | (with_reducible refine Grew.ext ?_ _ _) | (with_reducible refine Grew.alloc ?_ _) | ((with_reducible refine Grew.setCell ?_ ?_ _); rotate_left; (focus (dsimp only; first | omega | (simp only [size_ext, World.size_alloc, Array.size_append]; omega)))) | (with_reducible refine Grew.drewN ?_ _) | (with_reducible refine Grew.drew ?_)))⟩
      · have h3 : ¬ (k < 1 ∨ 4 < k ∨ x.good = false) := fun h => h.elim k1 (fun h => h.elim k2 (fun h => by rw [hg] at h; cases h))
        by_cases r1 : x.rows = x.cols
        · have e1 : (x.rows != x.cols) = false := by simpa using r1
          by_cases r2 : x.rows = n
          · have e2 : (x.rows != n) = false := by simpa using r2
            have q := hid (show sqE k x n = 0 by unfold sqE; rw [if_neg h3, if_pos ⟨r1, r2⟩])
            clear h3 r1 r2
            go_enter Try.func151, Try.ntmps151
            refine seq_stop ?_
            go_wp2
            refine stop_go (fun W hW => ?_)
            have s1 : w.heap.size < W.heap.size := by rw [hW]; simp only [World.size_alloc]; omega
            have b1 : ∀ i, W.cell? ⟨w.heap.size, i, none⟩ = (#[D, .int .i64 x.off, .int .i64 x.rows, .int .i64 x.cols, .int .i64 x.ld] : Array Value)[i]? := by intro i; rw [hW]; go_simp
            have g0 : Grew w W := by rw [hW]; exact (Grew.refl _).alloc _
            clear hW
            have hDW := hD.grew g0
            go_wp2_with (first | (go_at_call 130; ((with_reducible refine (good_any x _ _ ?_ Hw.out).mono ?_); (focus (first | (with_reducible assumption) | (with_reducible refine FS.ext ?_ _ _; with_reducible assumption) | (with_reducible refine IS.ext ?_ _ _; with_reducible assumption) | (refine hDu _ ?_; with_reducible assumption) | (refine hOu _ ?_; with_reducible assumption) | (refine hDa _ ?_; with_reducible assumption) | (refine hDb _ ?_; with_reducible assumption) | (refine hDc _ ?_; with_reducible assumption) | (refine hDd _ ?_; with_reducible assumption) | (refine FW.fs ?_ (by omega) _; with_reducible assumption) | (refine WS.fs ?_; with_reducible assumption) | (refine FW.fs ?_ (by omega) _; assumption) | omega | assumption)); rintro e w1 ⟨rfl, o1, n1, rfl⟩)))
            go_ret
            exact ⟨ret_int q.out.symm, by (show Grew _ _; repeat (first | (with_reducible exact Grew.refl _) | (with_reducible assumption) | (with_reducible refine Grew.ext ?_ _ _) | (with_reducible refine Grew.alloc ?_ _) | ((with_reducible refine Grew.setCell ?_ ?_ _); rotate_left; (focus (dsimp only; first | omega | (simp only [size_ext, World.size_alloc, Array.size_append]; omega)))) | (with_reducible refine Grew.drewN ?_ _) | (with_reducible refine Grew.drew ?_)))⟩
          · have e2 : (x.rows != n) = true := by simpa using r2
            have q := hid (show sqE k x n = 3 by unfold sqE; rw [if_neg h3, if_neg (fun h => r2 h.2)])
            clear h3 r1 r2
            go_enter Try.func151, Try.ntmps151
            refine seq_stop ?_
            go_wp2
            refine stop_go (fun W hW => ?_)
            have s1 : w.heap.size < W.heap.size := by rw [hW]; simp only [World.size_alloc]; omega
            have b1 : ∀ i, W.cell? ⟨w.heap.size, i, none⟩ = (#[D, .int .i64 x.off, .int .i64 x.rows, .int .i64 x.cols, .int .i64 x.ld] : Array Value)[i]? := by intro i; rw [hW]; go_simp
            have g0 : Grew w W := by rw [hW]; exact (Grew.refl _).alloc _
            clear hW
            have hDW := hD.grew g0
            go_wp2_with (first | (go_at_call 130; ((with_reducible refine (good_any x _ _ ?_ Hw.out).mono ?_); (focus (first | (with_reducible assumption) | (with_reducible refine FS.ext ?_ _ _; with_reducible assumption) | (with_reducible refine IS.ext ?_ _ _; with_reducible assumption) | (refine hDu _ ?_; with_reducible assumption) | (refine hOu _ ?_; with_reducible assumption) | (refine hDa _ ?_; with_reducible assumption) | (refine hDb _ ?_; with_reducible assumption) | (refine hDc _ ?_; with_reducible assumption) | (refine hDd _ ?_; with_reducible assumption) | (refine FW.fs ?_ (by omega) _; with_reducible assumption) | (refine WS.fs ?_; with_reducible assumption) | (refine FW.fs ?_ (by omega) _; assumption) | omega | assumption)); rintro e w1 ⟨rfl, o1, n1, rfl⟩)))
            go_ret
            exact ⟨ret_int q.out.symm, by (show Grew _ _; repeat (first | (with_reducible exact Grew.refl _) | (with_reducible assumption) | (with_reducible refine Grew.ext ?_ _ _) | (with_reducible refine Grew.alloc ?_ _) | ((with_reducible refine Grew.setCell ?_ ?_ _); rotate_left; (focus (dsimp only; first | omega | (simp only [size_ext, World.size_alloc, Array.size_append]; omega)))) | (with_reducible refine Grew.drewN ?_ _) | (with_reducible refine Grew.drew ?_)))⟩
        · have e1 : (x.rows != x.cols) = true := by simpa using r1
          have q := hid (show sqE k x n = 3 by unfold sqE; rw [if_neg h3, if_neg (fun h => r1 h.1)])
          clear h3 r1
          go_enter Try.func151, Try.ntmps151
          refine seq_stop ?_
          go_wp2
          refine stop_go (fun W hW => ?_)
          have s1 : w.heap.size < W.heap.size := by rw [hW]; simp only [World.size_alloc]; omega
          have b1 : ∀ i, W.cell? ⟨w.heap.size, i, none⟩ = (#[D, .int .i64 x.off, .int .i64 x.rows, .int .i64 x.cols, .int .i64 x.ld] : Array Value)[i]? := by intro i; rw [hW]; go_simp
          have g0 : Grew w W := by rw [hW]; exact (Grew.refl _).alloc _
          clear hW
          have hDW := hD.grew g0
          go_wp2_with (first | (go_at_call 130; ((with_reducible refine (good_any x _ _ ?_ Hw.out).mono ?_); (focus (first | (with_reducible assumption) | (with_reducible refine FS.ext ?_ _ _; with_reducible assumption) | (with_reducible refine IS.ext ?_ _ _; with_reducible assumption) | (refine hDu _ ?_; with_reducible assumption) | (refine hOu _ ?_; with_reducible assumption) | (refine hDa _ ?_; with_reducible assumption) | (refine hDb _ ?_; with_reducible assumption) | (refine hDc _ ?_; with_reducible assumption) | (refine hDd _ ?_; with_reducible assumption) | (refine FW.fs ?_ (by omega) _; with_reducible assumption) | (refine WS.fs ?_; with_reducible assumption) | (refine FW.fs ?_ (by omega) _; assumption) | omega | assumption)); rintro e w1 ⟨rfl, o1, n1, rfl⟩)))
          go_ret
          exact ⟨ret_int q.out.symm, by (show Grew _ _; repeat (first | (with_reducible exact Grew.refl _) | (with_reducible assumption) | (with_reducible refine Grew.ext ?_ _ _) | (with_reducible refine Grew.alloc ?_ _) | ((with_reducible refine Grew.setCell ?_ ?_ _); rotate_left; (focus (dsimp only; first | omega | (simp only [size_ext, World.size_alloc, Array.size_append]; omega)))) | (with_reducible refine Grew.drewN ?_ _) | (with_reducible refine Grew.drew ?_)))⟩
end Go.Proofs.Ytcmggfpcbijcjaa
end
section
/-
  Contracts: single operations on floats; sums, the greatest, the place of the greatest, products (layer 5 and its reference).
-/
set_option linter.unusedSimpArgs false
set_option linter.unusedVariables false
open Go Go.RowKit Sedge
namespace Go.Proofs.Ytcmggfpcbijcjaa
theorem gt_fact {r s X Y : Nat} (hr : IsF r X) (hs : IsF s Y) {v : Bool} (h : (FloatKind.f64.format.order r s == some .gt) = v) : fgt X Y = v := by
  unfold fgt; rw [← hr.order hs]; exact h
theorem isF_zero : IsF 0 0 := ⟨by decide, by decide +kernel⟩
theorem plus_any (a b x y : Nat) (w : World) (hx : IsF a x) (hy : IsF b y) :
   Calls Try.prog 36 #[.float .f64 a, .float .f64 b] w (fun e w' => ∃ r, e = .returned (.float .f64 r) ∧ IsF r (fadd x y) ∧ ∃ o n, w' = ext w o n) := by
  go_enter Try.func36, Try.ntmps36
  go_wp2_with ((with_reducible refine upon_id ?_); refine upon_fop rfl (by assumption) (by assumption) ?_; intro rr nn hr)
  go_ret
  exact ⟨rr, rfl, hr, _, _, drewN_ext0 _⟩
theorem times_any (a b x y : Nat) (w : World) (hx : IsF a x) (hy : IsF b y) :
   Calls Try.prog 141 #[.float .f64 a, .float .f64 b] w (fun e w' => ∃ r, e = .returned (.float .f64 r) ∧ IsF r (fmul x y) ∧ ∃ o n, w' = ext w o n) := by
  go_enter Try.func141, Try.ntmps141
  go_wp2_with ((with_reducible refine upon_id ?_); refine upon_fop rfl (by assumption) (by assumption) ?_; intro rr nn hr)
  go_ret
  exact ⟨rr, rfl, hr, _, _, drewN_ext0 _⟩
theorem less_any (a b x y : Nat) (w : World) (hx : IsF a x) (hy : IsF b y) :
   Calls Try.prog 183 #[.float .f64 a, .float .f64 b] w (fun e w' => ∃ r, e = .returned (.float .f64 r) ∧ IsF r (fsub x y) ∧ ∃ o n, w' = ext w o n) := by
  go_enter Try.func183, Try.ntmps183
  go_wp2_with ((with_reducible refine upon_id ?_); refine upon_fop rfl (by assumption) (by assumption) ?_; intro rr nn hr)
  go_ret
  exact ⟨rr, rfl, hr, _, _, drewN_ext0 _⟩
theorem over_any (a b x y : Nat) (w : World) (hx : IsF a x) (hy : IsF b y) :
   Calls Try.prog 158 #[.float .f64 a, .float .f64 b] w (fun e w' => ∃ r, e = .returned (.float .f64 r) ∧ IsF r (fdiv x y) ∧ ∃ o n, w' = ext w o n) := by
  go_enter Try.func158, Try.ntmps158
  go_wp2_with ((with_reducible refine upon_id ?_); refine upon_fop rfl (by assumption) (by assumption) ?_; intro rr nn hr)
  go_ret
  exact ⟨rr, rfl, hr, _, _, drewN_ext0 _⟩

/-- A sum in its order. -/
def fsumTo (l : List Nat) : Nat → Nat
  | 0 => 0
  | k + 1 => fadd (fsumTo l k) (l.getD k 0)
set_option maxRecDepth 100000 in
set_option maxHeartbeats 1000000 in
theorem sum_any (D : Value) (ws : List Nat) (w : World) (hD : FS w D ws) :
   Calls Try.prog 38 #[D] w (fun e w' => ∃ r, e = .returned (.float .f64 r) ∧ IsF r (fsumTo ws ws.length) ∧ ∃ o n, w' = ext w o n) := by
  obtain ⟨a, cap, rfl⟩ := hD.shape
  have hl := hD.len
  have HD := hD.at.2
  clear hD
  have hl' : (ws.length : Int) ≤ 9223372036854775807 := by omega
  go_enter Try.func38, Try.ntmps38
  go_wp2
  go_loopw [3, 8] (fun s c wr => ∃ k b : Nat, k ≤ ws.length ∧ c = .int .i64 k ∧ s = .float .f64 b ∧ IsF b (fsumTo ws k) ∧ ∃ o n, wr = ext w o n) (fun _ c _ => ws.length - (intOf c).toNat)
  case atStart => exact ⟨0, 0, Nat.zero_le _, rfl, rfl, isF_zero, _, _, ext_zero.symm⟩
  case round =>
    obtain ⟨k, s, hk, rfl, rfl, hs, oo, nn, hwr⟩ := hrel
    subst hwr
    by_cases hlt : k < ws.length
    · obtain ⟨blk, o, rfl, hblk, hc⟩ := HD (by omega)
      obtain ⟨b, hb, hx⟩ := hc k hlt
      clear hc HD
      go_wp2_with ((with_reducible refine upon_id ?_); refine upon_fop rfl (by assumption) (by assumption) ?_; intro rr nn hr)
      go_roundw
      case rel => exact ⟨k + 1, rr, by omega, by go_num, rfl, hr, _, _, rfl⟩
      case measure => simp [intOf]; omega
    · go_wp2
      go_ret
      have e : ws.length = k := by omega
      exact ⟨s, rfl, by rw [e]; exact hs, _, _, rfl⟩

/-- The greatest of numbers and 0, without NaNs. -/
def fmaxTo (l : List Nat) : Nat → Nat
  | 0 => 0
  | k + 1 => if fgt (l.getD k 0) (fmaxTo l k) = true then l.getD k 0 else fmaxTo l k
def anyNan (l : List Nat) : Bool := l.any isNan
def fgreatest (l : List Nat) : Nat := if anyNan l then QN else fmaxTo l l.length
theorem anyNan_take (l : List Nat) (k : Nat) (h : k < l.length) : anyNan (l.take (k + 1)) = (anyNan (l.take k) || isNan (l.getD k 0)) := by
  unfold anyNan
  have e1 : l.take (k + 1) = l.take k ++ [l[k]] := List.take_succ_eq_append_getElem h
  rw [e1, List.any_append]
  simp [List.getD_eq_getElem?_getD, h]
theorem anyNan_yes (l : List Nat) (k : Nat) (h : k < l.length) (hn : isNan (l.getD k 0) = true) : anyNan l = true := by
  unfold anyNan
  rw [List.any_eq_true]
  refine ⟨l.getD k 0, ?_, hn⟩
  rw [List.getD_eq_getElem?_getD, List.getElem?_eq_getElem h]; exact List.getElem_mem h
set_option maxRecDepth 100000 in
set_option maxHeartbeats 1000000 in
theorem greatest_any (D : Value) (ws : List Nat) (w : World) (hD : FS w D ws) :
   Calls Try.prog 39 #[D] w (fun e w' => ∃ r, e = .returned (.float .f64 r) ∧ IsF r (fgreatest ws) ∧ w = w') := by
  obtain ⟨a, cap, rfl⟩ := hD.shape
  have hl := hD.len
  have HD := hD.at.2
  clear hD
  have hl' : (ws.length : Int) ≤ 9223372036854775807 := by omega
  go_enter Try.func39, Try.ntmps39
  go_wp2
  go_loop [3, 8] (fun s c => ∃ k b : Nat, k ≤ ws.length ∧ c = .int .i64 k ∧ s = .float .f64 b ∧ IsF b (fmaxTo ws k) ∧ anyNan (ws.take k) = false) (fun _ c => ws.length - (intOf c).toNat)
  case atStart => exact ⟨0, 0, Nat.zero_le _, rfl, rfl, isF_zero, rfl⟩
  case round =>
    obtain ⟨k, s, hk, rfl, rfl, hs, hn⟩ := hrel
    have Hn := hid hn
    clear hn
    by_cases hlt : k < ws.length
    · obtain ⟨blk, o, rfl, hblk, hc⟩ := HD (by omega)
      obtain ⟨b, hb, hx⟩ := hc k hlt
      clear hc HD
      have e1 := order_self b
      rw [hx.nan] at e1
      cases hnan : isNan (ws.getD k 0)
      · have q1 : (FloatKind.f64.format.order b b != some .eq) = false := e1.trans hnan
        have e2 : (FloatKind.f64.format.order b s == some .gt) = fgt (ws.getD k 0) (fmaxTo ws k) := by
          unfold fgt; rw [← hx.order hs]; rfl
        have Hnan := hid hnan
        clear hnan e1
        cases hg : fgt (ws.getD k 0) (fmaxTo ws k)
        · have q2 := e2.trans hg
          have Hg := hid hg
          clear hg e2
          go_wp2
          go_round
          case rel => exact ⟨k + 1, s, by omega, by go_num, rfl, by unfold fmaxTo; rw [if_neg (by rw [Hg.out]; decide)]; exact hs, by rw [anyNan_take _ _ hlt, Hn.out, Hnan.out]; rfl⟩
          case measure => simp [intOf]; omega
        · have q2 := e2.trans hg
          have Hg := hid hg
          clear hg e2
          go_wp2
          go_round
          case rel => exact ⟨k + 1, b, by omega, by go_num, rfl, by unfold fmaxTo; rw [if_pos Hg.out]; exact hx, by rw [anyNan_take _ _ hlt, Hn.out, Hnan.out]; rfl⟩
          case measure => simp [intOf]; omega
      · have q1 : (FloatKind.f64.format.order b b != some .eq) = true := e1.trans hnan
        have Hnan := hid hnan
        clear hnan e1
        go_wp2
        go_ret
        refine ⟨b, rfl, ?_, rfl⟩
        unfold fgreatest
        rw [if_pos (anyNan_yes _ _ hlt Hnan.out)]
        exact ⟨hx.1, by rw [hx.2]; exact isNan_can hx.canonical Hnan.out⟩
    · go_wp2
      go_ret
      refine ⟨s, rfl, ?_, rfl⟩
      have e := Hn.out
      rw [List.take_of_length_le (by omega)] at e
      unfold fgreatest
      rw [e]
      have e : ws.length = k := by omega
      rw [e]; exact hs
set_option maxRecDepth 100000 in
set_option maxHeartbeats 1000000 in
theorem rgreatest_any (D : Value) (ws : List Nat) (w : World) (hD : FS w D ws) :
   Calls Try.prog 40 #[D] w (fun e w' => ∃ r, e = .returned (.float .f64 r) ∧ IsF r (fgreatest ws) ∧ ∃ o n, w' = ext w o n) := by
  obtain ⟨a, cap, rfl⟩ := hD.shape
  have hl := hD.len
  have HD := hD.at.2
  clear hD
  have hl' : (ws.length : Int) ≤ 9223372036854775807 := by omega
  go_enter Try.func40, Try.ntmps40
  go_wp2
  go_loopw [4] (fun c wr => ∃ k : Nat, k ≤ ws.length ∧ c = .int .i64 k ∧ anyNan (ws.take k) = false ∧ ∃ o n, wr = ext w o n) (fun c _ => ws.length - (intOf c).toNat)
  case atStart => exact ⟨0, Nat.zero_le _, rfl, rfl, _, _, ext_zero.symm⟩
  case round =>
    obtain ⟨k, hk, rfl, hn, oo, nn, hwr⟩ := hrel
    subst hwr
    have Hn := hid hn
    clear hn
    by_cases hlt : k < ws.length
    · obtain ⟨blk, o, rfl, hblk, hc⟩ := HD (by omega)
      obtain ⟨b, hb, hx⟩ := hc k hlt
      clear hc HD
      have e1 := order_self b
      rw [hx.nan] at e1
      have hi0 : (0 : Int) ≤ (k : Int) := by omega
      have hi1 : (k : Int) < (ws.length : Int) := by omega
      cases hnan : isNan (ws.getD k 0)
      · have q1 : (FloatKind.f64.format.order b b != some .eq) = false := e1.trans hnan
        have Hnan := hid hnan
        clear hnan e1
        go_wp2
        refine wp_region_R (Grew w) [] [(0,0), (0,1), (0,2), (0,3), (0,4), (0,5), (0,6), (0,7), (0,8)] (by kernel_rfl) (by kernel_rfl) (fun _ _ _ _ h _ => h) (by first | exact ⟨_, _, ext_drew⟩ | exact ⟨_, _, drew_ext0⟩ | (show Grew _ _; repeat (first | (with_reducible exact Grew.refl _) | (with_reducible assumption) | (with_reducible refine Grew.ext ?_ _ _) | (with_reducible refine Grew.alloc ?_ _) | ((with_reducible refine Grew.setCell ?_ ?_ _); rotate_left; (focus (dsimp only; first | omega | (simp only [size_ext, World.size_alloc, Array.size_append]; omega)))) | (with_reducible refine Grew.drewN ?_ _) | (with_reducible refine Grew.drew ?_)))) ?_
        go_wp2_with (first | ((with_reducible refine wpR_id ?_); first | (refine wpR_take (v := ?_) rfl rfl ?_ ?_; rotate_left; (focus (rintro w' ⟨o', n', rfl⟩; go_simp; try with_reducible rfl)); simp only [Act.put, List.setIfInBounds_toArray, List.set_cons_zero, List.set_cons_succ]) | (refine wpR_pure (v := ?_) rfl rfl ?_ ?_; rotate_left; (focus (intro w'; go_simp; try with_reducible rfl)); simp only [Act.put, List.setIfInBounds_toArray, List.set_cons_zero, List.set_cons_succ]) | (refine wpR_takeG (v := ?_) rfl rfl rfl rfl rfl ?_ ?_; rotate_left; (focus (rintro w' ⟨o', n', rfl⟩; go_simp; try with_reducible rfl)); simp only [Act.put, List.setIfInBounds_toArray, List.set_cons_zero, List.set_cons_succ]) | (refine wpR_skip rfl rfl rfl rfl rfl rfl ?_; simp only [Act.put, List.setIfInBounds_toArray, List.set_cons_zero, List.set_cons_succ]) | (refine wpR_skipU rfl rfl rfl rfl rfl ?_; simp only [Act.put, List.setIfInBounds_toArray, List.set_cons_zero, List.set_cons_succ]) | (refine wpR_do rfl rfl (fun K hK => ?_)) | (refine wpR_doG rfl rfl rfl rfl rfl (fun K hK => ?_)) | (refine wpR_last rfl rfl (fun K hK => ?_)) | (refine wpR_nil ?_)) | ((with_reducible refine wpR_go ?_ ?_); (focus exact ⟨_, _, rfl⟩)) | ((with_reducible refine upon_id ?_); refine upon_fop rfl (by assumption) (by assumption) ?_; intro rr nn hr))
        go_roundw
        case rel => exact ⟨k + 1, by omega, by go_num, by rw [anyNan_take _ _ hlt, Hn.out, Hnan.out]; rfl, _, _, rfl⟩
        case measure => simp [intOf]; omega
      · have q1 : (FloatKind.f64.format.order b b != some .eq) = true := e1.trans hnan
        have Hnan := hid hnan
        clear hnan e1
        go_wp2
        refine wp_region_R (Grew w) [] [(0,0), (0,1), (0,2), (0,3), (0,4), (0,5), (0,6), (0,7), (0,8)] (by kernel_rfl) (by kernel_rfl) (fun _ _ _ _ h _ => h) (by first | exact ⟨_, _, ext_drew⟩ | exact ⟨_, _, drew_ext0⟩ | (show Grew _ _; repeat (first | (with_reducible exact Grew.refl _) | (with_reducible assumption) | (with_reducible refine Grew.ext ?_ _ _) | (with_reducible refine Grew.alloc ?_ _) | ((with_reducible refine Grew.setCell ?_ ?_ _); rotate_left; (focus (dsimp only; first | omega | (simp only [size_ext, World.size_alloc, Array.size_append]; omega)))) | (with_reducible refine Grew.drewN ?_ _) | (with_reducible refine Grew.drew ?_)))) ?_
        go_wp2_with (first | ((with_reducible refine wpR_id ?_); first | (refine wpR_take (v := ?_) rfl rfl ?_ ?_; rotate_left; (focus (rintro w' ⟨o', n', rfl⟩; go_simp; try with_reducible rfl)); simp only [Act.put, List.setIfInBounds_toArray, List.set_cons_zero, List.set_cons_succ]) | (refine wpR_pure (v := ?_) rfl rfl ?_ ?_; rotate_left; (focus (intro w'; go_simp; try with_reducible rfl)); simp only [Act.put, List.setIfInBounds_toArray, List.set_cons_zero, List.set_cons_succ]) | (refine wpR_takeG (v := ?_) rfl rfl rfl rfl rfl ?_ ?_; rotate_left; (focus (rintro w' ⟨o', n', rfl⟩; go_simp; try with_reducible rfl)); simp only [Act.put, List.setIfInBounds_toArray, List.set_cons_zero, List.set_cons_succ]) | (refine wpR_skip rfl rfl rfl rfl rfl rfl ?_; simp only [Act.put, List.setIfInBounds_toArray, List.set_cons_zero, List.set_cons_succ]) | (refine wpR_skipU rfl rfl rfl rfl rfl ?_; simp only [Act.put, List.setIfInBounds_toArray, List.set_cons_zero, List.set_cons_succ]) | (refine wpR_do rfl rfl (fun K hK => ?_)) | (refine wpR_doG rfl rfl rfl rfl rfl (fun K hK => ?_)) | (refine wpR_last rfl rfl (fun K hK => ?_)) | (refine wpR_nil ?_)) | ((with_reducible refine wpR_go ?_ ?_); (focus exact ⟨_, _, rfl⟩)) | ((with_reducible refine upon_id ?_); refine upon_fop rfl (by assumption) (by assumption) ?_; intro rr nn hr))
        go_ret
        refine ⟨b, rfl, ?_, _, _, rfl⟩
        unfold fgreatest
        rw [if_pos (anyNan_yes _ _ hlt Hnan.out)]
        exact ⟨hx.1, by rw [hx.2]; exact isNan_can hx.canonical Hnan.out⟩
    · have hall : anyNan ws = false := by
        have e := Hn.out
        rwa [List.take_of_length_le (by omega)] at e
      have Hall := hid hall
      clear hall
      go_wp2
      go_loopw [3, 5] (fun s c wr => ∃ j b : Nat, j ≤ ws.length ∧ c = .int .i64 j ∧ s = .float .f64 b ∧ IsF b (fmaxTo ws j) ∧ ∃ o n, wr = ext w o n) (fun _ c _ => ws.length - (intOf c).toNat)
      case atStart => exact ⟨0, 0, Nat.zero_le _, rfl, rfl, isF_zero, _, _, rfl⟩
      case round =>
        obtain ⟨j, s, hj, rfl, rfl, hs, oo2, nn2, hwr2⟩ := hrel
        subst hwr2
        by_cases hlt2 : j < ws.length
        · obtain ⟨blk, o, rfl, hblk, hc⟩ := HD (by omega)
          obtain ⟨b, hb, hx⟩ := hc j hlt2
          clear hc HD
          have e2 : (FloatKind.f64.format.order b s == some .gt) = fgt (ws.getD j 0) (fmaxTo ws j) := by
            unfold fgt; rw [← hx.order hs]; rfl
          cases hg : fgt (ws.getD j 0) (fmaxTo ws j)
          · have q2 := e2.trans hg
            have Hg := hid hg
            clear hg e2
            go_wp2
            go_roundw
            case rel => exact ⟨j + 1, s, by omega, by go_num, rfl, by unfold fmaxTo; rw [if_neg (by rw [Hg.out]; decide)]; exact hs, _, _, rfl⟩
            case measure => simp [intOf]; omega
          · have q2 := e2.trans hg
            have Hg := hid hg
            clear hg e2
            go_wp2
            go_roundw
            case rel => exact ⟨j + 1, b, by omega, by go_num, rfl, by unfold fmaxTo; rw [if_pos Hg.out]; exact hx, _, _, rfl⟩
            case measure => simp [intOf]; omega
        · go_wp2
          go_ret
          refine ⟨s, rfl, ?_, _, _, rfl⟩
          unfold fgreatest
          rw [Hall.out]
          have e : ws.length = j := by omega
          rw [e]; exact hs
end Go.Proofs.Ytcmggfpcbijcjaa
end
section
/-
  Contracts: view.Col, ger.row, ger.Ger's closure, ger.each.
-/
set_option linter.unusedSimpArgs false
set_option linter.unusedVariables false
open Go Go.RowKit Sedge
namespace Go.Proofs.Ytcmggfpcbijcjaa
def colV (m : MatM) (j : Nat) : VecM := ⟨m.ws, if 0 < m.rows then m.off + j * m.ld else m.off, m.rows, 1⟩
set_option maxRecDepth 100000 in
set_option maxHeartbeats 1000000 in
/-- view.Col. -/
theorem col_any (x : MatM) (D : Value) (j : Nat) (w : World) (hD : FS w D x.ws) (hx : x.good = true) (hwf : x.wf) (hj : (j : Int) < x.cols) :
   Calls Try.prog 149 #[.agg #[D, .int .i64 x.off, .int .i64 x.rows, .int .i64 x.cols, .int .i64 x.ld], .int .i64 j] w
     (fun e w' => e = .returned (.agg #[D, .int .i64 (colV x j).off, .int .i64 x.rows, .int .i64 1]) ∧ ∃ o n, w' = ext w o n) := by
  have hn := MatM.good_n hx
  obtain ⟨aD, capD, rfl⟩ := hD.shape
  have k1 : (!x.good) = false := by simp [hx]
  have hlen := hD.len
  have Hw := hid hwf
  have k3 : decide ((j : Int) < 0) = false := by simp
  have k4 : decide (x.cols ≤ (j : Int)) = false := by simp; omega
  by_cases hc : 0 < x.rows
  · have hp := MatM.good_place hx (i := 0) (j := j) (by simpa using hc) hj
    simp only [Int.natCast_zero, Int.add_zero] at hp
    have e : (colV x j).off = x.off + j * x.ld := by simp [colV, hc]
    have r1 : IntKind.i64.wrap ((j : Int) * x.ld) = j * x.ld := IntWalk.i64_in _ (by omega)
    have r2 : IntKind.i64.wrap (x.off + j * x.ld) = x.off + j * x.ld := IntWalk.i64_in _ (by omega)
    have Hx := hid hx
    have d5 : decide (0 < x.rows) = true := by simpa using hc
    rw [e]
    clear hx hwf e
    go_enter Try.func149, Try.ntmps149
    refine seq_stop ?_
    go_wp2
    refine stop_go (fun W hW => ?_)
    have s1 : w.heap.size < W.heap.size := by rw [hW]; simp only [World.size_alloc]; omega
    have b1 : ∀ i, W.cell? ⟨w.heap.size, i, none⟩ = (#[.slice aD x.ws.length capD, .int .i64 x.off, .int .i64 x.rows, .int .i64 x.cols, .int .i64 x.ld] : Array Value)[i]? := by intro i; rw [hW]; go_simp
    have f1 : ∀ i, W.frozen? ⟨w.heap.size, i, none⟩ = false := by intro i; rw [hW]; go_simp
    have s2 : w.heap.size + 1 < W.heap.size := by rw [hW]; simp only [World.size_alloc]; omega
    have b2 : ∀ i, W.cell? ⟨w.heap.size + 1, i, none⟩ = (#[.slice none 0 0, .int .i64 0, .int .i64 0, .int .i64 0] : Array Value)[i]? := by intro i; rw [hW]; go_simp
    have f2 : ∀ i, W.frozen? ⟨w.heap.size + 1, i, none⟩ = false := by intro i; rw [hW]; go_simp
    have g0 : Grew w W := by rw [hW]; exact ((Grew.refl _).alloc _).alloc _
    clear hW
    have hDW : FS W (.slice aD x.ws.length capD) x.ws := hD.grew g0
    go_wp2_with (first | (go_at_call 130; ((with_reducible refine (good_any x _ _ ?_ Hw.out).mono ?_); (focus (first | (with_reducible assumption) | (with_reducible refine FS.ext ?_ _ _; with_reducible assumption) | (with_reducible refine IS.ext ?_ _ _; with_reducible assumption) | (refine hDu _ ?_; with_reducible assumption) | (refine hOu _ ?_; with_reducible assumption) | (refine hDa _ ?_; with_reducible assumption) | (refine hDb _ ?_; with_reducible assumption) | (refine hDc _ ?_; with_reducible assumption) | (refine hDd _ ?_; with_reducible assumption) | (refine FW.fs ?_ (by omega) _; with_reducible assumption) | (refine WS.fs ?_; with_reducible assumption) | (refine FW.fs ?_ (by omega) _; assumption) | omega | assumption)); rintro e w1 ⟨rfl, o1, n1, rfl⟩)))
    refine bodyPost_ret (v := .agg #[.slice aD x.ws.length capD, .int .i64 (x.off + j * x.ld), .int .i64 x.rows, .int .i64 1]) (by simp [results, Try.results149, go_sem, *]) rfl ?_
    exact ⟨rfl, by (show Grew _ _; repeat (first | (with_reducible exact Grew.refl _) | (with_reducible assumption) | (with_reducible refine Grew.ext ?_ _ _) | (with_reducible refine Grew.alloc ?_ _) | ((with_reducible refine Grew.setCell ?_ ?_ _); rotate_left; (focus (dsimp only; first | omega | (simp only [size_ext, World.size_alloc, Array.size_append]; omega)))) | (with_reducible refine Grew.drewN ?_ _) | (with_reducible refine Grew.drew ?_)))⟩
  · have e : (colV x j).off = x.off := by simp [colV, hc]
    have Hx := hid hx
    have d5 : decide (0 < x.rows) = false := by simpa using hc
    rw [e]
    clear hx hwf e
    go_enter Try.func149, Try.ntmps149
    refine seq_stop ?_
    go_wp2
    refine stop_go (fun W hW => ?_)
    have s1 : w.heap.size < W.heap.size := by rw [hW]; simp only [World.size_alloc]; omega
    have b1 : ∀ i, W.cell? ⟨w.heap.size, i, none⟩ = (#[.slice aD x.ws.length capD, .int .i64 x.off, .int .i64 x.rows, .int .i64 x.cols, .int .i64 x.ld] : Array Value)[i]? := by intro i; rw [hW]; go_simp
    have f1 : ∀ i, W.frozen? ⟨w.heap.size, i, none⟩ = false := by intro i; rw [hW]; go_simp
    have s2 : w.heap.size + 1 < W.heap.size := by rw [hW]; simp only [World.size_alloc]; omega
    have b2 : ∀ i, W.cell? ⟨w.heap.size + 1, i, none⟩ = (#[.slice none 0 0, .int .i64 0, .int .i64 0, .int .i64 0] : Array Value)[i]? := by intro i; rw [hW]; go_simp
    have f2 : ∀ i, W.frozen? ⟨w.heap.size + 1, i, none⟩ = false := by intro i; rw [hW]; go_simp
    have g0 : Grew w W := by rw [hW]; exact ((Grew.refl _).alloc _).alloc _
    clear hW
    have hDW : FS W (.slice aD x.ws.length capD) x.ws := hD.grew g0
    go_wp2_with (first | (go_at_call 130; ((with_reducible refine (good_any x _ _ ?_ Hw.out).mono ?_); (focus (first | (with_reducible assumption) | (with_reducible refine FS.ext ?_ _ _; with_reducible assumption) | (with_reducible refine IS.ext ?_ _ _; with_reducible assumption) | (refine hDu _ ?_; with_reducible assumption) | (refine hOu _ ?_; with_reducible assumption) | (refine hDa _ ?_; with_reducible assumption) | (refine hDb _ ?_; with_reducible assumption) | (refine hDc _ ?_; with_reducible assumption) | (refine hDd _ ?_; with_reducible assumption) | (refine FW.fs ?_ (by omega) _; with_reducible assumption) | (refine WS.fs ?_; with_reducible assumption) | (refine FW.fs ?_ (by omega) _; assumption) | omega | assumption)); rintro e w1 ⟨rfl, o1, n1, rfl⟩)))
    refine bodyPost_ret (v := .agg #[.slice aD x.ws.length capD, .int .i64 x.off, .int .i64 x.rows, .int .i64 1]) (by simp [results, Try.results149, go_sem, *]) rfl ?_
    exact ⟨rfl, by (show Grew _ _; repeat (first | (with_reducible exact Grew.refl _) | (with_reducible assumption) | (with_reducible refine Grew.ext ?_ _ _) | (with_reducible refine Grew.alloc ?_ _) | ((with_reducible refine Grew.setCell ?_ ?_ _); rotate_left; (focus (dsimp only; first | omega | (simp only [size_ext, World.size_alloc, Array.size_append]; omega)))) | (with_reducible refine Grew.drewN ?_ _) | (with_reducible refine Grew.drew ?_)))⟩
set_option maxRecDepth 100000 in
set_option maxHeartbeats 1000000 in
/-- ger.row. -/
theorem grow_any (x : VecM) (a : Option Addr) (l c : Nat) (w : World) :
   Calls Try.prog 137 #[.agg #[.slice a l c, .int .i64 x.off, .int .i64 x.n, .int .i64 x.inc]] w (fun e w' => e = .returned (.agg #[.slice a l c, .int .i64 x.off, .int .i64 1, .int .i64 x.n, .int .i64 x.inc]) ∧ ∃ o n, w' = ext w o n) := by
  go_enter Try.func137, Try.ntmps137
  refine seq_stop ?_
  go_wp2
  refine stop_go (fun W hW => ?_)
  have s1 : w.heap.size < W.heap.size := by rw [hW]; simp only [World.size_alloc]; omega
  have b1 : ∀ i, W.cell? ⟨w.heap.size, i, none⟩ = (#[.slice a l c, .int .i64 x.off, .int .i64 x.n, .int .i64 x.inc] : Array Value)[i]? := by intro i; rw [hW]; go_simp
  have f1 : ∀ i, W.frozen? ⟨w.heap.size, i, none⟩ = false := by intro i; rw [hW]; go_simp
  have s2 : w.heap.size + 1 < W.heap.size := by rw [hW]; simp only [World.size_alloc]; omega
  have b2 : ∀ i, W.cell? ⟨w.heap.size + 1, i, none⟩ = (#[.slice none 0 0, .int .i64 0, .int .i64 0, .int .i64 0, .int .i64 0] : Array Value)[i]? := by intro i; rw [hW]; go_simp
  have f2 : ∀ i, W.frozen? ⟨w.heap.size + 1, i, none⟩ = false := by intro i; rw [hW]; go_simp
  have g0 : Grew w W := by rw [hW]; exact ((Grew.refl _).alloc _).alloc _
  clear hW
  go_wp2
  refine bodyPost_ret (v := .agg #[.slice a l c, .int .i64 x.off, .int .i64 1, .int .i64 x.n, .int .i64 x.inc]) (by simp [results, Try.results137, go_sem, *]) rfl ?_
  exact ⟨rfl, by (show Grew _ _; repeat (first | (with_reducible exact Grew.refl _) | (with_reducible assumption) | (with_reducible refine Grew.ext ?_ _ _) | (with_reducible refine Grew.alloc ?_ _) | ((with_reducible refine Grew.setCell ?_ ?_ _); rotate_left; (focus (dsimp only; first | omega | (simp only [size_ext, World.size_alloc, Array.size_append]; omega)))) | (with_reducible refine Grew.drewN ?_ _) | (with_reducible refine Grew.drew ?_)))⟩
theorem hmf (fn : Fn) (first cap : Array Value) (w : World) : (Instr.makeFunc fn first cap).run Try.prog w = .ok (.func fn first cap) w := rfl
/-- What a closure of ger.each does at a place. -/
def DoesAt (w : World) (m : MatM) (g : Nat) (q1 q2 q3 : Value) (F : Nat → Nat → Nat → Nat) : Prop :=
  ∀ w' L s, But w [g] w' → FW w' g L → Hold m.place m.rows.toNat m.cols.toNat m.ws L s → ∀ i j : Nat, (i : Int) < m.rows → (j : Int) < m.cols →
    Calls Try.prog 139 #[.int .i64 i, .int .i64 j, .pointer (some ⟨g, (m.off + j * m.ld + i).toNat, none⟩), q1, q2, q3] w' (fun e w2 => e = .returned (.tuple #[]) ∧ Wrote w' w2 g (L.set (m.place i j) (F i j (s i j))))
def stepF (F : Nat → Nat → Nat → Nat) (s : Nat → Nat → Nat) (j i : Nat) (r c : Nat) : Nat := if c < j ∨ (c = j ∧ r < i) then F r c (s r c) else s r c
set_option maxRecDepth 100000 in
set_option maxHeartbeats 2000000 in
/-- ger.each. -/
theorem each_any (m : MatM) (g ca : Nat) (q1 q2 q3 : Value) (F : Nat → Nat → Nat → Nat) (w : World) (hF : FW w g m.ws) (hm : m.good = true) (hwm : m.wf) (hlm : m.ws.length ≤ 1000000) (hr : m.rows ≤ 1000) (hc : m.cols ≤ 1000)
    (hdo : DoesAt w m g q1 q2 q3 F) :
   Calls Try.prog 138 #[.agg #[.slice (some ⟨g, 0, none⟩) m.ws.length ca, .int .i64 m.off, .int .i64 m.rows, .int .i64 m.cols, .int .i64 m.ld], .func (.func 139) #[] #[q1, q2, q3]] w
     (fun e w' => e = .returned (.tuple #[]) ∧ But w [g] w' ∧ ∃ L, FW w' g L ∧ Hold m.place m.rows.toNat m.cols.toNat m.ws L (fun i j => F i j (m.num i j))) := by
  have hn := MatM.good_n hm
  have hltg := hF.lt
  have hpl := MatM.places hm
  have Hm := hid hm
  have hcl : ∀ w', FS w' (.slice (some ⟨g, 0, none⟩) m.ws.length ca) m.ws → True := fun _ _ => trivial
  have hcolA : ∀ (j : Nat) (L : List Nat) w', L.length = m.ws.length → FW w' g L → (j : Int) < m.cols → 0 < m.rows → Calls Try.prog 149 #[.agg #[.slice (some ⟨g, 0, none⟩) m.ws.length ca, .int .i64 m.off, .int .i64 m.rows, .int .i64 m.cols, .int .i64 m.ld], .int .i64 j] w'
      (fun e w2 => e = .returned (.agg #[.slice (some ⟨g, 0, none⟩) m.ws.length ca, .int .i64 (m.off + j * m.ld), .int .i64 m.rows, .int .i64 1]) ∧ ∃ o n, w2 = ext w' o n) := fun j L w' hl h hj h0 => by
    have h1 := h.fs (by omega) ca
    rw [hl] at h1
    have := col_any (withL m L) (.slice (some ⟨g, 0, none⟩) m.ws.length ca) j w' h1 (by rw [withL_good hl]; exact hm) hwm hj
    have e : (colV (withL m L) j).off = m.off + j * m.ld := by unfold colV withL; simp [h0]
    rw [e] at this
    exact this
  by_cases h0 : m.rows = 0
  · have d0 : (m.rows == 0) = true := by simpa using h0
    have hh : Hold m.place m.rows.toNat m.cols.toNat m.ws m.ws (fun i j => F i j (m.num i j)) := ⟨rfl, fun i j hi hj => by omega, fun _ _ => rfl⟩
    clear hdo hm hwm
    go_enter Try.func138, Try.ntmps138
    refine seq_stop ?_
    go_wp2
    refine stop_go (fun W hW => ?_)
    have s1 : w.heap.size < W.heap.size := by rw [hW]; simp only [World.size_alloc]; omega
    have b1 : ∀ i, W.cell? ⟨w.heap.size, i, none⟩ = (#[.slice (some ⟨g, 0, none⟩) m.ws.length ca, .int .i64 m.off, .int .i64 m.rows, .int .i64 m.cols, .int .i64 m.ld] : Array Value)[i]? := by intro i; rw [hW]; go_simp
    have g0 : Grew w W := by rw [hW]; exact (Grew.refl _).alloc _
    clear hW
    go_wp2
    refine bodyPost_ret (v := .tuple #[]) (by simp [results, Try.results138, go_sem, *]) rfl ?_
    exact ⟨rfl, (But.refl w [g]).grew (by (show Grew _ _; repeat (first | (with_reducible exact Grew.refl _) | (with_reducible assumption) | (with_reducible refine Grew.ext ?_ _ _) | (with_reducible refine Grew.alloc ?_ _) | ((with_reducible refine Grew.setCell ?_ ?_ _); rotate_left; (focus (dsimp only; first | omega | (simp only [size_ext, World.size_alloc, Array.size_append]; omega)))) | (with_reducible refine Grew.drewN ?_ _) | (with_reducible refine Grew.drew ?_)))), m.ws, hF.grew (by (show Grew _ _; repeat (first | (with_reducible exact Grew.refl _) | (with_reducible assumption) | (with_reducible refine Grew.ext ?_ _ _) | (with_reducible refine Grew.alloc ?_ _) | ((with_reducible refine Grew.setCell ?_ ?_ _); rotate_left; (focus (dsimp only; first | omega | (simp only [size_ext, World.size_alloc, Array.size_append]; omega)))) | (with_reducible refine Grew.drewN ?_ _) | (with_reducible refine Grew.drew ?_)))), hh⟩
  · have d0 : (m.rows == 0) = false := by simpa using h0
    have h1 : 0 < m.rows := by omega
    clear hm hwm
    go_enter Try.func138, Try.ntmps138
    refine seq_stop ?_
    go_wp2
    refine stop_go (fun W hW => ?_)
    have s1 : w.heap.size < W.heap.size := by rw [hW]; simp only [World.size_alloc]; omega
    have b1 : ∀ i, W.cell? ⟨w.heap.size, i, none⟩ = (#[.slice (some ⟨g, 0, none⟩) m.ws.length ca, .int .i64 m.off, .int .i64 m.rows, .int .i64 m.cols, .int .i64 m.ld] : Array Value)[i]? := by intro i; rw [hW]; go_simp
    have g0 : Grew w W := by rw [hW]; exact (Grew.refl _).alloc _
    clear hW
    have zW := g0.below.size
    have bw : ∀ w', But W [g] w' → But w [g] w' := fun w' h => ((But.refl w [g]).grew g0).trans h (fun _ hb => .inl hb)
    have hFW : FW W g m.ws := hF.grew g0
    have cU : ∀ w', But W [g] w' → ∀ i, w'.cell? ⟨w.heap.size, i, none⟩ = (#[.slice (some ⟨g, 0, none⟩) m.ws.length ca, .int .i64 m.off, .int .i64 m.rows, .int .i64 m.cols, .int .i64 m.ld] : Array Value)[i]? := fun w' h i => (h.cell s1 (by simp; omega)).trans (b1 i)
    go_wp2
    go_loopw [12] (fun c wr => ∃ (j : Nat) (L : List Nat), (j : Int) ≤ m.cols ∧ c = .int .i64 j ∧ But W [g] wr ∧ FW wr g L ∧ Hold m.place m.rows.toNat m.cols.toNat m.ws L (stepF F m.num j 0)) (fun c _ => (m.cols - intOf c).toNat)
    case atStart => exact ⟨0, m.ws, hn.2.1, rfl, But.refl _ _, hFW, MatM.hold.congr fun i j _ _ => by simp [stepF]⟩
    case round =>
      obtain ⟨j, L, hj, rfl, hB, hL, hH⟩ := hrel
      have tT := cU _ hB
      have zB := hB.size
      have kT : w.heap.size < wr.heap.size := by omega
      by_cases hlt : (j : Int) < m.cols
      · have hlt' := hid hlt
        have hcj := fun w' (h : FW w' g L) => hcolA j L w' hH.len h hlt h1
        go_wp2_with (first | (go_at_call 149; ((with_reducible refine (hcj _ hL).mono ?_); rintro e w1 ⟨rfl, oc, nc, rfl⟩)))
        refine name_any (fun V hV => ?_)
        have gV : Grew wr V := by rw [← hV]; (show Grew _ _; repeat (first | (with_reducible exact Grew.refl _) | (with_reducible assumption) | (with_reducible refine Grew.ext ?_ _ _) | (with_reducible refine Grew.alloc ?_ _) | ((with_reducible refine Grew.setCell ?_ ?_ _); rotate_left; (focus (dsimp only; first | omega | (simp only [size_ext, World.size_alloc, Array.size_append]; omega)))) | (with_reducible refine Grew.drewN ?_ _) | (with_reducible refine Grew.drew ?_)))
        have BV : But W [g] V := hB.grew gV
        have cT : ∀ i, V.cell? ⟨wr.heap.size + oc.size, i, none⟩ = (#[.slice (some ⟨g, 0, none⟩) m.ws.length ca, .int .i64 (m.off + j * m.ld), .int .i64 m.rows, .int .i64 1] : Array Value)[i]? := by subst hV; intro i; go_simp
        have kV : wr.heap.size + oc.size < V.heap.size := by rw [← hV]; simp only [World.size_alloc, size_ext]; omega
        obtain ⟨T, hT⟩ : ∃ T, wr.heap.size + oc.size = T := ⟨_, rfl⟩
        have zT : wr.heap.size ≤ T := by omega
        rw [hT] at cT kV
        simp only [hT]
        have ltg2 := hL.lt
        have cV : ∀ w', But V [g] w' → ∀ i, w'.cell? ⟨T, i, none⟩ = (#[.slice (some ⟨g, 0, none⟩) m.ws.length ca, .int .i64 (m.off + j * m.ld), .int .i64 m.rows, .int .i64 1] : Array Value)[i]? := fun w' h i => (h.cell kV (by simp; omega)).trans (cT i)
        have bV : ∀ w', But V [g] w' → But W [g] w' := fun w' h => BV.trans h (fun _ hb => .inl hb)
        have hLV : FW V g L := hL.grew gV
        clear hV hT cT
        go_wp2
        go_loopw [20] (fun c wr => ∃ (i : Nat) (L : List Nat), (i : Int) ≤ m.rows ∧ c = .int .i64 i ∧ But V [g] wr ∧ FW wr g L ∧ Hold m.place m.rows.toNat m.cols.toNat m.ws L (stepF F m.num j i)) (fun c _ => (m.rows - intOf c).toNat)
        case atStart => exact ⟨0, L, by omega, rfl, But.refl _ _, hLV, hH⟩
        case round =>
          obtain ⟨i, L2, hi, rfl, hB2, hL2, hH2⟩ := hrel
          have tV := cV _ hB2
          have zB2 := hB2.size
          have kT2 : T < wr.heap.size := by omega
          by_cases hli : (i : Int) < m.rows
          · have hp := MatM.good_place Hm.out hli hlt'.out
            have r1 : IntKind.i64.wrap (m.off + j * m.ld + i) = m.off + j * m.ld + i := IntWalk.i64_in _ (by omega)
            have e1 : 0 ≤ m.off + j * m.ld + i := by omega
            have e2 : m.off + j * m.ld + i < m.ws.length := by omega
            have hcall := hdo wr L2 _ (bw _ (bV _ hB2)) hL2 hH2 i j hli hlt'.out
            go_wp2_with (first | (go_at_call 139; ((with_reducible refine (hcall).mono ?_); rintro e w1 ⟨rfl, hw1⟩)))
            go_roundw
            case rel =>
              refine ⟨i + 1, _, by omega, by go_num, hB2.wrote hw1 (.inl (by simp)), hw1.fw hL2, (hH2.set hpl (by omega) (by have := hlt'.out; omega)).congr fun r c hr hc => ?_⟩
              unfold stepF
              by_cases hrc : r = i ∧ c = j
              · obtain ⟨rfl, rfl⟩ := hrc
                simp
              · rw [if_neg hrc]
                by_cases h2 : c < j ∨ (c = j ∧ r < i)
                · rw [if_pos h2, if_pos (by omega)]
                · rw [if_neg h2, if_neg (by omega)]
            case measure => simp [intOf]; omega
          · have e : i = m.rows.toNat := by omega
            go_wp2
            go_roundw
            case rel =>
              refine ⟨j + 1, L2, by have := hlt'.out; omega, by go_num, bV _ hB2, hL2, hH2.congr fun r c hr hc => ?_⟩
              unfold stepF
              by_cases h2 : c < j ∨ (c = j ∧ r < i)
              · rw [if_pos h2, if_pos (by omega)]
              · rw [if_neg h2, if_neg (by omega)]
            case measure => (have := hlt'.out; simp [intOf]; omega)
      · go_wp2
        go_end0
        refine ⟨rfl, bw _ hB, L, hL, hH.congr fun r c hr hc => ?_⟩
        unfold stepF
        rw [if_pos (by omega)]
end Go.Proofs.Ytcmggfpcbijcjaa
end
section
/-
  Plain: the steps of a triangular system, column by column and row by row, come to the same.
-/
set_option linter.unusedSimpArgs false
set_option linter.unusedVariables false
namespace Sedge
def lessF (s : Nat → Nat) (i k a : Nat) : Nat → Nat := fun r => if r = i then fsub (s i) (fmul a (s k)) else s r
def divF (s : Nat → Nat) (i a : Nat) : Nat → Nat := fun r => if r = i then fdiv (s i) a else s r
theorem lessF_eq {s : Nat → Nat} {i k a : Nat} : lessF s i k a i = fsub (s i) (fmul a (s k)) := by simp [lessF]
theorem lessF_ne {s : Nat → Nat} {i k a r : Nat} (h : r ≠ i) : lessF s i k a r = s r := by simp [lessF, h]
theorem divF_eq {s : Nat → Nat} {i a : Nat} : divF s i a i = fdiv (s i) a := by simp [divF]
theorem divF_ne {s : Nat → Nat} {i a r : Nat} (h : r ≠ i) : divF s i a r = s r := by simp [divF, h]
section
variable (M : Nat → Nat → Nat)
/-- Row i: less its first t products, the columns in their order. -/
def rowIn (s : Nat → Nat) (i : Nat) : Nat → (Nat → Nat)
  | 0 => s
  | t + 1 => lessF (rowIn s i t) i t (M i t)
def rowAll (s : Nat → Nat) : Nat → (Nat → Nat)
  | 0 => s
  | i + 1 => rowIn M (rowAll s i) i i
/-- Column j: out of the t rows below it. -/
def colIn (s : Nat → Nat) (j : Nat) : Nat → (Nat → Nat)
  | 0 => s
  | t + 1 => lessF (colIn s j t) (j + 1 + t) j (M (j + 1 + t) j)
def colAll (n : Nat) (s : Nat → Nat) : Nat → (Nat → Nat)
  | 0 => s
  | j + 1 => colIn M (colAll n s j) j (n - 1 - j)
variable {M} {s : Nat → Nat}
theorem rowIn_ne {i r : Nat} (h : r ≠ i) : ∀ t, rowIn M s i t r = s r
  | 0 => rfl
  | t + 1 => by unfold rowIn; rw [lessF_ne h, rowIn_ne h t]
theorem rowAll_ge {r : Nat} : ∀ k, k ≤ r → rowAll M s k r = s r
  | 0, _ => rfl
  | k + 1, h => by unfold rowAll; rw [rowIn_ne (by omega), rowAll_ge k (by omega)]
theorem rowAll_gt {r : Nat} : ∀ k, r < k → rowAll M s k r = rowAll M s (r + 1) r
  | 0, h => absurd h (by omega)
  | k + 1, h => by
    by_cases e : r = k
    · subst e; rfl
    · show rowIn M (rowAll M s k) k k r = _
      rw [rowIn_ne e, rowAll_gt k (by omega)]
/-- Row r less t products. -/
def gRow (M : Nat → Nat → Nat) (s : Nat → Nat) (r t : Nat) : Nat := rowIn M (rowAll M s r) r t r
theorem gRow_zero {r : Nat} : gRow M s r 0 = s r := rowAll_ge r (Nat.le_refl r)
theorem gRow_succ {r t : Nat} (h : t < r) : gRow M s r (t + 1) = fsub (gRow M s r t) (fmul (M r t) (gRow M s t t)) := by
  show lessF (rowIn M (rowAll M s r) r t) r t (M r t) r = _
  rw [lessF_eq, rowIn_ne (by omega : t ≠ r), rowAll_gt r h]
  rfl
theorem rowAll_g {n r : Nat} (h : r < n) : rowAll M s n r = gRow M s r r := by rw [rowAll_gt n h]; rfl
theorem colIn_eq {v : Nat → Nat} {n j : Nat} (hs : ∀ r, r < n → s r = gRow M v r (min r j)) (hj : j < n) : ∀ t, j + t < n → ∀ r, r < n → colIn M s j t r = if j < r ∧ r ≤ j + t then gRow M v r (j + 1) else s r
  | 0, _, r, _ => by rw [if_neg (by omega)]; rfl
  | t + 1, ht, r, hr => by
    show lessF (colIn M s j t) (j + 1 + t) j (M (j + 1 + t) j) r = _
    have ih := colIn_eq hs hj t (by omega)
    by_cases e : r = j + 1 + t
    · subst e
      rw [lessF_eq, ih _ (by omega), if_neg (by omega), ih j hj, if_neg (by omega), if_pos (by omega), hs _ (by omega), hs j hj, Nat.min_self, Nat.min_eq_right (by omega), gRow_succ (by omega)]
    · rw [lessF_ne e, ih r hr]
      by_cases h1 : j < r ∧ r ≤ j + t
      · rw [if_pos h1, if_pos (by omega)]
      · rw [if_neg h1, if_neg (by omega)]
theorem colAll_eq {n : Nat} : ∀ j, j ≤ n → ∀ r, r < n → colAll M n s j r = gRow M s r (min r j)
  | 0, _, r, _ => by rw [Nat.min_zero, gRow_zero]; rfl
  | j + 1, hj, r, hr => by
    have ih := colAll_eq (n := n) j (by omega)
    show colIn M (colAll M n s j) j (n - 1 - j) r = _
    rw [colIn_eq ih (by omega) _ (by omega) r hr]
    by_cases h1 : j < r
    · rw [if_pos (by omega), Nat.min_eq_right (by omega)]
    · rw [if_neg (by omega), ih r hr, Nat.min_eq_left (by omega), Nat.min_eq_left (by omega)]
/-- Kind 1: column by column is row by row. -/
theorem col_row {n r : Nat} (h : r < n) : colAll M n s n r = rowAll M s n r := by
  rw [colAll_eq n (Nat.le_refl n) r h, Nat.min_eq_left (by omega), rowAll_g h]
end
section
variable (M : Nat → Nat → Nat) (n : Nat)
def rowIn2 (s : Nat → Nat) (i : Nat) : Nat → (Nat → Nat)
  | 0 => s
  | t + 1 => lessF (rowIn2 s i t) i (n - 1 - t) (M i (n - 1 - t))
def rowAll2 (s : Nat → Nat) : Nat → (Nat → Nat)
  | 0 => s
  | k + 1 => divF (rowIn2 M n (rowAll2 s k) (n - 1 - k) k) (n - 1 - k) (M (n - 1 - k) (n - 1 - k))
def colIn2 (s : Nat → Nat) (j : Nat) : Nat → (Nat → Nat)
  | 0 => s
  | t + 1 => lessF (colIn2 s j t) t j (M t j)
def colAll2 (s : Nat → Nat) : Nat → (Nat → Nat)
  | 0 => s
  | k + 1 => colIn2 M (divF (colAll2 s k) (n - 1 - k) (M (n - 1 - k) (n - 1 - k))) (n - 1 - k) (n - 1 - k)
variable {M n} {s : Nat → Nat}
theorem rowIn2_ne {i r : Nat} (h : r ≠ i) : ∀ t, rowIn2 M n s i t r = s r
  | 0 => rfl
  | t + 1 => by unfold rowIn2; rw [lessF_ne h, rowIn2_ne h t]
theorem rowAll2_ge {r : Nat} (hr : r < n) : ∀ k, k ≤ n - 1 - r → rowAll2 M n s k r = s r
  | 0, _ => rfl
  | k + 1, h => by unfold rowAll2; rw [divF_ne (by omega), rowIn2_ne (by omega), rowAll2_ge hr k (by omega)]
theorem rowAll2_gt {r : Nat} (hr : r < n) : ∀ k, n - 1 - r < k → k ≤ n → rowAll2 M n s k r = rowAll2 M n s (n - 1 - r + 1) r
  | 0, h, _ => absurd h (by omega)
  | k + 1, h, hk => by
    by_cases e : k = n - 1 - r
    · subst e; rfl
    · show divF (rowIn2 M n (rowAll2 M n s k) (n - 1 - k) k) (n - 1 - k) _ r = _
      rw [divF_ne (by omega), rowIn2_ne (by omega), rowAll2_gt hr k (by omega) (by omega)]
def gRow2 (M : Nat → Nat → Nat) (n : Nat) (s : Nat → Nat) (r t : Nat) : Nat := rowIn2 M n (rowAll2 M n s (n - 1 - r)) r t r
def fRow2 (M : Nat → Nat → Nat) (n : Nat) (s : Nat → Nat) (r : Nat) : Nat := fdiv (gRow2 M n s r (n - 1 - r)) (M r r)
theorem gRow2_zero {r : Nat} (hr : r < n) : gRow2 M n s r 0 = s r := rowAll2_ge hr _ (Nat.le_refl _)
theorem rowAll2_f {r k : Nat} (hr : r < n) (h : n - 1 - r < k) (hk : k ≤ n) : rowAll2 M n s k r = fRow2 M n s r := by
  rw [rowAll2_gt hr k h hk]
  show divF (rowIn2 M n (rowAll2 M n s (n - 1 - r)) (n - 1 - (n - 1 - r)) (n - 1 - r)) (n - 1 - (n - 1 - r)) (M (n - 1 - (n - 1 - r)) (n - 1 - (n - 1 - r))) r = _
  rw [show n - 1 - (n - 1 - r) = r by omega, divF_eq]; rfl
theorem gRow2_succ {r t : Nat} (hr : r < n) (h : t < n - 1 - r) : gRow2 M n s r (t + 1) = fsub (gRow2 M n s r t) (fmul (M r (n - 1 - t)) (fRow2 M n s (n - 1 - t))) := by
  show lessF (rowIn2 M n (rowAll2 M n s (n - 1 - r)) r t) r (n - 1 - t) (M r (n - 1 - t)) r = _
  rw [lessF_eq, rowIn2_ne (by omega : n - 1 - t ≠ r), rowAll2_f (by omega) (by omega) (by omega)]
  rfl
theorem colIn2_eq {k j : Nat} {u : Nat → Nat} (hj : j = n - 1 - k) (hk : k < n) (hu : ∀ r, r < j → u r = gRow2 M n s r k) (huj : u j = fRow2 M n s j) : ∀ t, t ≤ j → ∀ r, r < n → colIn2 M u j t r = if r < t then gRow2 M n s r (k + 1) else u r
  | 0, _, r, _ => by rw [if_neg (by omega)]; rfl
  | t + 1, ht, r, hr => by
    show lessF (colIn2 M u j t) t j (M t j) r = _
    have ih := colIn2_eq hj hk hu huj t (by omega)
    by_cases e : r = t
    · subst e
      rw [lessF_eq, ih r hr, if_neg (by omega), ih j (by omega), if_neg (by omega), if_pos (by omega), hu r (by omega), huj, gRow2_succ hr (by omega), hj]
    · rw [lessF_ne e, ih r hr]
      by_cases h1 : r < t
      · rw [if_pos h1, if_pos (by omega)]
      · rw [if_neg h1, if_neg (by omega)]
theorem colAll2_eq : ∀ k, k ≤ n → ∀ r, r < n → colAll2 M n s k r = if n - 1 - r < k then fRow2 M n s r else gRow2 M n s r k
  | 0, _, r, hr => by rw [if_neg (by omega), gRow2_zero hr]; rfl
  | k + 1, hk, r, hr => by
    have ih := colAll2_eq k (by omega)
    show colIn2 M (divF (colAll2 M n s k) (n - 1 - k) (M (n - 1 - k) (n - 1 - k))) (n - 1 - k) (n - 1 - k) r = _
    have e1 : n - 1 - (n - 1 - k) = k := by omega
    rw [colIn2_eq (k := k) (s := s) rfl (by omega) (fun q hq => by rw [divF_ne (by omega), ih q (by omega), if_neg (by omega)]) (by rw [divF_eq, ih _ (by omega), if_neg (by omega)]; unfold fRow2; rw [e1]) _ (Nat.le_refl _) r hr]
    by_cases h1 : r < n - 1 - k
    · rw [if_pos h1, if_neg (by omega)]
    · rw [if_neg h1, if_pos (by omega)]
      by_cases h2 : r = n - 1 - k
      · subst h2
        rw [divF_eq, ih _ (by omega), if_neg (by omega)]; unfold fRow2; rw [e1]
      · rw [divF_ne h2, ih r hr, if_pos (by omega)]
/-- Kind 2: column by column is row by row. -/
theorem col_row2 {r : Nat} (h : r < n) : colAll2 M n s n r = rowAll2 M n s n r := by
  rw [colAll2_eq n (Nat.le_refl n) r h, if_pos (by omega), rowAll2_f h (by omega) (Nat.le_refl n)]
end
end Sedge
end
section
/-
  Plain: a vector's numbers as a function; the four kinds of a triangular system.
-/
set_option linter.unusedSimpArgs false
set_option linter.unusedVariables false
open Go.Proofs.Ytcmggfpcbijcjaa
namespace Sedge
/-- The list L is x's, but its numbers are s. -/
structure VH (x : VecM) (L : List Nat) (s : Nat → Nat) : Prop where
  len : L.length = x.ws.length
  get : ∀ r : Nat, (r : Int) < x.n → L.getD (x.place r) 0 = s r
  rest : ∀ q, (∀ r : Nat, (r : Int) < x.n → x.place r ≠ q) → L.getD q 0 = x.ws.getD q 0
theorem VH.start (x : VecM) : VH x x.ws x.num := ⟨rfl, fun _ _ => rfl, fun _ _ => rfl⟩
theorem VH.set {x : VecM} {L : List Nat} {s : Nat → Nat} (h : VH x L s) (hx : x.right = true) {i v : Nat} (hi : (i : Int) < x.n) : VH x (L.set (x.place i) v) (fun r => if r = i then v else s r) := by
  refine ⟨by simp [h.len], fun r hr => ?_, fun q hq => ?_⟩
  · by_cases e : r = i
    · subst e; rw [getD_set_eq (by rw [h.len]; exact VecM.place_lt hx hi)]; simp
    · rw [getD_set_ne' (fun e' => e (VecM.place_inj hx hr hi e'.symm)), h.get r hr]; simp [e]
  · rw [getD_set_ne' (hq i hi), h.rest q hq]
theorem VH.less {x : VecM} {L : List Nat} {s : Nat → Nat} (h : VH x L s) (hx : x.right = true) {i k a : Nat} (hi : (i : Int) < x.n) (hk : (k : Int) < x.n) :
    VH x (L.set (x.place i) (fsub (L.getD (x.place i) 0) (fmul a (L.getD (x.place k) 0)))) (lessF s i k a) := by
  rw [h.get i hi, h.get k hk]
  exact h.set hx hi
theorem VH.div {x : VecM} {L : List Nat} {s : Nat → Nat} (h : VH x L s) (hx : x.right = true) {i a : Nat} (hi : (i : Int) < x.n) : VH x (L.set (x.place i) (fdiv (L.getD (x.place i) 0) a)) (divF s i a) := by
  rw [h.get i hi]; exact h.set hx hi
theorem VH.congr {x : VecM} {L : List Nat} {s t : Nat → Nat} (h : VH x L s) (e : ∀ r : Nat, (r : Int) < x.n → s r = t r) : VH x L t := ⟨h.len, fun r hr => (h.get r hr).trans (e r hr), h.rest⟩
theorem VH.final {x : VecM} {L : List Nat} {s : Nat → Nat} (h : VH x L s) (hx : x.right = true) : L = VecMwrite x ((List.range x.n.toNat).map s) := by
  have hn := VecM.right_n hx
  have hm : min x.n.toNat ((List.range x.n.toNat).map s).length = x.n.toNat := by simp
  unfold VecMwrite VecMwriteTo
  rw [hm]
  apply List.ext_getElem?
  intro q
  have hl : L.length = (writes x.ws x.place (fun t => ((List.range x.n.toNat).map s).getD t 0) x.n.toNat).length := by rw [writes_length, h.len]
  by_cases hq : q < L.length
  · have e : L.getD q 0 = (writes x.ws x.place (fun t => ((List.range x.n.toNat).map s).getD t 0) x.n.toNat).getD q 0 := by
      by_cases hp : ∃ r : Nat, (r : Int) < x.n ∧ x.place r = q
      · obtain ⟨r, hr, rfl⟩ := hp
        rw [h.get r hr, writes_at x.n.toNat (fun a b ha hb e => VecM.place_inj hx (by omega) (by omega) e) (fun a ha => VecM.place_lt hx (by omega)) r (by omega)]
        rw [List.getD_eq_getElem?_getD, List.getElem?_map, List.getElem?_range (by omega)]; rfl
      · have hp' : ∀ r : Nat, (r : Int) < x.n → x.place r ≠ q := fun r hr e => hp ⟨r, hr, e⟩
        rw [h.rest q hp', writes_other x.n.toNat fun t ht => hp' t (by omega)]
    rw [List.getD_eq_getElem?_getD, List.getD_eq_getElem?_getD, List.getElem?_eq_getElem hq, List.getElem?_eq_getElem (by omega)] at e
    rw [List.getElem?_eq_getElem hq, List.getElem?_eq_getElem (by omega)]
    simpa using e
  · rw [List.getElem?_eq_none (by omega), List.getElem?_eq_none (by omega)]
section
variable (M : Nat → Nat → Nat) (n : Nat)
def rowIn3 (s : Nat → Nat) (i : Nat) : Nat → (Nat → Nat)
  | 0 => s
  | t + 1 => lessF (rowIn3 s i t) i (i + 1 + t) (M (i + 1 + t) i)
def rowAll3 (s : Nat → Nat) : Nat → (Nat → Nat)
  | 0 => s
  | k + 1 => rowIn3 M (rowAll3 s k) (n - 1 - k) k
def rowIn4 (s : Nat → Nat) (i : Nat) : Nat → (Nat → Nat)
  | 0 => s
  | t + 1 => lessF (rowIn4 s i t) i t (M t i)
def rowAll4 (s : Nat → Nat) : Nat → (Nat → Nat)
  | 0 => s
  | i + 1 => divF (rowIn4 M (rowAll4 s i) i i) i (M i i)
/-- What a system of a kind comes to (as the document says it: row by row). -/
def solveF (k : Int) (s : Nat → Nat) : Nat → Nat :=
  if k = 1 then rowAll M s n else if k = 2 then rowAll2 M n s n else if k = 3 then rowAll3 M n s n else rowAll4 M s n
end
end Sedge
end
section
/-
  Contracts: trsv.zero; the system's num, at, less.
-/
set_option linter.unusedSimpArgs false
set_option linter.unusedVariables false
open Go Go.RowKit Sedge
namespace Go.Proofs.Ytcmggfpcbijcjaa
def feq0 (x : Nat) : Bool := D64.order x 0 == some .eq
def zeroTo (k : Int) (x : MatM) (n : Nat) : Bool := (decide (k = 2) || decide (k = 4)) && (List.range n).any fun i => feq0 (x.num i i)
theorem zeroTo_succ (k : Int) (x : MatM) (n : Nat) : zeroTo k x (n + 1) = (zeroTo k x n || ((decide (k = 2) || decide (k = 4)) && feq0 (x.num n n))) := by
  unfold zeroTo; rw [List.range_succ, List.any_append]
  cases (decide (k = 2) || decide (k = 4)) <;> simp
theorem zeroTo_mono {k : Int} {x : MatM} {m n : Nat} (h : zeroTo k x m = true) (hmn : m ≤ n) : zeroTo k x n = true := by
  unfold zeroTo at *
  simp only [Bool.and_eq_true, List.any_eq_true, List.mem_range] at *
  obtain ⟨h1, t, h2, h3⟩ := h
  exact ⟨h1, t, by omega, h3⟩
set_option maxRecDepth 100000 in
set_option maxHeartbeats 1000000 in
/-- trsv.zero. -/
theorem zero_any (k : Int) (x : MatM) (D : Value) (w : World) (hD : FS w D x.ws) (hx : x.good = true) (hwf : x.wf) (hsq : x.rows = x.cols) (hr : x.rows ≤ 1000) (hl : x.ws.length ≤ 1000000) :
   Calls Try.prog 153 #[.int .i64 k, .agg #[D, .int .i64 x.off, .int .i64 x.rows, .int .i64 x.cols, .int .i64 x.ld]] w (fun e w' => e = .returned (.bool (zeroTo k x x.rows.toNat)) ∧ ∃ o n, w' = ext w o n) := by
  have hn := x.good_n hx
  have Hsq := hid hsq
  have hat : ∀ i : Nat, (i : Int) < x.rows → ∀ w', FS w' D x.ws → Calls Try.prog 186 #[.agg #[D, .int .i64 x.off, .int .i64 x.rows, .int .i64 x.cols, .int .i64 x.ld], .int .i64 i, .int .i64 i] w' (fun e w2 => ∃ b, e = .returned (.float .f64 b) ∧ IsF b (x.num i i) ∧ ∃ o n, w2 = ext w' o n) := fun i hi w' h => vat_any x D i i w' h hx hwf hi (by have := Hsq.out; omega) hl
  clear hx hwf hsq
  by_cases hk : k = 2 ∨ k = 4
  · have hkk : (decide (k = 2) || decide (k = 4)) = true := by simpa using hk
    have Hk := hid hkk
    go_enter Try.func153, Try.ntmps153
    refine seq_stop ?_
    go_wp2
    refine stop_go (fun W hW => ?_)
    have s1 : w.heap.size < W.heap.size := by rw [hW]; simp only [World.size_alloc]; omega
    have b1 : ∀ i, W.cell? ⟨w.heap.size, i, none⟩ = (#[D, .int .i64 x.off, .int .i64 x.rows, .int .i64 x.cols, .int .i64 x.ld] : Array Value)[i]? := by intro i; rw [hW]; go_simp
    have g0 : Grew w W := by rw [hW]; exact (Grew.refl _).alloc _
    clear hW
    have hDW := hD.grew g0
    go_wp2
    go_loopw [8] (fun c wr => ∃ (i : Nat) (o : Array Obj) (n : Nat), (i : Int) ≤ x.rows ∧ c = .int .i64 i ∧ wr = ext W o n ∧ zeroTo k x i = false) (fun c _ => x.rows.toNat - (intOf c).toNat)
    case atStart => exact ⟨0, #[], _, hn.1, rfl, ext_zero.symm, by simp [zeroTo]⟩
    case round =>
      obtain ⟨i, o2, n2, hi, rfl, hwr, hz⟩ := hrel
      subst hwr
      have Hz := hid hz
      clear hz
      by_cases hlt : (i : Int) < x.rows
      · have hS := hid (zeroTo_succ k x i)
        have hlt' := hid hlt
        have hati := hat i hlt
        clear hat
        cases hz : feq0 (x.num i i)
        · have h1 : zeroTo k x (i + 1) = false := by rw [hS.out, Hz.out, hz]; simp
          have H1 := hid h1
          clear h1
          rcases hk with hk2 | hk4
          · have d1 : (k == 2) = true := by simpa using hk2
            clear hk2 hkk
            go_wp2_with (first | (go_at_call 186; ((with_reducible refine (hati _ ?_).mono ?_); (focus (first | (with_reducible assumption) | (with_reducible refine FS.ext ?_ _ _; with_reducible assumption) | (with_reducible refine IS.ext ?_ _ _; with_reducible assumption) | (refine hDu _ ?_; with_reducible assumption) | (refine hOu _ ?_; with_reducible assumption) | (refine hDa _ ?_; with_reducible assumption) | (refine hDb _ ?_; with_reducible assumption) | (refine hDc _ ?_; with_reducible assumption) | (refine hDd _ ?_; with_reducible assumption) | (refine FW.fs ?_ (by omega) _; with_reducible assumption) | (refine WS.fs ?_; with_reducible assumption) | (refine FW.fs ?_ (by omega) _; assumption) | omega | assumption)); rintro e w1 ⟨b, rfl, hf, o3, n3, rfl⟩; (have hz' : (FloatKind.f64.format.order b 0 == some Ordering.eq) = false := by rw [← hz]; unfold feq0; rw [← hf.order isF_zero]; rfl))))
            go_roundw
            case rel => exact ⟨i + 1, _, _, by have := hlt'.out; omega, by go_num, rfl, H1.out⟩
            case measure => (have := hlt'.out; simp [intOf]; omega)
          · have d1 : (k == 2) = false := by rw [beq_eq_false_iff_ne]; omega
            have d2 : (k == 4) = true := by simpa using hk4
            clear hk4 hkk
            go_wp2_with (first | (go_at_call 186; ((with_reducible refine (hati _ ?_).mono ?_); (focus (first | (with_reducible assumption) | (with_reducible refine FS.ext ?_ _ _; with_reducible assumption) | (with_reducible refine IS.ext ?_ _ _; with_reducible assumption) | (refine hDu _ ?_; with_reducible assumption) | (refine hOu _ ?_; with_reducible assumption) | (refine hDa _ ?_; with_reducible assumption) | (refine hDb _ ?_; with_reducible assumption) | (refine hDc _ ?_; with_reducible assumption) | (refine hDd _ ?_; with_reducible assumption) | (refine FW.fs ?_ (by omega) _; with_reducible assumption) | (refine WS.fs ?_; with_reducible assumption) | (refine FW.fs ?_ (by omega) _; assumption) | omega | assumption)); rintro e w1 ⟨b, rfl, hf, o3, n3, rfl⟩; (have hz' : (FloatKind.f64.format.order b 0 == some Ordering.eq) = false := by rw [← hz]; unfold feq0; rw [← hf.order isF_zero]; rfl))))
            go_roundw
            case rel => exact ⟨i + 1, _, _, by have := hlt'.out; omega, by go_num, rfl, H1.out⟩
            case measure => (have := hlt'.out; simp [intOf]; omega)
        · have h1 : zeroTo k x (i + 1) = true := by rw [hS.out, Hk.out, hz]; simp
          have q := hid (zeroTo_mono h1 (show i + 1 ≤ x.rows.toNat by omega))
          clear h1
          rcases hk with hk2 | hk4
          · have d1 : (k == 2) = true := by simpa using hk2
            clear hk2 hkk
            go_wp2_with (first | (go_at_call 186; ((with_reducible refine (hati _ ?_).mono ?_); (focus (first | (with_reducible assumption) | (with_reducible refine FS.ext ?_ _ _; with_reducible assumption) | (with_reducible refine IS.ext ?_ _ _; with_reducible assumption) | (refine hDu _ ?_; with_reducible assumption) | (refine hOu _ ?_; with_reducible assumption) | (refine hDa _ ?_; with_reducible assumption) | (refine hDb _ ?_; with_reducible assumption) | (refine hDc _ ?_; with_reducible assumption) | (refine hDd _ ?_; with_reducible assumption) | (refine FW.fs ?_ (by omega) _; with_reducible assumption) | (refine WS.fs ?_; with_reducible assumption) | (refine FW.fs ?_ (by omega) _; assumption) | omega | assumption)); rintro e w1 ⟨b, rfl, hf, o3, n3, rfl⟩; (have hz' : (FloatKind.f64.format.order b 0 == some Ordering.eq) = true := by rw [← hz]; unfold feq0; rw [← hf.order isF_zero]; rfl))))
            go_ret
            exact ⟨ret_bool q.out.symm, by (show Grew _ _; repeat (first | (with_reducible exact Grew.refl _) | (with_reducible assumption) | (with_reducible refine Grew.ext ?_ _ _) | (with_reducible refine Grew.alloc ?_ _) | ((with_reducible refine Grew.setCell ?_ ?_ _); rotate_left; (focus (dsimp only; first | omega | (simp only [size_ext, World.size_alloc, Array.size_append]; omega)))) | (with_reducible refine Grew.drewN ?_ _) | (with_reducible refine Grew.drew ?_)))⟩
          · have d1 : (k == 2) = false := by rw [beq_eq_false_iff_ne]; omega
            have d2 : (k == 4) = true := by simpa using hk4
            clear hk4 hkk
            go_wp2_with (first | (go_at_call 186; ((with_reducible refine (hati _ ?_).mono ?_); (focus (first | (with_reducible assumption) | (with_reducible refine FS.ext ?_ _ _; with_reducible assumption) | (with_reducible refine IS.ext ?_ _ _; with_reducible assumption) | (refine hDu _ ?_; with_reducible assumption) | (refine hOu _ ?_; with_reducible assumption) | (refine hDa _ ?_; with_reducible assumption) | (refine hDb _ ?_; with_reducible assumption) | (refine hDc _ ?_; with_reducible assumption) | (refine hDd _ ?_; with_reducible assumption) | (refine FW.fs ?_ (by omega) _; with_reducible assumption) | (refine WS.fs ?_; with_reducible assumption) | (refine FW.fs ?_ (by omega) _; assumption) | omega | assumption)); rintro e w1 ⟨b, rfl, hf, o3, n3, rfl⟩; (have hz' : (FloatKind.f64.format.order b 0 == some Ordering.eq) = true := by rw [← hz]; unfold feq0; rw [← hf.order isF_zero]; rfl))))
            go_ret
            exact ⟨ret_bool q.out.symm, by (show Grew _ _; repeat (first | (with_reducible exact Grew.refl _) | (with_reducible assumption) | (with_reducible refine Grew.ext ?_ _ _) | (with_reducible refine Grew.alloc ?_ _) | ((with_reducible refine Grew.setCell ?_ ?_ _); rotate_left; (focus (dsimp only; first | omega | (simp only [size_ext, World.size_alloc, Array.size_append]; omega)))) | (with_reducible refine Grew.drewN ?_ _) | (with_reducible refine Grew.drew ?_)))⟩
      · have q := hid (show zeroTo k x x.rows.toNat = false by rw [show x.rows.toNat = i by omega]; exact Hz.out)
        clear hk hkk
        go_wp2
        go_ret
        exact ⟨ret_bool q.out.symm, by (show Grew _ _; repeat (first | (with_reducible exact Grew.refl _) | (with_reducible assumption) | (with_reducible refine Grew.ext ?_ _ _) | (with_reducible refine Grew.alloc ?_ _) | ((with_reducible refine Grew.setCell ?_ ?_ _); rotate_left; (focus (dsimp only; first | omega | (simp only [size_ext, World.size_alloc, Array.size_append]; omega)))) | (with_reducible refine Grew.drewN ?_ _) | (with_reducible refine Grew.drew ?_)))⟩
  · have q := hid (show zeroTo k x x.rows.toNat = false by unfold zeroTo; rw [show (decide (k = 2) || decide (k = 4)) = false by simpa using hk]; rfl)
    have d1 : (k == 2) = false := by rw [beq_eq_false_iff_ne]; omega
    have d2 : (k == 4) = false := by rw [beq_eq_false_iff_ne]; omega
    clear hk hat
    go_enter Try.func153, Try.ntmps153
    refine seq_stop ?_
    go_wp2
    refine stop_go (fun W hW => ?_)
    have s1 : w.heap.size < W.heap.size := by rw [hW]; simp only [World.size_alloc]; omega
    have b1 : ∀ i, W.cell? ⟨w.heap.size, i, none⟩ = (#[D, .int .i64 x.off, .int .i64 x.rows, .int .i64 x.cols, .int .i64 x.ld] : Array Value)[i]? := by intro i; rw [hW]; go_simp
    have g0 : Grew w W := by rw [hW]; exact (Grew.refl _).alloc _
    clear hW
    go_wp2
    go_loopw [8] (fun c wr => ∃ (i : Nat) (o : Array Obj) (n : Nat), (i : Int) ≤ x.rows ∧ c = .int .i64 i ∧ wr = ext W o n) (fun c _ => x.rows.toNat - (intOf c).toNat)
    case atStart => exact ⟨0, #[], _, hn.1, rfl, ext_zero.symm⟩
    case round =>
      obtain ⟨i, o2, n2, hi, rfl, hwr⟩ := hrel
      subst hwr
      by_cases hlt : (i : Int) < x.rows
      · go_wp2
        go_roundw
        case rel => exact ⟨i + 1, _, _, by omega, by go_num, rfl⟩
        case measure => simp [intOf]; omega
      · go_wp2
        go_ret
        exact ⟨ret_bool q.out.symm, by (show Grew _ _; repeat (first | (with_reducible exact Grew.refl _) | (with_reducible assumption) | (with_reducible refine Grew.ext ?_ _ _) | (with_reducible refine Grew.alloc ?_ _) | ((with_reducible refine Grew.setCell ?_ ?_ _); rotate_left; (focus (dsimp only; first | omega | (simp only [size_ext, World.size_alloc, Array.size_append]; omega)))) | (with_reducible refine Grew.drewN ?_ _) | (with_reducible refine Grew.drew ?_)))⟩
end Go.Proofs.Ytcmggfpcbijcjaa
end
section
/-
  Places clear of each other; blocks of numbers written out; small facts for the laws.
-/
set_option linter.unusedSimpArgs false
set_option linter.unusedVariables false
open Go Go.RowKit Sedge
namespace Go.Proofs.Ytcmggfpcbijcjaa
theorem meet_no {x : VecM} {m : MatM} (hx : x.right = true) (hm : m.good = true) (h : meetM (rowM x) m true = false) {r i j : Nat} (hr : (r : Int) < x.n) (hi : (i : Int) < m.rows) (hj : (j : Int) < m.cols) : x.place r ≠ m.place i j := by
  intro e
  have f1 : MatM.full (rowM x) = true := by unfold MatM.full; rw [rowM_good hx]; simp [rowM]; omega
  have f2 : MatM.full m = true := by unfold MatM.full; rw [hm]; simp; omega
  have px := VecM.right_place hx hr
  have pm := MatM.good_place hm hi hj
  have hn := VecM.right_n hx
  have hmn := m.good_n hm
  unfold VecM.place MatM.place at e
  have e' : x.off + r * x.inc = m.off + i + j * m.ld := by omega
  have k1 : (r : Int) * x.inc ≤ (x.n - 1) * x.inc := Int.mul_le_mul_of_nonneg_right (by omega) (by omega)
  have k2 : (j : Int) * m.ld ≤ (m.cols - 1) * m.ld := Int.mul_le_mul_of_nonneg_right (by omega) (by omega)
  unfold meetM spanLo spanHi at h
  rw [f1, f2] at h
  simp [rowM] at h
  omega
theorem _root_.Sedge.But.fs_ne {w w' : World} {a g c n : Nat} {ws : List Nat} (hb : But w [g] w') (h : FS w (.slice (some ⟨a, 0, none⟩) n c) ws) (hne : a ≠ g) : FS w' (.slice (some ⟨a, 0, none⟩) n c) ws := by
  obtain ⟨hl, a', cap, hv, h0, hc⟩ := h
  refine ⟨hl, a', cap, hv, h0, fun i hi => ?_⟩
  obtain ⟨blk, o, b, he, h1, h2⟩ := hc i hi
  refine ⟨blk, o, b, he, ?_, h2⟩
  have e : blk = a := by
    have e2 := hv
    simp only [Value.slice.injEq] at e2
    rw [he] at e2
    have e3 := e2.1
    simp only [Option.some.injEq, Addr.mk.injEq] at e3
    exact e3.1.symm
  rw [hb.cell (World.block_lt_of_cell? w _ h1) (by rw [e]; simpa using hne)]; exact h1
theorem meetM_false (x y : MatM) : meetM x y false = false := by unfold meetM; simp
theorem frozen_of_block' {w : World} {p i : Nat} {cs : Array Value} {e : TypeId} (h : w.heap[p]? = some (.cells cs e (0, 0))) : w.frozen? ⟨p, i, none⟩ = false := by
  unfold World.frozen?; simp [h]
theorem great_no {m : MatM} (h : MatM.great m = false) : m.ws.length ≤ 1000 ∧ m.rows ≤ 20 ∧ m.cols ≤ 20 := by simp [MatM.great] at h; omega
theorem long_no' {a : VecM} (h : VecM.long a = false) : a.ws.length ≤ 1000 ∧ a.n ≤ 60 := by simp [VecM.long] at h; omega
theorem FW.lit {w : World} {t : TypeId} (l : List Nat) (h : ∀ x ∈ l, IsF x x) : FW (w.alloc (.cells (l.map (Value.float .f64)).toArray t)) w.heap.size l := by
  refine ⟨(l.map (Value.float .f64)).toArray, t, by show (w.heap.push _)[w.heap.size]? = _; simp, by simp, fun i hi => ⟨l.getD i 0, ?_, ?_⟩⟩
  · simp [List.getD_eq_getElem?_getD, hi]
  · rw [List.getD_eq_getElem?_getD, List.getElem?_eq_getElem hi]
    exact h _ (List.getElem_mem hi)
theorem FW.lit' {w : World} {t : TypeId} (l : List Nat) (h : ∀ x ∈ l, IsF x x) (n : Nat) (hn : n = w.heap.size) : FW (w.alloc (.cells (l.map (Value.float .f64)).toArray t)) n l := by subst hn; exact FW.lit l h
end Go.Proofs.Ytcmggfpcbijcjaa
end
section
/-
  Contracts: gemv.row, at, begin, Mul's closure, columns.
-/
set_option linter.unusedSimpArgs false
set_option linter.unusedVariables false
open Go Go.RowKit Sedge
namespace Go.Proofs.Ytcmggfpcbijcjaa
set_option maxRecDepth 100000 in
set_option maxHeartbeats 1000000 in
/-- gemv.row. -/
theorem vrow_any (x : VecM) (a : Option Addr) (l c : Nat) (w : World) :
   Calls Try.prog 196 #[.agg #[.slice a l c, .int .i64 x.off, .int .i64 x.n, .int .i64 x.inc]] w (fun e w' => e = .returned (.agg #[.slice a l c, .int .i64 x.off, .int .i64 1, .int .i64 x.n, .int .i64 x.inc]) ∧ ∃ o n, w' = ext w o n) := by
  go_enter Try.func196, Try.ntmps196
  refine seq_stop ?_
  go_wp2
  refine stop_go (fun W hW => ?_)
  have s1 : w.heap.size < W.heap.size := by rw [hW]; simp only [World.size_alloc]; omega
  have b1 : ∀ i, W.cell? ⟨w.heap.size, i, none⟩ = (#[.slice a l c, .int .i64 x.off, .int .i64 x.n, .int .i64 x.inc] : Array Value)[i]? := by intro i; rw [hW]; go_simp
  have f1 : ∀ i, W.frozen? ⟨w.heap.size, i, none⟩ = false := by intro i; rw [hW]; go_simp
  have s2 : w.heap.size + 1 < W.heap.size := by rw [hW]; simp only [World.size_alloc]; omega
  have b2 : ∀ i, W.cell? ⟨w.heap.size + 1, i, none⟩ = (#[.slice none 0 0, .int .i64 0, .int .i64 0, .int .i64 0, .int .i64 0] : Array Value)[i]? := by intro i; rw [hW]; go_simp
  have f2 : ∀ i, W.frozen? ⟨w.heap.size + 1, i, none⟩ = false := by intro i; rw [hW]; go_simp
  have g0 : Grew w W := by rw [hW]; exact ((Grew.refl _).alloc _).alloc _
  clear hW
  go_wp2
  refine bodyPost_ret (v := .agg #[.slice a l c, .int .i64 x.off, .int .i64 1, .int .i64 x.n, .int .i64 x.inc]) (by simp [results, Try.results196, go_sem, *]) rfl ?_
  exact ⟨rfl, by (show Grew _ _; repeat (first | (with_reducible exact Grew.refl _) | (with_reducible assumption) | (with_reducible refine Grew.ext ?_ _ _) | (with_reducible refine Grew.alloc ?_ _) | ((with_reducible refine Grew.setCell ?_ ?_ _); rotate_left; (focus (dsimp only; first | omega | (simp only [size_ext, World.size_alloc, Array.size_append]; omega)))) | (with_reducible refine Grew.drewN ?_ _) | (with_reducible refine Grew.drew ?_)))⟩
set_option maxRecDepth 100000 in
set_option maxHeartbeats 1000000 in
/-- gemv.at. -/
theorem gat_any (x : VecM) (g cap i : Nat) (w : World) (hx : x.right = true) (hi : (i : Int) < x.n) (hl : x.ws.length ≤ 1000000) :
   Calls Try.prog 160 #[.agg #[.slice (some ⟨g, 0, none⟩) x.ws.length cap, .int .i64 x.off, .int .i64 x.n, .int .i64 x.inc], .int .i64 i] w
     (fun e w' => e = .returned (.pointer (some ⟨g, x.place i, none⟩)) ∧ ∃ o n, w' = ext w o n) := by
  have hp := VecM.right_place hx hi
  have hn := VecM.right_n hx
  have r1 : IntKind.i64.wrap (i * x.inc) = i * x.inc := IntWalk.i64_in _ (by omega)
  have r2 : IntKind.i64.wrap (x.off + i * x.inc) = x.off + i * x.inc := IntWalk.i64_in _ (by omega)
  unfold VecM.place
  clear hx
  go_enter Try.func160, Try.ntmps160
  refine seq_stop ?_
  go_wp2
  refine stop_go (fun W hW => ?_)
  have s1 : w.heap.size < W.heap.size := by rw [hW]; simp only [World.size_alloc]; omega
  have b1 : ∀ i, W.cell? ⟨w.heap.size, i, none⟩ = (#[.slice (some ⟨g, 0, none⟩) x.ws.length cap, .int .i64 x.off, .int .i64 x.n, .int .i64 x.inc] : Array Value)[i]? := by intro i; rw [hW]; go_simp
  have g0 : Grew w W := by rw [hW]; exact (Grew.refl _).alloc _
  clear hW
  go_wp2
  go_ret
  exact ⟨rfl, by (show Grew _ _; repeat (first | (with_reducible exact Grew.refl _) | (with_reducible assumption) | (with_reducible refine Grew.ext ?_ _ _) | (with_reducible refine Grew.alloc ?_ _) | ((with_reducible refine Grew.setCell ?_ ?_ _); rotate_left; (focus (dsimp only; first | omega | (simp only [size_ext, World.size_alloc, Array.size_append]; omega)))) | (with_reducible refine Grew.drewN ?_ _) | (with_reducible refine Grew.drew ?_)))⟩
/-- A good matrix' column is right. -/
theorem colV_right {m : MatM} (hm : m.good = true) {j : Nat} (hj : (j : Int) < m.cols) (h0 : 0 < m.rows) : (colV m j).right = true := by
  have hn := MatM.good_n hm
  have hp := MatM.good_place hm (i := (m.rows - 1).toNat) (j := j) (by omega) hj
  have hp0 := MatM.good_place hm (i := 0) (j := j) (by omega) hj
  unfold VecM.right colV fitsB
  simp only [h0, if_true, Bool.and_eq_true, Bool.or_eq_true, decide_eq_true_eq]
  rw [Int.toNat_of_nonneg (by omega)] at hp
  simp only [Int.natCast_zero, Int.add_zero] at hp0
  refine ⟨by omega, .inr ⟨by omega, by omega⟩⟩
/-- A number that is begun. -/
def beginF (β z : Nat) : Nat := if feq0 β = true then 0 else fmul β z
def stepV (F : Nat → Nat) (s : Nat → Nat) (i r : Nat) : Nat := if r < i then F (s r) else s r
theorem stepV_set {x : VecM} {L : List Nat} {s : Nat → Nat} {F : Nat → Nat} {i v : Nat} (h : VH x L (stepV F s i)) (hx : x.right = true) (hi : (i : Int) < x.n) (hv : v = F (s i)) : VH x (L.set (x.place i) v) (stepV F s (i + 1)) := by
  refine (h.set hx hi).congr fun r hr => ?_
  unfold stepV
  by_cases e : r = i
  · subst e; simp [hv]
  · rw [if_neg e]
    by_cases h2 : r < i
    · rw [if_pos h2, if_pos (by omega)]
    · rw [if_neg h2, if_neg (by omega)]
set_option maxRecDepth 100000 in
set_option maxHeartbeats 2000000 in
/-- gemv.begin. -/
theorem begin_any (b β : Nat) (y : VecM) (g cap : Nat) (s : Nat → Nat) (L0 : List Nat) (w : World) (hb : IsF b β) (hF : FW w g L0) (hV : VH y L0 s) (hy : y.right = true) (hl : y.ws.length ≤ 1000000) :
   Calls Try.prog 145 #[.float .f64 b, .agg #[.slice (some ⟨g, 0, none⟩) y.ws.length cap, .int .i64 y.off, .int .i64 y.n, .int .i64 y.inc]] w
     (fun e w' => e = .returned (.tuple #[]) ∧ But w [g] w' ∧ ∃ L, FW w' g L ∧ VH y L (fun r => beginF β (s r))) := by
  have hn := VecM.right_n hy
  have hnl := VecM.right_nle hy hl
  have hltg := hF.lt
  have Hy := hid hy
  have hat : ∀ i : Nat, (i : Int) < y.n → ∀ w', Calls Try.prog 160 #[.agg #[.slice (some ⟨g, 0, none⟩) y.ws.length cap, .int .i64 y.off, .int .i64 y.n, .int .i64 y.inc], .int .i64 i] w' (fun e w2 => e = .returned (.pointer (some ⟨g, y.place i, none⟩)) ∧ ∃ o n, w2 = ext w' o n) := fun i hi w' => gat_any y g cap i w' hy hi hl
  clear hy
  cases hz : feq0 β
  · have hz' : (FloatKind.f64.format.order b 0 == some Ordering.eq) = false := by rw [← hz]; unfold feq0; rw [← hb.order isF_zero]; rfl
    have hbf : ∀ z, fmul β z = beginF β z := fun z => by unfold beginF; rw [hz]; rfl
    go_enter Try.func145, Try.ntmps145
    refine seq_stop ?_
    go_wp2
    refine stop_go (fun W hW => ?_)
    have s1 : w.heap.size < W.heap.size := by rw [hW]; simp only [World.size_alloc]; omega
    have b1 : ∀ i, W.cell? ⟨w.heap.size, i, none⟩ = (#[.slice (some ⟨g, 0, none⟩) y.ws.length cap, .int .i64 y.off, .int .i64 y.n, .int .i64 y.inc] : Array Value)[i]? := by intro i; rw [hW]; go_simp
    have g0 : Grew w W := by rw [hW]; exact (Grew.refl _).alloc _
    clear hW
    have zW := g0.below.size
    have bw : ∀ w', But W [g] w' → But w [g] w' := fun w' h => ((But.refl w [g]).grew g0).trans h (fun _ hb => .inl hb)
    have cU : ∀ w', But W [g] w' → ∀ i, w'.cell? ⟨w.heap.size, i, none⟩ = (#[.slice (some ⟨g, 0, none⟩) y.ws.length cap, .int .i64 y.off, .int .i64 y.n, .int .i64 y.inc] : Array Value)[i]? := fun w' h i => (h.cell s1 (by simp; omega)).trans (b1 i)
    have hFW := hF.grew g0
    go_wp2
    go_loopw [8] (fun c wr => ∃ (i : Nat) (L : List Nat), (i : Int) ≤ y.n ∧ c = .int .i64 i ∧ But W [g] wr ∧ FW wr g L ∧ VH y L (stepV (beginF β) s i)) (fun c _ => (y.n - intOf c).toNat)
    case atStart => exact ⟨0, L0, hn.1, rfl, But.refl _ _, hFW, hV.congr fun r _ => by simp [stepV]⟩
    case round =>
      obtain ⟨i, L, hi, rfl, hB, hL, hS⟩ := hrel
      have tT := cU _ hB
      have zB := hB.size
      have kT : w.heap.size < wr.heap.size := by omega
      by_cases hlt : (i : Int) < y.n
      · have hlt' := hid hlt
        have hati := hat i hlt
        obtain ⟨r0, hr0, hf0⟩ := hL.get (i := y.place i) (by rw [hS.len]; exact VecM.place_lt Hy.out hlt)
        have gl := hL.lt
        have fz : ∀ i, wr.frozen? ⟨g, i, none⟩ = false := hL.notFrozen
        go_wp2_with (first | (go_at_call 160; ((with_reducible refine (hati _).mono ?_); rintro e w1 ⟨rfl, o1, n1, rfl⟩)) | ((with_reducible refine upon_id ?_); refine upon_fop rfl (by assumption) (by assumption) ?_; intro rr nn hr))
        go_roundw
        case rel => exact ⟨i + 1, _, by have := hlt'.out; omega, by go_num, (hB.setc hL (by simp)).grew ⟨_, _, rfl⟩, (hL.setc (k := y.place i) hr).ext _ _, stepV_set hS Hy.out hlt'.out (by rw [← hbf, hS.get i hlt'.out]; unfold stepV; rw [if_neg (by omega)]; rfl)⟩
        case measure => (have := hlt'.out; simp [intOf]; omega)
      · go_wp2
        go_end0
        exact ⟨rfl, bw _ hB, L, hL, hS.congr fun r hr => by unfold stepV; rw [if_pos (by omega)]⟩
  · have hz' : (FloatKind.f64.format.order b 0 == some Ordering.eq) = true := by rw [← hz]; unfold feq0; rw [← hb.order isF_zero]; rfl
    have hbf : ∀ z, 0 = beginF β z := fun z => by unfold beginF; rw [hz]; rfl
    go_enter Try.func145, Try.ntmps145
    refine seq_stop ?_
    go_wp2
    refine stop_go (fun W hW => ?_)
    have s1 : w.heap.size < W.heap.size := by rw [hW]; simp only [World.size_alloc]; omega
    have b1 : ∀ i, W.cell? ⟨w.heap.size, i, none⟩ = (#[.slice (some ⟨g, 0, none⟩) y.ws.length cap, .int .i64 y.off, .int .i64 y.n, .int .i64 y.inc] : Array Value)[i]? := by intro i; rw [hW]; go_simp
    have g0 : Grew w W := by rw [hW]; exact (Grew.refl _).alloc _
    clear hW
    have zW := g0.below.size
    have bw : ∀ w', But W [g] w' → But w [g] w' := fun w' h => ((But.refl w [g]).grew g0).trans h (fun _ hb => .inl hb)
    have cU : ∀ w', But W [g] w' → ∀ i, w'.cell? ⟨w.heap.size, i, none⟩ = (#[.slice (some ⟨g, 0, none⟩) y.ws.length cap, .int .i64 y.off, .int .i64 y.n, .int .i64 y.inc] : Array Value)[i]? := fun w' h i => (h.cell s1 (by simp; omega)).trans (b1 i)
    have hFW := hF.grew g0
    go_wp2
    go_loopw [8] (fun c wr => ∃ (i : Nat) (L : List Nat), (i : Int) ≤ y.n ∧ c = .int .i64 i ∧ But W [g] wr ∧ FW wr g L ∧ VH y L (stepV (beginF β) s i)) (fun c _ => (y.n - intOf c).toNat)
    case atStart => exact ⟨0, L0, hn.1, rfl, But.refl _ _, hFW, hV.congr fun r _ => by simp [stepV]⟩
    case round =>
      obtain ⟨i, L, hi, rfl, hB, hL, hS⟩ := hrel
      have tT := cU _ hB
      have zB := hB.size
      have kT : w.heap.size < wr.heap.size := by omega
      by_cases hlt : (i : Int) < y.n
      · have hlt' := hid hlt
        have hati := hat i hlt
        obtain ⟨r0, hr0, hf0⟩ := hL.get (i := y.place i) (by rw [hS.len]; exact VecM.place_lt Hy.out hlt)
        have gl := hL.lt
        have fz : ∀ i, wr.frozen? ⟨g, i, none⟩ = false := hL.notFrozen
        go_wp2_with (first | (go_at_call 160; ((with_reducible refine (hati _).mono ?_); rintro e w1 ⟨rfl, o1, n1, rfl⟩)))
        go_roundw
        case rel => exact ⟨i + 1, _, by have := hlt'.out; omega, by go_num, (hB.setc hL (by simp)).grew ⟨_, _, rfl⟩, (hL.setc (k := y.place i) isF_zero).ext _ _, stepV_set hS Hy.out hlt'.out (hbf _)⟩
        case measure => (have := hlt'.out; simp [intOf]; omega)
      · go_wp2
        go_end0
        exact ⟨rfl, bw _ hB, L, hL, hS.congr fun r hr => by unfold stepV; rw [if_pos (by omega)]⟩
/-- gemv.Mul's closure. -/
theorem mcl_any (v x a V X α Ta : Nat) (w : World) (hv : IsF v V) (hx : IsF x X) (ha : IsF a α) (hca : ∀ i, w.cell? ⟨Ta, i, none⟩ = (#[.float .f64 a] : Array Value)[i]?) :
   Calls Try.prog 147 #[.float .f64 v, .float .f64 x, .pointer (some ⟨Ta, 0, none⟩)] w (fun e w' => ∃ r, e = .returned (.float .f64 r) ∧ IsF r (fmul (fmul α X) V) ∧ ∃ o n, w' = ext w o n) := by
  go_enter Try.func147, Try.ntmps147
  go_wp2_with (first | ((with_reducible refine upon_id ?_); refine upon_fop rfl (by assumption) (by assumption) ?_; intro rr nn hr))
  go_ret
  exact ⟨_, rfl, by assumption, by (show Grew _ _; repeat (first | (with_reducible exact Grew.refl _) | (with_reducible assumption) | (with_reducible refine Grew.ext ?_ _ _) | (with_reducible refine Grew.alloc ?_ _) | ((with_reducible refine Grew.setCell ?_ ?_ _); rotate_left; (focus (dsimp only; first | omega | (simp only [size_ext, World.size_alloc, Array.size_append]; omega)))) | (with_reducible refine Grew.drewN ?_ _) | (with_reducible refine Grew.drew ?_)))⟩
end Go.Proofs.Ytcmggfpcbijcjaa
end
