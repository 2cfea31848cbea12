/-
  The example of layer 22.
-/
import Derived.Test.YtcmggfpcbijcjaaRest2
import Derived.Test.YtcmggfpcbijcjaaDense
set_option linter.unusedSimpArgs false
set_option linter.unusedVariables false
open Go Go.RowKit Sedge
namespace Go.Proofs.Ytcmggfpcbijcjaa
def E2 : List Nat := [4611686018427387904]
def E1 : List Nat := [4607182418800017408]
def E0 : List Nat := [0]
def E4 : List Nat := [4616189618054758400]
theorem dense_1 (aL : Option Addr) (w : World) (hL : FS w (.slice aL 1 1) E2) :
   Calls Try.prog 69 #[.int .i64 1, .int .i64 1, .slice aL 1 1] w (fun e w' => ∃ v, e = .returned (.agg #[v, .int .i64 0, .int .i64 1, .int .i64 1, .int .i64 1]) ∧ WS w' w.heap.size v E2 ∧ ∃ o n, w' = ext w o n) := by
  have h := dense_any 1 1 aL E2 w hL (by decide) (by decide) (by decide) (by decide) rfl
  have e : denseL 1 1 E2 = E2 := by decide +kernel
  rw [e] at h
  exact h
theorem rest_1 (D VX VY : Value) (w : World) (hD : FS w D E2) (hX : FS w VX E1) (hY : FS w VY E2) :
   Calls Try.prog 94 #[.agg #[D, .int .i64 0, .int .i64 1, .int .i64 1, .int .i64 1], VX, VY] w (fun e w' => ∃ v1 v2, e = .returned (.tuple #[v1, v2, .int .i64 0]) ∧ FS w' v1 E0 ∧ FS w' v2 E4 ∧ ∃ o n, w' = ext w o n) := by
  have h := rest_any ⟨E2, 0, 1, 1, 1⟩ D VX VY E1 E2 w hD hX hY (by decide +kernel) (by simp [MatM.wf, I64]) (by decide) rfl (by decide) rfl rfl
  have e1 : resL ⟨E2, 0, 1, 1, 1⟩ E1 E2 = E0 := by decide +kernel
  have e2 : rebL ⟨E2, 0, 1, 1, 1⟩ E1 E2 = E4 := by decide +kernel
  rw [e1, e2] at h
  refine h.mono fun e w' hh => ?_
  obtain ⟨v1, v2, h1, h2, h3, h4⟩ := hh
  exact ⟨v1, v2, h1, h2.fs (by decide), h3.fs (by decide), h4⟩
set_option maxRecDepth 100000 in
set_option maxHeartbeats 2000000 in
theorem awake22 (w : World) : Calls Try.prog 91 #[] w (fun e w' => e = .returned (.bool true) ∧ ∃ o n, w' = ext w o n) := by
  have h2 : ∀ x ∈ E2, IsF x x := by decide +kernel
  have h1 : ∀ x ∈ E1, IsF x x := by decide +kernel
  have h0 : ∀ x ∈ E0, IsF x x := by decide +kernel
  have h4 : ∀ x ∈ E4, IsF x x := by decide +kernel
  have H2 := hid h2
  have H1 := hid h1
  have H0 := hid h0
  have H4 := hid h4
  have da : decide (E0 = E0) = true := by decide +kernel
  have db : decide (E4 = E4) = true := by decide +kernel
  clear h0 h1 h2 h4
  go_enter Try.func91, Try.ntmps91
  go_wp2_with (first | (go_at_call 69; ((with_reducible refine (dense_1 _ _ ?_).mono ?_); (focus (repeat (first | exact FS.lit E2 (by decide) H2.out 1 _ (by simp only [size_ext, World.size_alloc]) | exact FS.lit E2 (by decide) H2.out 1 _ rfl | refine FS.alloc ?_ _ | refine FS.ext ?_ _ _))); rintro e w1 ⟨v, rfl, ⟨g, cap, rfl, hg, hF, hgl⟩, hw1⟩)) | (go_at_call 94; (with_reducible refine (rest_1 _ _ _ _ ?_ ?_ ?_).mono ?_); (focus (exact ((hF.alloc _).alloc _).fs (by decide) cap)); (focus (repeat (first | exact FS.lit E1 (by decide) H1.out 1 _ (by simp only [size_ext, World.size_alloc]) | exact FS.lit E1 (by decide) H1.out 1 _ rfl | refine FS.alloc ?_ _ | refine FS.ext ?_ _ _))); (focus (repeat (first | exact FS.lit E2 (by decide) H2.out 1 _ (by simp only [size_ext, World.size_alloc]) | exact FS.lit E2 (by decide) H2.out 1 _ rfl | refine FS.alloc ?_ _ | refine FS.ext ?_ _ _))); rintro e w2 ⟨v1, v2, rfl, hv1, hv2, hw2⟩) | (go_at_call 47; ((with_reducible refine (all_any _ _ E0 E0 _ ?_ ?_).mono ?_); (focus (exact hv1.alloc _)); (focus (repeat (first | exact FS.lit E0 (by decide) H0.out 1 _ (by simp only [size_ext, World.size_alloc]) | exact FS.lit E0 (by decide) H0.out 1 _ rfl | refine FS.alloc ?_ _ | refine FS.ext ?_ _ _))); rintro e w3 ⟨rfl, hw3⟩)) | (go_at_call 47; ((with_reducible refine (all_any _ _ E4 E4 _ ?_ ?_).mono ?_); (focus (exact (((hv2.alloc _).grew hw3).alloc _))); (focus (repeat (first | exact FS.lit E4 (by decide) H4.out 1 _ (by simp only [size_ext, World.size_alloc]) | exact FS.lit E4 (by decide) H4.out 1 _ rfl | refine FS.alloc ?_ _ | refine FS.ext ?_ _ _))); rintro e w4 ⟨rfl, hw4⟩)))
  go_ret
  exact ⟨rfl, Grew.trans ((Grew.trans ((Grew.trans (((Grew.trans ((Grew.refl w).alloc _) hw1).alloc _).alloc _) hw2).alloc _) hw3).alloc _) hw4⟩
end Go.Proofs.Ytcmggfpcbijcjaa
