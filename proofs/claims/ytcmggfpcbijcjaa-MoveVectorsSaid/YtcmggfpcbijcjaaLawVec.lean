/-
  The law MoveVectors: its walk.
-/
import Derived.Test.YtcmggfpcbijcjaaLawVec1
import Derived.Test.YtcmggfpcbijcjaaLawVec2
open Go Go.RowKit Sedge
namespace Go.Proofs.Ytcmggfpcbijcjaa
set_option maxRecDepth 100000 in
set_option maxHeartbeats 4000000 in
theorem moveVectors_any (a : VecM) (A : Value) (b : VecM) (B : Value) (one sw : Bool) (w : World) (hA : FS w A a.ws) (hwa : a.wf) (hB : FS w B b.ws) (hwb : b.wf) :
   Calls Try.prog 7 #[.agg #[A, .int .i64 a.off, .int .i64 a.n, .int .i64 a.inc], .agg #[B, .int .i64 b.off, .int .i64 b.n, .int .i64 b.inc], .bool one, .bool sw] w (fun e w' => e = .returned (.bool true) ∧ ∃ o n, w' = ext w o n) := by
  cases la : VecM.long a
  · cases lb : VecM.long b
    · cases one
      · exact mv_two a b A B sw w hA hB hwa hwb la lb
      · exact mv_one a b A B sw w hA hB hwa hwb la lb
    · have hla : ∀ w', FS w' A a.ws → Calls Try.prog 53 #[.agg #[A, .int .i64 a.off, .int .i64 a.n, .int .i64 a.inc]] w' (fun e w2 => e = .returned (.bool false) ∧ ∃ o n, w2 = ext w' o n) := fun w' h => by
        have := long_any a A w' h; rw [la] at this; exact this
      have hlb : ∀ w', FS w' B b.ws → Calls Try.prog 53 #[.agg #[B, .int .i64 b.off, .int .i64 b.n, .int .i64 b.inc]] w' (fun e w2 => e = .returned (.bool true) ∧ ∃ o n, w2 = ext w' o n) := fun w' h => by
        have := long_any b B w' h; rw [lb] at this; exact this
      clear hwa hwb la lb
      go_enter Try.func7, Try.ntmps7
      refine seq_stop ?_
      go_wp2
      refine stop_go (fun W hW => ?_)
      have s1 : w.heap.size < W.heap.size := by rw [hW]; simp only [World.size_alloc]; omega
      have b1 : ∀ i, W.cell? ⟨w.heap.size, i, none⟩ = (#[A, .int .i64 a.off, .int .i64 a.n, .int .i64 a.inc] : Array Value)[i]? := by intro i; rw [hW]; go_simp
      have s2 : w.heap.size + 1 < W.heap.size := by rw [hW]; simp only [World.size_alloc]; omega
      have b2 : ∀ i, W.cell? ⟨w.heap.size + 1, i, none⟩ = (#[B, .int .i64 b.off, .int .i64 b.n, .int .i64 b.inc] : Array Value)[i]? := by intro i; rw [hW]; go_simp
      have g0 : Grew w W := by rw [hW]; exact ((Grew.refl _).alloc _).alloc _
      clear hW
      have hAW := hA.grew g0
      have hBW := hB.grew g0
      go_wp2_with (first | (go_at_call 41; ((with_reducible refine (awake04 _).mono ?_); rintro e w1 ⟨rfl, o1, n1, rfl⟩)) | (go_at_call 53; ((with_reducible refine (hla _ ?_).mono ?_); (focus (first | assumption | (refine FS.ext ?_ _ _; assumption) | (refine IS.ext ?_ _ _; assumption) | (refine hDu _ ?_; assumption) | (refine hOu _ ?_; assumption) | (refine FW.fs ?_ (by omega) _; assumption) | (refine WS.fs ?_; assumption) | omega)); rintro e w1 ⟨rfl, o1, n1, rfl⟩)) | (go_at_call 53; ((with_reducible refine (hlb _ ?_).mono ?_); (focus (first | assumption | (refine FS.ext ?_ _ _; assumption) | (refine IS.ext ?_ _ _; assumption) | (refine hDu _ ?_; assumption) | (refine hOu _ ?_; assumption) | (refine FW.fs ?_ (by omega) _; assumption) | (refine WS.fs ?_; assumption) | omega)); rintro e w1 ⟨rfl, o1, n1, rfl⟩)))
      go_ret
      exact ⟨rfl, by (show Grew _ _; repeat (first | (with_reducible exact Grew.refl _) | (with_reducible assumption) | (with_reducible refine Grew.ext ?_ _ _) | (with_reducible refine Grew.alloc ?_ _) | ((with_reducible refine Grew.setCell ?_ ?_ _); rotate_left; (focus (dsimp only; first | omega | (simp only [size_ext, World.size_alloc, Array.size_append]; omega)))) | (with_reducible refine Grew.drewN ?_ _) | (with_reducible refine Grew.drew ?_)))⟩
  · have hla : ∀ w', FS w' A a.ws → Calls Try.prog 53 #[.agg #[A, .int .i64 a.off, .int .i64 a.n, .int .i64 a.inc]] w' (fun e w2 => e = .returned (.bool true) ∧ ∃ o n, w2 = ext w' o n) := fun w' h => by
      have := long_any a A w' h; rw [la] at this; exact this
    clear hwa hwb la
    go_enter Try.func7, Try.ntmps7
    refine seq_stop ?_
    go_wp2
    refine stop_go (fun W hW => ?_)
    have s1 : w.heap.size < W.heap.size := by rw [hW]; simp only [World.size_alloc]; omega
    have b1 : ∀ i, W.cell? ⟨w.heap.size, i, none⟩ = (#[A, .int .i64 a.off, .int .i64 a.n, .int .i64 a.inc] : Array Value)[i]? := by intro i; rw [hW]; go_simp
    have s2 : w.heap.size + 1 < W.heap.size := by rw [hW]; simp only [World.size_alloc]; omega
    have b2 : ∀ i, W.cell? ⟨w.heap.size + 1, i, none⟩ = (#[B, .int .i64 b.off, .int .i64 b.n, .int .i64 b.inc] : Array Value)[i]? := by intro i; rw [hW]; go_simp
    have g0 : Grew w W := by rw [hW]; exact ((Grew.refl _).alloc _).alloc _
    clear hW
    have hAW := hA.grew g0
    have hBW := hB.grew g0
    go_wp2_with (first | (go_at_call 41; ((with_reducible refine (awake04 _).mono ?_); rintro e w1 ⟨rfl, o1, n1, rfl⟩)) | (go_at_call 53; ((with_reducible refine (hla _ ?_).mono ?_); (focus (first | assumption | (refine FS.ext ?_ _ _; assumption) | (refine IS.ext ?_ _ _; assumption) | (refine hDu _ ?_; assumption) | (refine hOu _ ?_; assumption) | (refine FW.fs ?_ (by omega) _; assumption) | (refine WS.fs ?_; assumption) | omega)); rintro e w1 ⟨rfl, o1, n1, rfl⟩)))
    go_ret
    exact ⟨rfl, by (show Grew _ _; repeat (first | (with_reducible exact Grew.refl _) | (with_reducible assumption) | (with_reducible refine Grew.ext ?_ _ _) | (with_reducible refine Grew.alloc ?_ _) | ((with_reducible refine Grew.setCell ?_ ?_ _); rotate_left; (focus (dsimp only; first | omega | (simp only [size_ext, World.size_alloc, Array.size_append]; omega)))) | (with_reducible refine Grew.drewN ?_ _) | (with_reducible refine Grew.drew ?_)))⟩
end Go.Proofs.Ytcmggfpcbijcjaa
