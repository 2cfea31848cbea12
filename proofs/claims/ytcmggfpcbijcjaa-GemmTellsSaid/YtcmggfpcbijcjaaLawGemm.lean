/-
  The law GemmTells: its walk.
-/
import Derived.Test.YtcmggfpcbijcjaaLawGemmA
import Derived.Test.YtcmggfpcbijcjaaLawGemmB
import Derived.Test.YtcmggfpcbijcjaaLawGemmC
import Derived.Test.YtcmggfpcbijcjaaLawGemmD
import Derived.Test.YtcmggfpcbijcjaaLawGemmE
set_option linter.unusedSimpArgs false
set_option linter.unusedVariables false
open Go Go.RowKit Sedge
namespace Go.Proofs.Ytcmggfpcbijcjaa
set_option maxRecDepth 100000 in
set_option maxHeartbeats 4000000 in
theorem gemmTells_any (a α : Nat) (x : MatM) (X : Value) (y : MatM) (Y : Value) (b β : Nat) (z : MatM) (Z : Value) (one : Int) (w : World) (ha : IsF a α) (hX : FS w X x.ws) (hwx : x.wf) (hY : FS w Y y.ws) (hwy : y.wf) (hb : IsF b β) (hZ : FS w Z z.ws) (hwz : z.wf) (hone : I64 one) :
   Calls Try.prog 9 #[.float .f64 a, .agg #[X, .int .i64 x.off, .int .i64 x.rows, .int .i64 x.cols, .int .i64 x.ld], .agg #[Y, .int .i64 y.off, .int .i64 y.rows, .int .i64 y.cols, .int .i64 y.ld], .float .f64 b, .agg #[Z, .int .i64 z.off, .int .i64 z.rows, .int .i64 z.cols, .int .i64 z.ld], .int .i64 one] w (fun e w' => e = .returned (.bool true) ∧ ∃ o n, w' = ext w o n) := by
  cases hall : (MatM.great x || MatM.great y || MatM.great z)
  · simp only [Bool.or_eq_false_iff] at hall
    obtain ⟨⟨lx, ly⟩, lz⟩ := hall
    by_cases h1 : one = 1
    · subst h1
      by_cases h0 : z.ws.length = 0
      · exact gm_B a α b β x y z X Y Z w ha hb hX hY hZ hwx hwy hwz lx ly lz h0
      · exact gm_D a α b β x y z X Y Z w ha hb hX hY hZ hwx hwy hwz lx ly lz (by omega)
    · by_cases h2 : one = 2
      · subst h2
        by_cases h0 : z.ws.length = 0
        · exact gm_C a α b β x y z X Y Z w ha hb hX hY hZ hwx hwy hwz lx ly lz h0
        · exact gm_E a α b β x y z X Y Z w ha hb hX hY hZ hwx hwy hwz lx ly lz (by omega)
      · exact gm_A a α b β x y z X Y Z w ha hb hX hY hZ hwx hwy hwz lx ly lz one h1 h2
  · have hgr : ∀ w', FS w' X x.ws → FS w' Y y.ws → FS w' Z z.ws → Calls Try.prog 74 #[.agg #[X, .int .i64 x.off, .int .i64 x.rows, .int .i64 x.cols, .int .i64 x.ld], .agg #[Y, .int .i64 y.off, .int .i64 y.rows, .int .i64 y.cols, .int .i64 y.ld], .agg #[Z, .int .i64 z.off, .int .i64 z.rows, .int .i64 z.cols, .int .i64 z.ld]] w' (fun e w2 => e = .returned (.bool true) ∧ ∃ o n, w2 = ext w' o n) := fun w' h1 h2 h3 => by
      have := great11_any x y z X Y Z w' h1 h2 h3; rw [hall] at this; exact this
    clear hall hwx hwy hwz hone
    go_enter Try.func9, Try.ntmps9
    refine seq_stop ?_
    go_wp2
    refine stop_go (fun W hW => ?_)
    have s1 : w.heap.size < W.heap.size := by rw [hW]; simp only [World.size_alloc]; omega
    have b1 : ∀ i, W.cell? ⟨w.heap.size, i, none⟩ = (#[X, .int .i64 x.off, .int .i64 x.rows, .int .i64 x.cols, .int .i64 x.ld] : Array Value)[i]? := by intro i; rw [hW]; go_simp
    have s2 : w.heap.size + 1 < W.heap.size := by rw [hW]; simp only [World.size_alloc]; omega
    have b2 : ∀ i, W.cell? ⟨w.heap.size + 1, i, none⟩ = (#[Y, .int .i64 y.off, .int .i64 y.rows, .int .i64 y.cols, .int .i64 y.ld] : Array Value)[i]? := by intro i; rw [hW]; go_simp
    have s3 : w.heap.size + 1 + 1 < W.heap.size := by rw [hW]; simp only [World.size_alloc]; omega
    have b3 : ∀ i, W.cell? ⟨w.heap.size + 1 + 1, i, none⟩ = (#[Z, .int .i64 z.off, .int .i64 z.rows, .int .i64 z.cols, .int .i64 z.ld] : Array Value)[i]? := by intro i; rw [hW]; go_simp
    have g0 : Grew w W := by rw [hW]; exact (((Grew.refl _).alloc _).alloc _).alloc _
    clear hW
    have hXW := hX.grew g0
    have hYW := hY.grew g0
    have hZW := hZ.grew g0
    go_wp2_with (first | (go_at_call 73; ((with_reducible refine (awake11 _).mono ?_); rintro e w1 ⟨rfl, o1, n1, rfl⟩)) | (go_at_call 74; ((with_reducible refine (hgr _ ?_ ?_ ?_).mono ?_); (focus (first | (with_reducible assumption) | (with_reducible refine FS.ext ?_ _ _; with_reducible assumption) | (with_reducible refine IS.ext ?_ _ _; with_reducible assumption) | (refine hDu _ ?_; with_reducible assumption) | (refine hOu _ ?_; with_reducible assumption) | (refine hDa _ ?_; with_reducible assumption) | (refine hDb _ ?_; with_reducible assumption) | (refine hDc _ ?_; with_reducible assumption) | (refine hDd _ ?_; with_reducible assumption) | (refine FW.fs ?_ (by omega) _; with_reducible assumption) | (refine WS.fs ?_; with_reducible assumption) | (refine FW.fs ?_ (by omega) _; assumption) | omega | assumption)); (focus (first | (with_reducible assumption) | (with_reducible refine FS.ext ?_ _ _; with_reducible assumption) | (with_reducible refine IS.ext ?_ _ _; with_reducible assumption) | (refine hDu _ ?_; with_reducible assumption) | (refine hOu _ ?_; with_reducible assumption) | (refine hDa _ ?_; with_reducible assumption) | (refine hDb _ ?_; with_reducible assumption) | (refine hDc _ ?_; with_reducible assumption) | (refine hDd _ ?_; with_reducible assumption) | (refine FW.fs ?_ (by omega) _; with_reducible assumption) | (refine WS.fs ?_; with_reducible assumption) | (refine FW.fs ?_ (by omega) _; assumption) | omega | assumption)); (focus (first | (with_reducible assumption) | (with_reducible refine FS.ext ?_ _ _; with_reducible assumption) | (with_reducible refine IS.ext ?_ _ _; with_reducible assumption) | (refine hDu _ ?_; with_reducible assumption) | (refine hOu _ ?_; with_reducible assumption) | (refine hDa _ ?_; with_reducible assumption) | (refine hDb _ ?_; with_reducible assumption) | (refine hDc _ ?_; with_reducible assumption) | (refine hDd _ ?_; with_reducible assumption) | (refine FW.fs ?_ (by omega) _; with_reducible assumption) | (refine WS.fs ?_; with_reducible assumption) | (refine FW.fs ?_ (by omega) _; assumption) | omega | assumption)); rintro e w1 ⟨rfl, o1, n1, rfl⟩)))
    go_ret
    exact ⟨rfl, by (show Grew _ _; repeat (first | (with_reducible exact Grew.refl _) | (with_reducible assumption) | (with_reducible refine Grew.ext ?_ _ _) | (with_reducible refine Grew.alloc ?_ _) | ((with_reducible refine Grew.setCell ?_ ?_ _); rotate_left; (focus (dsimp only; first | omega | (simp only [size_ext, World.size_alloc, Array.size_append]; omega)))) | (with_reducible refine Grew.drewN ?_ _) | (with_reducible refine Grew.drew ?_)))⟩
end Go.Proofs.Ytcmggfpcbijcjaa
