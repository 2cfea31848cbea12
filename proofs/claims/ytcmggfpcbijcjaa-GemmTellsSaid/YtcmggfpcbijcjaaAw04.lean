/-
  The example of layer 4.
-/
import Derived.Test.YtcmggfpcbijcjaaDense
set_option linter.unusedSimpArgs false
set_option linter.unusedVariables false
open Go Go.RowKit Sedge
namespace Go.Proofs.Ytcmggfpcbijcjaa
def M4 : List Nat := [4607182418800017408, 4611686018427387904, 4613937818241073152, 4616189618054758400]
def M4d : List Nat := [4607182418800017408, 4613937818241073152, 4611686018427387904, 4616189618054758400]
def M4r : List Nat := [4613937818241073152, 4607182418800017408, 4616189618054758400, 4611686018427387904]
theorem dense_4 (aL : Option Addr) (w : World) (hL : FS w (.slice aL 4 4) M4) :
   Calls Try.prog 69 #[.int .i64 2, .int .i64 2, .slice aL 4 4] w (fun e w' => ∃ v, e = .returned (.agg #[v, .int .i64 0, .int .i64 2, .int .i64 2, .int .i64 2]) ∧ WS w' w.heap.size v M4d ∧ ∃ o n, w' = ext w o n) := by
  have h := dense_any 2 2 aL M4 w hL (by decide) (by decide) (by decide) (by decide) rfl
  have e : denseL 2 2 M4 = M4d := by decide +kernel
  rw [e] at h
  exact h
theorem rows_4 (g cap : Nat) (w : World) (hF : FW w g M4d) :
   Calls Try.prog 44 #[.agg #[.slice (some ⟨g, 0, none⟩) 4 cap, .int .i64 0, .int .i64 2, .int .i64 2, .int .i64 2], .int .i64 0, .int .i64 1] w
     (fun e w' => e = .returned (.int .i64 0) ∧ Wrote w w' g M4r) := by
  have h := rows_any ⟨M4d, 0, 2, 2, 2⟩ g cap 0 1 w hF (by simp [MatM.wf, I64]) (by decide) (by simp [I64]) (by simp [I64])
  have e : rowsL ⟨M4d, 0, 2, 2, 2⟩ 0 1 = M4r := by decide +kernel
  have e2 : rowsE ⟨M4d, 0, 2, 2, 2⟩ 0 1 = 0 := by decide +kernel
  rw [e, e2] at h
  exact h
set_option maxRecDepth 100000 in
set_option maxHeartbeats 1000000 in
theorem awake04 (w : World) : Calls Try.prog 41 #[] w (fun e w' => e = .returned (.bool true) ∧ ∃ o n, w' = ext w o n) := by
  have h1 : ∀ x ∈ M4, IsF x x := by decide +kernel
  have h2 : ∀ x ∈ M4r, IsF x x := by decide +kernel
  have H1 := hid h1
  have H2 := hid h2
  have da : decide (M4r = M4r) = true := by decide +kernel
  clear h1 h2
  go_enter Try.func41, Try.ntmps41
  go_wp2_with (first
    | (go_at_call 69; ((with_reducible refine (dense_4 _ _ ?_).mono ?_); (focus (repeat (first | exact FS.lit M4 (by decide) H1.out 4 _ (by simp only [size_ext, World.size_alloc]) | exact FS.lit M4 (by decide) H1.out 4 _ rfl | refine FS.alloc ?_ _ | refine FS.ext ?_ _ _))); rintro e w1 ⟨v, rfl, ⟨g, cap, rfl, hg, hF, hgl⟩, o1, n1, rfl⟩)))
  refine name_call (fun V hV => ?_)
  have gV : Grew w V := by rw [← hV]; (show Grew _ _; repeat (first | (with_reducible exact Grew.refl _) | (with_reducible assumption) | (with_reducible refine Grew.ext ?_ _ _) | (with_reducible refine Grew.alloc ?_ _) | ((with_reducible refine Grew.setCell ?_ ?_ _); rotate_left; (focus (dsimp only; first | omega | (simp only [size_ext, World.size_alloc, Array.size_append]; omega)))) | (with_reducible refine Grew.drewN ?_ _) | (with_reducible refine Grew.drew ?_)))
  have hFV : FW V g M4d := by rw [← hV]; (repeat (first | (with_reducible assumption) | ((with_reducible refine FW.ext_set ?_ ?_ ?_ _); rotate_left; (focus (simp only [size_setCell', World.size_alloc, size_ext, size_upd]; omega)); (focus (dsimp only; omega))) | ((with_reducible refine FW.setCell_ne ?_ ?_ _); rotate_left; (focus (dsimp only; omega))) | (with_reducible refine FW.ext ?_ _ _) | (with_reducible refine FW.alloc ?_ _)))
  have gl := hFV.lt
  have k3 : w.heap.size + 1 + o1.size < V.heap.size := by rw [← hV]; simp only [World.size_alloc, size_ext]; omega
  have c3 : ∀ i, V.cell? ⟨w.heap.size + 1 + o1.size, i, none⟩ = (#[.slice (some ⟨g, 0, none⟩) M4d.length cap, .int .i64 0, .int .i64 2, .int .i64 2, .int .i64 2] : Array Value)[i]? := by subst hV; intro i; go_simp
  have q3 : w.heap.size + 1 + o1.size ≠ g := by have := hF.lt; simp only [size_ext, World.size_alloc] at this; omega
  have hgw : w.heap.size ≤ g := by simp only [World.size_alloc] at hg; omega
  clear hV
  have hrows : Calls Try.prog 44 #[.agg #[.slice (some ⟨g, 0, none⟩) M4d.length cap, .int .i64 0, .int .i64 2, .int .i64 2, .int .i64 2], .int .i64 0, .int .i64 1] V
     (fun e w' => e = .returned (.int .i64 0) ∧ Wrote V w' g M4r) := rows_4 g cap V hFV
  (with_reducible refine hrows.mono ?_)
  rintro e w2 ⟨rfl, hw⟩
  have hF2 := hw.fw hFV
  have g2 : Grew w w2 := hw.grew gV hgw
  have hfs : FS w2 (.slice (some ⟨g, 0, none⟩) M4d.length cap) M4r := hF2.fs (by decide) cap
  obtain ⟨cs, o3, n3, hw2, hcs⟩ := hw
  have hcell : w2.cell? ⟨w.heap.size + 1 + o1.size, 0, none⟩ = some (.slice (some ⟨g, 0, none⟩) M4d.length cap) := by rw [hw2, cell_ext (by simpa using k3), cell_upd_ne q3]; exact c3 0
  have k4 : w.heap.size + 1 + o1.size < w2.heap.size := by rw [hw2]; simp only [size_ext, size_upd]; omega
  have HW := hid hw2
  clear hw2
  go_wp2_with (first
    | (go_at_call 47; ((with_reducible refine (all_any _ _ M4r M4r _ ?_ ?_).mono ?_); (focus (with_reducible exact hfs.alloc _)); (focus (repeat (first | exact FS.lit M4r (by decide) H2.out 4 _ (by simp only [size_ext, World.size_alloc]) | exact FS.lit M4r (by decide) H2.out 4 _ rfl | refine FS.alloc ?_ _ | refine FS.ext ?_ _ _))); rintro e w1 ⟨rfl, o4, n4, rfl⟩)))
  go_ret
  exact ⟨rfl, by (show Grew _ _; repeat (first | (with_reducible exact Grew.refl _) | (with_reducible assumption) | (with_reducible refine Grew.ext ?_ _ _) | (with_reducible refine Grew.alloc ?_ _) | ((with_reducible refine Grew.setCell ?_ ?_ _); rotate_left; (focus (dsimp only; first | omega | (simp only [size_ext, World.size_alloc, Array.size_append]; omega)))) | (with_reducible refine Grew.drewN ?_ _) | (with_reducible refine Grew.drew ?_)))⟩
end Go.Proofs.Ytcmggfpcbijcjaa
