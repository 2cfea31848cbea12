/-
  Contracts: lists of one's own (reference of layers 1 and 3): copies, tables of noughts.
-/
import Derived.Test.YtcmggfpcbijcjaaRef1
import Derived.Test.YtcmggfpcbijcjaaWr
import Derived.Test.YtcmggfpcbijcjaaView
set_option linter.unusedSimpArgs false
set_option linter.unusedVariables false
open Go Go.RowKit Sedge
namespace Go.Proofs.Ytcmggfpcbijcjaa
theorem finfo : ElemF Try.prog 24 22 := ⟨by kernel_rfl, by kernel_rfl⟩
theorem notnil {b c n : Nat} {o} : Value.slice (some ⟨b, o, none⟩) n c ≠ .slice none 0 0 := by intro h; cases h
/-- straightedgeref03.Apart. -/
theorem apart_any (x : MatM) (D : Value) (w : World) (hD : FS w D x.ws) (hl : x.ws.length ≤ 1000000) :
   Calls Try.prog 43 #[.agg #[D, .int .i64 x.off, .int .i64 x.rows, .int .i64 x.cols, .int .i64 x.ld]] w
    (fun e w' => ∃ v, e = .returned (.agg #[v, .int .i64 x.off, .int .i64 x.rows, .int .i64 x.cols, .int .i64 x.ld]) ∧ WS w' w.heap.size v x.ws ∧ ∃ o n, w' = ext w o n) := by
  go_enter Try.func43, Try.ntmps43
  refine seq_stop ?_
  go_wp2
  refine stop_go (fun W hW => ?_)
  have s1 : w.heap.size < W.heap.size := by rw [hW]; simp only [World.size_alloc]; omega
  have b1 : ∀ i, W.cell? ⟨w.heap.size, i, none⟩ = (#[D, .int .i64 x.off, .int .i64 x.rows, .int .i64 x.cols, .int .i64 x.ld] : Array Value)[i]? := by intro i; rw [hW]; go_simp
  have f1 : ∀ i, W.frozen? ⟨w.heap.size, i, none⟩ = false := by intro i; rw [hW]; go_simp
  have s2 : w.heap.size + 1 < W.heap.size := by rw [hW]; simp only [World.size_alloc]; omega
  have b2 : ∀ i, W.cell? ⟨w.heap.size + 1, i, none⟩ = (#[.slice none 0 0, .int .i64 0, .int .i64 0, .int .i64 0, .int .i64 0] : Array Value)[i]? := by intro i; rw [hW]; go_simp
  have f2 : ∀ i, W.frozen? ⟨w.heap.size + 1, i, none⟩ = false := by intro i; rw [hW]; go_simp
  have g0 : Grew w W := by rw [hW]; exact ((Grew.refl _).alloc _).alloc _
  clear hW
  have hDW : FS W D x.ws := hD.grew g0
  go_wp2_with (at_builtin; refine appendN_f finfo (Grew.refl W |>.alloc _) (OwnF.empty rfl (Nat.le_refl _)) (FS.alloc hDW _) (by simp; omega) _ _ rfl rfl rfl rfl ?_; intro v oo nn ho hn; obtain ⟨g, cap, rfl, hg, hF, hL⟩ := ho.ws (hn notnil) (by simp; omega); simp only [List.nil_append] at hF hL)
  refine bodyPost_ret (v := .agg #[.slice (some ⟨g, 0, none⟩) x.ws.length cap, .int .i64 x.off, .int .i64 x.rows, .int .i64 x.cols, .int .i64 x.ld]) (by simp [results, Try.results43, go_sem, *]) rfl ?_
  exact ⟨_, rfl, ⟨g, cap, rfl, by omega, by (repeat (first | (with_reducible assumption) | ((with_reducible refine FW.ext_set ?_ ?_ ?_ _); rotate_left; (focus (simp only [size_setCell', World.size_alloc, size_ext, size_upd]; omega)); (focus (dsimp only; omega))) | ((with_reducible refine FW.setCell_ne ?_ ?_ _); rotate_left; (focus (dsimp only; omega))) | (with_reducible refine FW.ext ?_ _ _) | (with_reducible refine FW.alloc ?_ _))), hL⟩, by (show Grew _ _; repeat (first | (with_reducible exact Grew.refl _) | (with_reducible assumption) | (with_reducible refine Grew.ext ?_ _ _) | (with_reducible refine Grew.alloc ?_ _) | ((with_reducible refine Grew.setCell ?_ ?_ _); rotate_left; (focus (dsimp only; first | omega | (simp only [size_ext, World.size_alloc, Array.size_append]; omega)))) | (with_reducible refine Grew.drewN ?_ _) | (with_reducible refine Grew.drew ?_)))⟩
/-- straightedgeref03.Alone. -/
theorem alone_any (x : VecM) (D : Value) (w : World) (hD : FS w D x.ws) (hl : x.ws.length ≤ 1000000) :
   Calls Try.prog 54 #[.agg #[D, .int .i64 x.off, .int .i64 x.n, .int .i64 x.inc]] w
    (fun e w' => ∃ v, e = .returned (.agg #[v, .int .i64 x.off, .int .i64 x.n, .int .i64 x.inc]) ∧ WS w' w.heap.size v x.ws ∧ ∃ o n, w' = ext w o n) := by
  go_enter Try.func54, Try.ntmps54
  refine seq_stop ?_
  go_wp2
  refine stop_go (fun W hW => ?_)
  have s1 : w.heap.size < W.heap.size := by rw [hW]; simp only [World.size_alloc]; omega
  have b1 : ∀ i, W.cell? ⟨w.heap.size, i, none⟩ = (#[D, .int .i64 x.off, .int .i64 x.n, .int .i64 x.inc] : Array Value)[i]? := by intro i; rw [hW]; go_simp
  have f1 : ∀ i, W.frozen? ⟨w.heap.size, i, none⟩ = false := by intro i; rw [hW]; go_simp
  have s2 : w.heap.size + 1 < W.heap.size := by rw [hW]; simp only [World.size_alloc]; omega
  have b2 : ∀ i, W.cell? ⟨w.heap.size + 1, i, none⟩ = (#[.slice none 0 0, .int .i64 0, .int .i64 0, .int .i64 0] : Array Value)[i]? := by intro i; rw [hW]; go_simp
  have f2 : ∀ i, W.frozen? ⟨w.heap.size + 1, i, none⟩ = false := by intro i; rw [hW]; go_simp
  have g0 : Grew w W := by rw [hW]; exact ((Grew.refl _).alloc _).alloc _
  clear hW
  have hDW : FS W D x.ws := hD.grew g0
  go_wp2_with (at_builtin; refine appendN_f finfo (Grew.refl W |>.alloc _) (OwnF.empty rfl (Nat.le_refl _)) (FS.alloc hDW _) (by simp; omega) _ _ rfl rfl rfl rfl ?_; intro v oo nn ho hn; obtain ⟨g, cap, rfl, hg, hF, hL⟩ := ho.ws (hn notnil) (by simp; omega); simp only [List.nil_append] at hF hL)
  refine bodyPost_ret (v := .agg #[.slice (some ⟨g, 0, none⟩) x.ws.length cap, .int .i64 x.off, .int .i64 x.n, .int .i64 x.inc]) (by simp [results, Try.results54, go_sem, *]) rfl ?_
  exact ⟨_, rfl, ⟨g, cap, rfl, by omega, by (repeat (first | (with_reducible assumption) | ((with_reducible refine FW.ext_set ?_ ?_ ?_ _); rotate_left; (focus (simp only [size_setCell', World.size_alloc, size_ext, size_upd]; omega)); (focus (dsimp only; omega))) | ((with_reducible refine FW.setCell_ne ?_ ?_ _); rotate_left; (focus (dsimp only; omega))) | (with_reducible refine FW.ext ?_ _ _) | (with_reducible refine FW.alloc ?_ _))), hL⟩, by (show Grew _ _; repeat (first | (with_reducible exact Grew.refl _) | (with_reducible assumption) | (with_reducible refine Grew.ext ?_ _ _) | (with_reducible refine Grew.alloc ?_ _) | ((with_reducible refine Grew.setCell ?_ ?_ _); rotate_left; (focus (dsimp only; first | omega | (simp only [size_ext, World.size_alloc, Array.size_append]; omega)))) | (with_reducible refine Grew.drewN ?_ _) | (with_reducible refine Grew.drew ?_)))⟩
/-- straightedgeref01.Copy. -/
theorem copy1_any (D : Value) (ws : List Nat) (w : World) (hD : FS w D ws) (hl : ws.length ≤ 1000000) :
   Calls Try.prog 70 #[D] w (fun e w' => ∃ v, e = .returned v ∧ WS w' w.heap.size v ws ∧ ∃ o n, w' = ext w o n) := by
  go_enter Try.func70, Try.ntmps70
  go_wp2_with (at_builtin; refine appendN_f finfo (Grew.refl w |>.alloc _) (OwnF.empty rfl (Nat.le_refl _)) (FS.alloc hD _) (by simp; omega) _ _ rfl rfl rfl rfl ?_; intro v oo nn ho hn; obtain ⟨g, cap, rfl, hg, hF, hL⟩ := ho.ws (hn notnil) (by simp; omega); simp only [List.nil_append] at hF hL)
  go_ret
  exact ⟨_, rfl, ⟨g, cap, rfl, by omega, by (repeat (first | (with_reducible assumption) | ((with_reducible refine FW.ext_set ?_ ?_ ?_ _); rotate_left; (focus (simp only [size_setCell', World.size_alloc, size_ext, size_upd]; omega)); (focus (dsimp only; omega))) | ((with_reducible refine FW.setCell_ne ?_ ?_ _); rotate_left; (focus (dsimp only; omega))) | (with_reducible refine FW.ext ?_ _ _) | (with_reducible refine FW.alloc ?_ _))), hL⟩, by (show Grew _ _; repeat (first | (with_reducible exact Grew.refl _) | (with_reducible assumption) | (with_reducible refine Grew.ext ?_ _ _) | (with_reducible refine Grew.alloc ?_ _) | ((with_reducible refine Grew.setCell ?_ ?_ _); rotate_left; (focus (dsimp only; first | omega | (simp only [size_ext, World.size_alloc, Array.size_append]; omega)))) | (with_reducible refine Grew.drewN ?_ _) | (with_reducible refine Grew.drew ?_)))⟩
set_option maxRecDepth 100000 in
/-- straightedgeref03.New. -/
theorem rnew_any (r c : Nat) (w : World) (hr : r ≤ 1000) (hc : c ≤ 1000) :
   Calls Try.prog 68 #[.int .i64 r, .int .i64 c] w (fun e w' => ∃ v, e = .returned (.agg #[.int .i64 r, .int .i64 c, v]) ∧ WS w' w.heap.size v (List.replicate (r * c) 0) ∧ ∃ o n, w' = ext w o n) := by
  have hm : r * c ≤ 1000 * 1000 := Nat.mul_le_mul hr hc
  have h2 : IntKind.i64.wrap ((r : Int) * c) = (r : Int) * c := IntWalk.i64_in _ (by rw [← Int.natCast_mul]; omega)
  go_enter Try.func68, Try.ntmps68
  refine seq_stop ?_
  go_wp2
  refine stop_go (fun W hW => ?_)
  have s1 : w.heap.size < W.heap.size := by rw [hW]; simp only [World.size_alloc]; omega
  have b1 : ∀ i, W.cell? ⟨w.heap.size, i, none⟩ = (#[.int .i64 0, .int .i64 0, .slice none 0 0] : Array Value)[i]? := by intro i; rw [hW]; go_simp
  have f1 : ∀ i, W.frozen? ⟨w.heap.size, i, none⟩ = false := by intro i; rw [hW]; go_simp
  have g0 : Grew w W := by rw [hW]; exact (Grew.refl _).alloc _
  clear hW
  go_wp2_with (at_make; refine make_f (L := (r : Int) * (c : Int)) finfo (Grew.refl W) _ _ rfl rfl (r * c) (Int.natCast_mul r c).symm rfl rfl (by omega) ?_; intro oo nn k hk ho; have hF := ho.made)
  refine bodyPost_ret (v := .agg #[.int .i64 r, .int .i64 c, .slice (some ⟨k, 0, none⟩) (r * c) (r * c)]) (by simp [results, Try.results68, go_sem, *]) rfl ?_
  exact ⟨_, rfl, ⟨k, _, by rw [List.length_replicate], by omega, by (repeat (first | (with_reducible assumption) | ((with_reducible refine FW.ext_set ?_ ?_ ?_ _); rotate_left; (focus (simp only [size_setCell', World.size_alloc, size_ext, size_upd]; omega)); (focus (dsimp only; omega))) | ((with_reducible refine FW.setCell_ne ?_ ?_ _); rotate_left; (focus (dsimp only; omega))) | (with_reducible refine FW.ext ?_ _ _) | (with_reducible refine FW.alloc ?_ _))), by rw [List.length_replicate]; omega⟩, by (show Grew _ _; repeat (first | (with_reducible exact Grew.refl _) | (with_reducible assumption) | (with_reducible refine Grew.ext ?_ _ _) | (with_reducible refine Grew.alloc ?_ _) | ((with_reducible refine Grew.setCell ?_ ?_ _); rotate_left; (focus (dsimp only; first | omega | (simp only [size_ext, World.size_alloc, Array.size_append]; omega)))) | (with_reducible refine Grew.drewN ?_ _) | (with_reducible refine Grew.drew ?_)))⟩
end Go.Proofs.Ytcmggfpcbijcjaa
