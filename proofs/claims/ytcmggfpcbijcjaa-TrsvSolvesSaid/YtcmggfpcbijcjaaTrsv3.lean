/-
  Contracts: the system's num, at, less (trsv).
-/
import Derived.Test.YtcmggfpcbijcjaaTrsv2
set_option linter.unusedSimpArgs false
set_option linter.unusedVariables false
open Go Go.RowKit Sedge
namespace Go.Proofs.Ytcmggfpcbijcjaa
set_option maxRecDepth 100000 in
set_option maxHeartbeats 1000000 in
/-- The system's num. -/
theorem num_any (m : MatM) (x : VecM) (D : Value) (g cap i : Nat) (w : World) (hx : x.right = true) (hi : (i : Int) < x.n) (hl : x.ws.length ≤ 1000000) :
   Calls Try.prog 156 #[.agg #[D, .int .i64 m.off, .int .i64 m.rows, .int .i64 m.cols, .int .i64 m.ld, .slice (some ⟨g, 0, none⟩) x.ws.length cap, .int .i64 x.off, .int .i64 x.n, .int .i64 x.inc], .int .i64 i] w
     (fun e w' => e = .returned (.pointer (some ⟨g, (x.off + i * x.inc).toNat, none⟩)) ∧ ∃ o n, w' = ext w o n) := by
  have hp := VecM.right_place hx hi
  have hn := VecM.right_n hx
  have r1 : IntKind.i64.wrap (i * x.inc) = i * x.inc := IntWalk.i64_in _ (by omega)
  have r2 : IntKind.i64.wrap (x.off + i * x.inc) = x.off + i * x.inc := IntWalk.i64_in _ (by omega)
  clear hx
  go_enter Try.func156, Try.ntmps156
  refine seq_stop ?_
  go_wp2
  refine stop_go (fun W hW => ?_)
  have s1 : w.heap.size < W.heap.size := by rw [hW]; simp only [World.size_alloc]; omega
  have b1 : ∀ i, W.cell? ⟨w.heap.size, i, none⟩ = (#[D, .int .i64 m.off, .int .i64 m.rows, .int .i64 m.cols, .int .i64 m.ld, .slice (some ⟨g, 0, none⟩) x.ws.length cap, .int .i64 x.off, .int .i64 x.n, .int .i64 x.inc] : Array Value)[i]? := by intro i; rw [hW]; go_simp
  have g0 : Grew w W := by rw [hW]; exact (Grew.refl _).alloc _
  clear hW
  go_wp2
  go_ret
  exact ⟨rfl, by (show Grew _ _; repeat (first | (with_reducible exact Grew.refl _) | (with_reducible assumption) | (with_reducible refine Grew.ext ?_ _ _) | (with_reducible refine Grew.alloc ?_ _) | ((with_reducible refine Grew.setCell ?_ ?_ _); rotate_left; (focus (dsimp only; first | omega | (simp only [size_ext, World.size_alloc, Array.size_append]; omega)))) | (with_reducible refine Grew.drewN ?_ _) | (with_reducible refine Grew.drew ?_)))⟩
set_option maxRecDepth 100000 in
set_option maxHeartbeats 1000000 in
/-- The system's at. -/
theorem tat_any (m : MatM) (D X : Value) (a b c : Int) (i j : Nat) (w : World) (hD : FS w D m.ws) (hm : m.good = true) (hi : (i : Int) < m.rows) (hj : (j : Int) < m.cols) (hl : m.ws.length ≤ 1000000) :
   Calls Try.prog 155 #[.agg #[D, .int .i64 m.off, .int .i64 m.rows, .int .i64 m.cols, .int .i64 m.ld, X, .int .i64 a, .int .i64 b, .int .i64 c], .int .i64 i, .int .i64 j] w
     (fun e w' => ∃ r, e = .returned (.float .f64 r) ∧ IsF r (m.num i j) ∧ ∃ o n, w' = ext w o n) := by
  have hp := MatM.good_place hm hi hj
  have hn := m.good_n hm
  obtain ⟨blk, o, cap, rfl, hblk, hc⟩ := hD.open (by omega)
  obtain ⟨r, hb0, hf⟩ := hc (m.place i j) (by unfold MatM.place; omega)
  have hf' : IsF r (m.num i j) := hf
  unfold MatM.place at hb0
  have r1 : IntKind.i64.wrap (m.off + i) = m.off + i := IntWalk.i64_in _ (by omega)
  have r2 : IntKind.i64.wrap (j * m.ld) = j * m.ld := IntWalk.i64_in _ (by omega)
  have r3 : IntKind.i64.wrap (m.off + i + j * m.ld) = m.off + i + j * m.ld := IntWalk.i64_in _ (by omega)
  clear hm hc
  go_enter Try.func155, Try.ntmps155
  refine seq_stop ?_
  go_wp2
  refine stop_go (fun W hW => ?_)
  have s1 : w.heap.size < W.heap.size := by rw [hW]; simp only [World.size_alloc]; omega
  have b1 : ∀ i, W.cell? ⟨w.heap.size, i, none⟩ = (#[.slice (some ⟨blk, o, none⟩) m.ws.length cap, .int .i64 m.off, .int .i64 m.rows, .int .i64 m.cols, .int .i64 m.ld, X, .int .i64 a, .int .i64 b, .int .i64 c] : Array Value)[i]? := by intro i; rw [hW]; go_simp
  have g0 : Grew w W := by rw [hW]; exact (Grew.refl _).alloc _
  clear hW
  have hb := (g0.cell hblk).trans hb0
  have kb : blk < W.heap.size := by omega
  go_wp2
  go_ret
  exact ⟨r, rfl, hf', by (show Grew _ _; repeat (first | (with_reducible exact Grew.refl _) | (with_reducible assumption) | (with_reducible refine Grew.ext ?_ _ _) | (with_reducible refine Grew.alloc ?_ _) | ((with_reducible refine Grew.setCell ?_ ?_ _); rotate_left; (focus (dsimp only; first | omega | (simp only [size_ext, World.size_alloc, Array.size_append]; omega)))) | (with_reducible refine Grew.drewN ?_ _) | (with_reducible refine Grew.drew ?_)))⟩
set_option maxRecDepth 100000 in
set_option maxHeartbeats 1000000 in
/-- The system's less. -/
theorem sless_any (m : MatM) (x : VecM) (D : Value) (g cap i k r y : Nat) (ws : List Nat) (w : World) (hF : FW w g ws) (hlen : ws.length = x.ws.length) (hx : x.right = true) (hi : (i : Int) < x.n) (hk : (k : Int) < x.n) (hl : x.ws.length ≤ 1000000) (hr : IsF r y) :
   Calls Try.prog 154 #[.agg #[D, .int .i64 m.off, .int .i64 m.rows, .int .i64 m.cols, .int .i64 m.ld, .slice (some ⟨g, 0, none⟩) x.ws.length cap, .int .i64 x.off, .int .i64 x.n, .int .i64 x.inc], .int .i64 i, .int .i64 k, .float .f64 r] w
     (fun e w' => e = .returned (.tuple #[]) ∧ Wrote w w' g (ws.set (x.place i) (fsub (ws.getD (x.place i) 0) (fmul y (ws.getD (x.place k) 0))))) := by
  have hpi := VecM.right_place hx hi
  have hpk := VecM.right_place hx hk
  have hltg := hF.lt
  have hnum : ∀ (t : Nat) (w' : World), (t : Int) < x.n → Calls Try.prog 156 #[.agg #[D, .int .i64 m.off, .int .i64 m.rows, .int .i64 m.cols, .int .i64 m.ld, .slice (some ⟨g, 0, none⟩) x.ws.length cap, .int .i64 x.off, .int .i64 x.n, .int .i64 x.inc], .int .i64 t] w'
      (fun e w2 => e = .returned (.pointer (some ⟨g, (x.off + t * x.inc).toNat, none⟩)) ∧ ∃ o n, w2 = ext w' o n) := fun t w' h => num_any m x D g cap t w' hx h hl
  clear hx
  go_enter Try.func154, Try.ntmps154
  refine seq_stop ?_
  go_wp2
  refine stop_go (fun W hW => ?_)
  have s1 : w.heap.size < W.heap.size := by rw [hW]; simp only [World.size_alloc]; omega
  have b1 : ∀ i, W.cell? ⟨w.heap.size, i, none⟩ = (#[D, .int .i64 m.off, .int .i64 m.rows, .int .i64 m.cols, .int .i64 m.ld, .slice (some ⟨g, 0, none⟩) x.ws.length cap, .int .i64 x.off, .int .i64 x.n, .int .i64 x.inc] : Array Value)[i]? := by intro i; rw [hW]; go_simp
  have g0 : Grew w W := by rw [hW]; exact (Grew.refl _).alloc _
  clear hW
  have hFW := hF.grew g0
  have gl := hFW.lt
  have q1 : w.heap.size ≠ g := by omega
  have fz : ∀ i, W.frozen? ⟨g, i, none⟩ = false := hFW.notFrozen
  obtain ⟨r0, hr0, hf0⟩ := hFW.get (i := x.place i) (by rw [hlen]; unfold VecM.place; omega)
  obtain ⟨s0, hs0, hg0⟩ := hFW.get (i := x.place k) (by rw [hlen]; unfold VecM.place; omega)
  have hr1 := hr0
  have hs1 := hs0
  unfold VecM.place at hr1 hs1
  clear hr0 hs0
  refine wp_region_R (Grew W) [14] [(0,0), (3,1), (3,5), (0,6), (3,7), (1,2), (3,3), (0,4), (1,8), (3,9), (0,10), (1,11), (1,12), (3,13), (2,14)] (by kernel_rfl) (by kernel_rfl) (fun _ _ _ _ h _ => h) (by first | exact ⟨_, _, ext_drew⟩ | exact ⟨_, _, drew_ext0⟩) ?_
  go_wp2_with (first | ((with_reducible refine wpR_id ?_); first | (refine wpR_take (v := ?_) rfl rfl ?_ ?_; rotate_left; (focus (rintro w' ⟨o', n', rfl⟩; go_simp; try with_reducible rfl)); simp only [Act.put, List.setIfInBounds_toArray, List.set_cons_zero, List.set_cons_succ]) | (refine wpR_pure (v := ?_) rfl rfl ?_ ?_; rotate_left; (focus (intro w'; go_simp; try with_reducible rfl)); simp only [Act.put, List.setIfInBounds_toArray, List.set_cons_zero, List.set_cons_succ]) | (refine wpR_takeG (v := ?_) rfl rfl rfl rfl rfl ?_ ?_; rotate_left; (focus (rintro w' ⟨o', n', rfl⟩; go_simp; try with_reducible rfl)); simp only [Act.put, List.setIfInBounds_toArray, List.set_cons_zero, List.set_cons_succ]) | (refine wpR_skip rfl rfl rfl rfl rfl rfl ?_; simp only [Act.put, List.setIfInBounds_toArray, List.set_cons_zero, List.set_cons_succ]) | (refine wpR_skipU rfl rfl rfl rfl rfl ?_; simp only [Act.put, List.setIfInBounds_toArray, List.set_cons_zero, List.set_cons_succ]) | (refine wpR_do rfl rfl (fun K hK => ?_)) | (refine wpR_doG rfl rfl rfl rfl rfl (fun K hK => ?_)) | (refine wpR_last rfl rfl (fun K hK => ?_)) | (refine wpR_nil ?_)) | ((with_reducible refine wpR_go ?_ ?_); (focus exact ⟨_, _, rfl⟩)) | ((with_reducible refine upon_id ?_); refine upon_fop rfl (by assumption) (by assumption) ?_; intro rr nn hr) | (go_at_call 156; ((with_reducible refine (hnum i _ hi).mono ?_); rintro e w1 ⟨rfl, o1, n1, rfl⟩)) | (go_at_call 156; ((with_reducible refine (hnum k _ hk).mono ?_); rintro e w1 ⟨rfl, o1, n1, rfl⟩)))
  go_end0
  exact ⟨rfl, Wrote.grew_l g0 hltg ((hFW.wrote (k := x.place i) hr).grew_r ⟨_, _, rfl⟩)⟩
end Go.Proofs.Ytcmggfpcbijcjaa
