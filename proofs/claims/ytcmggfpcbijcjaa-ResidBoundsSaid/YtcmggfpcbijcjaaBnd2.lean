/-
  Contracts: the reference's bounds (layer 22).
-/
import Derived.Test.YtcmggfpcbijcjaaBnd
import Derived.Test.YtcmggfpcbijcjaaSums
set_option linter.unusedSimpArgs false
set_option linter.unusedVariables false
open Go Go.RowKit Sedge Ieee
namespace Go.Proofs.Ytcmggfpcbijcjaa
set_option maxRecDepth 100000 in
set_option maxHeartbeats 2000000 in
/-- straightedgeref22.Bounds. -/
theorem rbounds_any (X Y : Value) (L M : List Nat) (w : World) (hX : FS w X L) (hY : FS w Y M) (hl : L.length ≤ 1000000) (hlm : M.length = L.length) :
   Calls Try.prog 93 #[X, Y] w (fun e w' => ∃ v, e = .returned v ∧ OwnF 22 w' w.heap.size v (bndL L M) ∧ ∃ o n, w' = ext w o n) := by
  obtain ⟨aX, cX, rfl⟩ := hX.shape
  obtain ⟨aY, cY, rfl⟩ := hY.shape
  obtain ⟨N, hN⟩ : ∃ N, N = L.length := ⟨_, rfl⟩
  rw [hlm] at hY ⊢
  rw [← hN] at hX hY hl ⊢
  have r1 : IntKind.i64.wrap ((N : Int) + 3) = N + 3 := IntWalk.i64_in _ (by omega)
  obtain ⟨g, hg⟩ : ∃ g, g = gF N := ⟨_, rfl⟩
  have g1 : floatOfInt .f64 ((N : Int) + 3) = g := hg.symm
  have hgF : IsF g g := by rw [hg]; exact gF_isF N
  have HG := hid hg
  have HLM := hid hlm
  have HNN := hid hN
  clear hg hlm hN
  go_enter Try.func93, Try.ntmps93
  go_wp2
  go_loopw [5, 7] (fun v c wr => ∃ (i : Nat) (o : Array Obj) (n : Nat), i ≤ N ∧ c = .int .i64 i ∧ wr = ext w o n ∧ OwnF 22 wr w.heap.size v (bndTo L M i)) (fun _ c _ => N - (intOf c).toNat)
  case atStart => exact ⟨0, #[], _, Nat.zero_le _, rfl, ext_zero.symm, by simpa [bndTo] using OwnF.nil _ _ _⟩
  case round =>
    obtain ⟨i, o3, n3, hi, rfl, hwr, hown⟩ := hrel
    have gw : Grew w wr := ⟨_, _, hwr⟩
    clear hwr
    by_cases hlt : i < N
    · obtain ⟨blk, o, cap', ex, hblk, hc⟩ := (hX.grew gw).open (by rw [← HNN.out]; omega)
      simp only [Value.slice.injEq] at ex
      obtain ⟨rfl, -, rfl⟩ := ex
      obtain ⟨b, hb, hf⟩ := hc i (by rw [← HNN.out]; omega)
      obtain ⟨blk2, o', cap2, ex, hblk2, hc2⟩ := (hY.grew gw).open (by rw [HLM.out, ← HNN.out]; omega)
      simp only [Value.slice.injEq] at ex
      obtain ⟨rfl, -, rfl⟩ := ex
      obtain ⟨b2, hb2, hf2⟩ := hc2 i (by rw [HLM.out, ← HNN.out]; omega)
      have hll : (bndTo L M i).length = i := bndTo_length _ _ _
      clear hc hc2
      go_wp2
      refine wp_region_R (Grew wr) [] [(0,0), (0,1), (0,2), (0,3), (0,5), (0,7), (0,8), (0,9), (0,10), (1,4), (1,6), (1,11), (1,12), (0,13)] (by kernel_rfl) (by kernel_rfl) (fun _ _ _ _ h _ => h) (by first | exact ⟨_, _, ext_drew⟩ | exact ⟨_, _, drew_ext0⟩) ?_
      go_wp2_with (first | ((with_reducible refine wpR_id ?_); first | (refine wpR_take (v := ?_) rfl rfl ?_ ?_; rotate_left; (focus (rintro w' ⟨o', n', rfl⟩; go_simp; try with_reducible rfl)); simp only [Act.put, List.setIfInBounds_toArray, List.set_cons_zero, List.set_cons_succ]) | (refine wpR_pure (v := ?_) rfl rfl ?_ ?_; rotate_left; (focus (intro w'; go_simp; try with_reducible rfl)); simp only [Act.put, List.setIfInBounds_toArray, List.set_cons_zero, List.set_cons_succ]) | (refine wpR_takeG (v := ?_) rfl rfl rfl rfl rfl ?_ ?_; rotate_left; (focus (rintro w' ⟨o', n', rfl⟩; go_simp; try with_reducible rfl)); simp only [Act.put, List.setIfInBounds_toArray, List.set_cons_zero, List.set_cons_succ]) | (refine wpR_skip rfl rfl rfl rfl rfl rfl ?_; simp only [Act.put, List.setIfInBounds_toArray, List.set_cons_zero, List.set_cons_succ]) | (refine wpR_skipU rfl rfl rfl rfl rfl ?_; simp only [Act.put, List.setIfInBounds_toArray, List.set_cons_zero, List.set_cons_succ]) | (refine wpR_do rfl rfl (fun K hK => ?_)) | (refine wpR_doG rfl rfl rfl rfl rfl (fun K hK => ?_)) | (refine wpR_last rfl rfl (fun K hK => ?_)) | (refine wpR_nil ?_)) | ((with_reducible refine wpR_go ?_ ?_); (focus (show Grew _ _; repeat (first | (with_reducible exact Grew.refl _) | (with_reducible assumption) | (with_reducible refine Grew.ext ?_ _ _) | (with_reducible refine Grew.alloc ?_ _) | ((with_reducible refine Grew.setCell ?_ ?_ _); rotate_left; (focus (dsimp only; first | omega | (simp only [size_ext, World.size_alloc, Array.size_append]; omega)))) | (with_reducible refine Grew.drewN ?_ _) | (with_reducible refine Grew.drew ?_))))) | ((with_reducible refine upon_id ?_); refine upon_fop rfl (by assumption) (by assumption) ?_; intro rr nn hr) | (go_at_call 110; ((with_reducible refine (abs_any b _ _ hf).mono ?_); rintro e w1 ⟨ra, rfl, hra, rfl⟩)) | (go_at_call 165; ((with_reducible refine (rscale_any g g (-52) _ hgF).mono ?_); rintro e w1 ⟨rs, rfl, hrs, rfl⟩)) | (go_at_call 141; ((with_reducible refine (times_any rs b2 _ _ _ hrs hf2).mono ?_); rintro e w1 ⟨rt, rfl, hrt, o6, n6, rfl⟩)) | (go_at_call 36; ((with_reducible refine (plus_any ra rt _ _ _ hra hrt).mono ?_); rintro e w1 ⟨rp, rfl, hrp, o7, n7, rfl⟩)) | (go_at_call 165; ((with_reducible refine (rscale_any g g (-1070) _ hgF).mono ?_); rintro e w1 ⟨ru, rfl, hru, rfl⟩)) | (go_at_call 36; ((with_reducible refine (plus_any rp ru _ _ _ hrp hru).mono ?_); rintro e w1 ⟨rr, rfl, hr, o8, n8, rfl⟩)) | (at_builtin; refine append1_f (W := w) (v := u5) (xs := bndTo L M i) (y := bndAt L.length (L.getD i 0) (M.getD i 0)) finfo ?_ ?_ ?_ ((by rw [hll]; omega)) _ _ rfl rfl rfl ?_ rfl ?_; (focus (refine Grew.trans gw ?_; (show Grew _ _; repeat (first | (with_reducible exact Grew.refl _) | (with_reducible assumption) | (with_reducible refine Grew.ext ?_ _ _) | (with_reducible refine Grew.alloc ?_ _) | ((with_reducible refine Grew.setCell ?_ ?_ _); rotate_left; (focus (dsimp only; first | omega | (simp only [size_ext, World.size_alloc, Array.size_append]; omega)))) | (with_reducible refine Grew.drewN ?_ _) | (with_reducible refine Grew.drew ?_))))); (focus (refine OwnF.grew (w := wr) ?_ ?_; (focus (with_reducible assumption)); (focus (show Grew _ _; repeat (first | (with_reducible exact Grew.refl _) | (with_reducible assumption) | (with_reducible refine Grew.ext ?_ _ _) | (with_reducible refine Grew.alloc ?_ _) | ((with_reducible refine Grew.setCell ?_ ?_ _); rotate_left; (focus (dsimp only; first | omega | (simp only [size_ext, World.size_alloc, Array.size_append]; omega)))) | (with_reducible refine Grew.drewN ?_ _) | (with_reducible refine Grew.drew ?_)))))); (focus (unfold bndAt; rw [← HNN.out, ← HG.out]; exact hr)); (focus (first | rfl | (simp only [size_ext, World.size_alloc, Array.size_append]; done) | (simp only [size_ext, World.size_alloc, Array.size_append]; omega))); intro v oo nn ho hn))
      go_roundw
      case rel => exact ⟨i + 1, oo, nn, by omega, by go_num, rfl, by rw [bndTo_succ]; exact ho⟩
      case measure => simp [intOf]; omega
    · have e : i = N := by omega
      subst e
      go_wp2
      go_ret
      exact ⟨_, rfl, by unfold bndL; rw [← HNN.out]; exact hown, gw⟩
end Go.Proofs.Ytcmggfpcbijcjaa
