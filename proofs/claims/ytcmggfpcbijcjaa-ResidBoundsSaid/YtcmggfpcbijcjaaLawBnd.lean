/-
  The walk of the law ResidBounds (layer 22).
-/
import Derived.Test.YtcmggfpcbijcjaaAw22
import Derived.Test.YtcmggfpcbijcjaaBnd2
set_option linter.unusedSimpArgs false
set_option linter.unusedVariables false
open Go Go.RowKit Sedge
namespace Go.Proofs.Ytcmggfpcbijcjaa
set_option maxRecDepth 100000 in
set_option maxHeartbeats 2000000 in
theorem residBounds_any (X : Value) (L : List Nat) (Y : Value) (M : List Nat) (w : World) (hX : FS w X L) (hY : FS w Y M) :
    Calls Try.prog 15 #[X, Y] w (fun e w' => e = .returned (.bool true) ∧ ∃ o n, w' = ext w o n) := by
  obtain ⟨aX, cX, rfl⟩ := hX.shape
  obtain ⟨aY, cY, rfl⟩ := hY.shape
  have hlX := hX.len
  have hlY := hY.len
  by_cases c1 : 100 < L.length
  · have d1 : decide ((100 : Int) < (L.length : Int)) = true := by simp; omega
    go_enter Try.func15, Try.ntmps15
    go_wp2_with (first | (go_at_call 91; ((with_reducible refine (awake22 _).mono ?_); rintro e w1 ⟨rfl, o1, n1, rfl⟩)))
    go_ret
    exact ⟨rfl, by (show Grew _ _; repeat (first | (with_reducible exact Grew.refl _) | (with_reducible assumption) | (with_reducible refine Grew.ext ?_ _ _) | (with_reducible refine Grew.alloc ?_ _) | ((with_reducible refine Grew.setCell ?_ ?_ _); rotate_left; (focus (dsimp only; first | omega | (simp only [size_ext, World.size_alloc, Array.size_append]; omega)))) | (with_reducible refine Grew.drewN ?_ _) | (with_reducible refine Grew.drew ?_)))⟩
  · have d1 : decide ((100 : Int) < (L.length : Int)) = false := by simp; omega
    by_cases c2 : 100 < M.length
    · have d2 : decide ((100 : Int) < (M.length : Int)) = true := by simp; omega
      go_enter Try.func15, Try.ntmps15
      go_wp2_with (first | (go_at_call 91; ((with_reducible refine (awake22 _).mono ?_); rintro e w1 ⟨rfl, o1, n1, rfl⟩)))
      go_ret
      exact ⟨rfl, by (show Grew _ _; repeat (first | (with_reducible exact Grew.refl _) | (with_reducible assumption) | (with_reducible refine Grew.ext ?_ _ _) | (with_reducible refine Grew.alloc ?_ _) | ((with_reducible refine Grew.setCell ?_ ?_ _); rotate_left; (focus (dsimp only; first | omega | (simp only [size_ext, World.size_alloc, Array.size_append]; omega)))) | (with_reducible refine Grew.drewN ?_ _) | (with_reducible refine Grew.drew ?_)))⟩
    · have d2 : decide ((100 : Int) < (M.length : Int)) = false := by simp; omega
      by_cases c3 : M.length = L.length
      · have C3 := hid c3
        have hb : ∀ w', FS w' (.slice aX L.length cX) L → FS w' (.slice aY M.length cY) M → Calls Try.prog 92 #[.slice aX L.length cX, .slice aY M.length cY] w' (fun e w2 => ∃ v, e = .returned (.tuple #[v, .int .i64 0]) ∧ FS w2 v (bndL L M) ∧ ∃ o n, w2 = ext w' o n) := fun w' h1 h2 => by
          refine (bounds_any _ _ L M w' h1 h2 (by omega) C3.out).mono fun e w2 hh => ?_
          obtain ⟨v, h3, h4, h5⟩ := hh
          exact ⟨v, h3, h4.fs (by rw [bndL_length]; omega), h5⟩
        have hrb : ∀ w', FS w' (.slice aX L.length cX) L → FS w' (.slice aY M.length cY) M → Calls Try.prog 93 #[.slice aX L.length cX, .slice aY M.length cY] w' (fun e w2 => ∃ v, e = .returned v ∧ FS w2 v (bndL L M) ∧ ∃ o n, w2 = ext w' o n) := fun w' h1 h2 => by
          refine (rbounds_any _ _ L M w' h1 h2 (by omega) C3.out).mono fun e w2 hh => ?_
          obtain ⟨v, h3, h4, h5⟩ := hh
          exact ⟨v, h3, h4.fs (by rw [bndL_length]; omega), h5⟩
        have d3 : ((L.length : Int) != (M.length : Int)) = false := by simp; omega
        have d4 : decide (bndL L M = bndL L M) = true := by simp
        clear c3
        go_enter Try.func15, Try.ntmps15
        go_wp2_with (first | (go_at_call 91; ((with_reducible refine (awake22 _).mono ?_); rintro e w1 ⟨rfl, o1, n1, rfl⟩)) | (go_at_call 92; ((with_reducible refine (hb _ ?_ ?_).mono ?_); (focus (first | (with_reducible assumption) | (with_reducible refine FS.ext ?_ _ _; with_reducible assumption) | (with_reducible refine IS.ext ?_ _ _; with_reducible assumption) | (refine hDu _ ?_; with_reducible assumption) | (refine hOu _ ?_; with_reducible assumption) | (refine hDa _ ?_; with_reducible assumption) | (refine hDb _ ?_; with_reducible assumption) | (refine hDc _ ?_; with_reducible assumption) | (refine hDd _ ?_; with_reducible assumption) | (refine FW.fs ?_ (by omega) _; with_reducible assumption) | (refine WS.fs ?_; with_reducible assumption) | (refine FW.fs ?_ (by omega) _; assumption) | omega | assumption)); (focus (first | (with_reducible assumption) | (with_reducible refine FS.ext ?_ _ _; with_reducible assumption) | (with_reducible refine IS.ext ?_ _ _; with_reducible assumption) | (refine hDu _ ?_; with_reducible assumption) | (refine hOu _ ?_; with_reducible assumption) | (refine hDa _ ?_; with_reducible assumption) | (refine hDb _ ?_; with_reducible assumption) | (refine hDc _ ?_; with_reducible assumption) | (refine hDd _ ?_; with_reducible assumption) | (refine FW.fs ?_ (by omega) _; with_reducible assumption) | (refine WS.fs ?_; with_reducible assumption) | (refine FW.fs ?_ (by omega) _; assumption) | omega | assumption)); rintro e w1 ⟨v, rfl, hv, o2, n2, rfl⟩)) | (go_at_call 93; ((with_reducible refine (hrb _ ?_ ?_).mono ?_); (focus (first | (with_reducible assumption) | (with_reducible refine FS.ext ?_ _ _; with_reducible assumption) | (with_reducible refine IS.ext ?_ _ _; with_reducible assumption) | (refine hDu _ ?_; with_reducible assumption) | (refine hOu _ ?_; with_reducible assumption) | (refine hDa _ ?_; with_reducible assumption) | (refine hDb _ ?_; with_reducible assumption) | (refine hDc _ ?_; with_reducible assumption) | (refine hDd _ ?_; with_reducible assumption) | (refine FW.fs ?_ (by omega) _; with_reducible assumption) | (refine WS.fs ?_; with_reducible assumption) | (refine FW.fs ?_ (by omega) _; assumption) | omega | assumption)); (focus (first | (with_reducible assumption) | (with_reducible refine FS.ext ?_ _ _; with_reducible assumption) | (with_reducible refine IS.ext ?_ _ _; with_reducible assumption) | (refine hDu _ ?_; with_reducible assumption) | (refine hOu _ ?_; with_reducible assumption) | (refine hDa _ ?_; with_reducible assumption) | (refine hDb _ ?_; with_reducible assumption) | (refine hDc _ ?_; with_reducible assumption) | (refine hDd _ ?_; with_reducible assumption) | (refine FW.fs ?_ (by omega) _; with_reducible assumption) | (refine WS.fs ?_; with_reducible assumption) | (refine FW.fs ?_ (by omega) _; assumption) | omega | assumption)); rintro e w1 ⟨v2, rfl, hv2, o3, n3, rfl⟩; have hv' := hv.ext o3 n3; simp only [ext_ext, Array.append_assoc] at hv2 hv')) | (go_at_call 47; ((with_reducible refine (all_any _ _ (bndL L M) (bndL L M) _ ?_ ?_).mono ?_); (focus (with_reducible exact hv')); (focus (with_reducible exact hv2)); rintro e w4 ⟨rfl, o4, n4, rfl⟩)))
        go_ret
        exact ⟨rfl, by (show Grew _ _; repeat (first | (with_reducible exact Grew.refl _) | (with_reducible assumption) | (with_reducible refine Grew.ext ?_ _ _) | (with_reducible refine Grew.alloc ?_ _) | ((with_reducible refine Grew.setCell ?_ ?_ _); rotate_left; (focus (dsimp only; first | omega | (simp only [size_ext, World.size_alloc, Array.size_append]; omega)))) | (with_reducible refine Grew.drewN ?_ _) | (with_reducible refine Grew.drew ?_)))⟩
      · have hb : ∀ w', FS w' (.slice aX L.length cX) L → FS w' (.slice aY M.length cY) M → Calls Try.prog 92 #[.slice aX L.length cX, .slice aY M.length cY] w' (fun e w2 => e = .returned (.tuple #[.slice none 0 0, .int .i64 3]) ∧ ∃ o n, w2 = ext w' o n) := fun w' h1 h2 => bounds_no _ _ L M w' h1 h2 c3
        have d3 : ((L.length : Int) != (M.length : Int)) = true := by simp; omega
        go_enter Try.func15, Try.ntmps15
        go_wp2_with (first | (go_at_call 91; ((with_reducible refine (awake22 _).mono ?_); rintro e w1 ⟨rfl, o1, n1, rfl⟩)) | (go_at_call 92; ((with_reducible refine (hb _ ?_ ?_).mono ?_); (focus (first | (with_reducible assumption) | (with_reducible refine FS.ext ?_ _ _; with_reducible assumption) | (with_reducible refine IS.ext ?_ _ _; with_reducible assumption) | (refine hDu _ ?_; with_reducible assumption) | (refine hOu _ ?_; with_reducible assumption) | (refine hDa _ ?_; with_reducible assumption) | (refine hDb _ ?_; with_reducible assumption) | (refine hDc _ ?_; with_reducible assumption) | (refine hDd _ ?_; with_reducible assumption) | (refine FW.fs ?_ (by omega) _; with_reducible assumption) | (refine WS.fs ?_; with_reducible assumption) | (refine FW.fs ?_ (by omega) _; assumption) | omega | assumption)); (focus (first | (with_reducible assumption) | (with_reducible refine FS.ext ?_ _ _; with_reducible assumption) | (with_reducible refine IS.ext ?_ _ _; with_reducible assumption) | (refine hDu _ ?_; with_reducible assumption) | (refine hOu _ ?_; with_reducible assumption) | (refine hDa _ ?_; with_reducible assumption) | (refine hDb _ ?_; with_reducible assumption) | (refine hDc _ ?_; with_reducible assumption) | (refine hDd _ ?_; with_reducible assumption) | (refine FW.fs ?_ (by omega) _; with_reducible assumption) | (refine WS.fs ?_; with_reducible assumption) | (refine FW.fs ?_ (by omega) _; assumption) | omega | assumption)); rintro e w1 ⟨rfl, o2, n2, rfl⟩)))
        go_ret
        exact ⟨rfl, by (show Grew _ _; repeat (first | (with_reducible exact Grew.refl _) | (with_reducible assumption) | (with_reducible refine Grew.ext ?_ _ _) | (with_reducible refine Grew.alloc ?_ _) | ((with_reducible refine Grew.setCell ?_ ?_ _); rotate_left; (focus (dsimp only; first | omega | (simp only [size_ext, World.size_alloc, Array.size_append]; omega)))) | (with_reducible refine Grew.drewN ?_ _) | (with_reducible refine Grew.drew ?_)))⟩
end Go.Proofs.Ytcmggfpcbijcjaa
