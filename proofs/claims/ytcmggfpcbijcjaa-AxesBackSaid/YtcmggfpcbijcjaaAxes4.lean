/-
  Contracts: the reference's Scal, Sign, Shift (layer 6).
-/
import Derived.Test.YtcmggfpcbijcjaaAxes3
import Derived.Test.YtcmggfpcbijcjaaBnd
import Derived.Test.YtcmggfpcbijcjaaGer3
set_option linter.unusedSimpArgs false
set_option linter.unusedVariables false
open Go Go.RowKit Sedge
namespace Go.Proofs.Ytcmggfpcbijcjaa
theorem FS_one {w : World} {t : TypeId} {r y : Nat} (hr : IsF r y) (n : Nat) (hn : n = w.heap.size) : FS (w.alloc (.cells #[.float .f64 r] t)) (.slice (some ⟨n, 0, none⟩) 1 1) [y] := by
  subst hn
  refine ⟨by simp, _, 1, rfl, (fun h => by cases h), fun i hi => ⟨_, _, r, rfl, ?_, ?_⟩⟩
  · have : i = 0 := by simp at hi; exact hi
    subst this
    rw [World.cell?_alloc_new]; rfl
  · have : i = 0 := by simp at hi; exact hi
    subst this
    exact hr
def mapTo (f : Nat → Nat) (i : Nat) : List Nat := (List.range i).map f
theorem mapTo_succ (f : Nat → Nat) (i : Nat) : mapTo f (i + 1) = mapTo f i ++ [f i] := by unfold mapTo; rw [List.range_succ, List.map_append]; rfl
theorem mapTo_length (f : Nat → Nat) (i : Nat) : (mapTo f i).length = i := by simp [mapTo]
set_option maxRecDepth 100000 in
set_option maxHeartbeats 1000000 in
/-- straightedgeref06.Scal. -/
theorem rscal_any (a α : Nat) (X : Value) (l : List Nat) (w : World) (ha : IsF a α) (hX : FS w X l) (hl : l.length ≤ 1000000) :
   Calls Try.prog 98 #[.float .f64 a, X] w (fun e w' => ∃ v, e = .returned v ∧ FS w' v (mapTo (fun i => fmul α (l.getD i 0)) l.length) ∧ ∃ o n, w' = ext w o n) := by
  obtain ⟨aX, cX, rfl⟩ := hX.shape
  go_enter Try.func98, Try.ntmps98
  go_wp2
  go_loopw [5, 6] (fun v c wr => ∃ (i : Nat) (o : Array Obj) (n : Nat), i ≤ l.length ∧ c = .int .i64 i ∧ wr = ext w o n ∧ OwnF 22 wr w.heap.size v (mapTo (fun i => fmul α (l.getD i 0)) i)) (fun _ c _ => l.length - (intOf c).toNat)
  case atStart => exact ⟨0, #[], _, Nat.zero_le _, rfl, ext_zero.symm, by simpa [mapTo] using OwnF.nil _ _ _⟩
  case round =>
    obtain ⟨i, o3, n3, hi, rfl, hwr, hown⟩ := hrel
    have gw : Grew w wr := ⟨_, _, hwr⟩
    clear hwr
    by_cases hlt : i < l.length
    · obtain ⟨blk, o, cap', ex, hblk, hc⟩ := (hX.grew gw).open (by omega)
      simp only [Value.slice.injEq] at ex
      obtain ⟨rfl, -, rfl⟩ := ex
      obtain ⟨b, hb, hf⟩ := hc i hlt
      have hll : (mapTo (fun i => fmul α (l.getD i 0)) i).length = i := mapTo_length _ _
      clear hc
      go_wp2_with (first | (go_at_call 141; ((with_reducible refine (times_any a b _ _ _ ha hf).mono ?_); rintro e w1 ⟨rr, rfl, hr, o6, n6, rfl⟩)) | (at_builtin; refine append1_f (W := w) (v := u5) (xs := mapTo (fun i => fmul α (l.getD i 0)) i) (y := fmul α (l.getD i 0)) finfo ?_ ?_ ?_ ((by rw [hll]; omega)) _ _ rfl rfl rfl ?_ rfl ?_; (focus (refine Grew.trans gw ?_; (show Grew _ _; repeat (first | (with_reducible exact Grew.refl _) | (with_reducible assumption) | (with_reducible refine Grew.ext ?_ _ _) | (with_reducible refine Grew.alloc ?_ _) | ((with_reducible refine Grew.setCell ?_ ?_ _); rotate_left; (focus (dsimp only; first | omega | (simp only [size_ext, World.size_alloc, Array.size_append]; omega)))) | (with_reducible refine Grew.drewN ?_ _) | (with_reducible refine Grew.drew ?_))))); (focus (refine OwnF.grew (w := wr) ?_ ?_; (focus (with_reducible assumption)); (focus (show Grew _ _; repeat (first | (with_reducible exact Grew.refl _) | (with_reducible assumption) | (with_reducible refine Grew.ext ?_ _ _) | (with_reducible refine Grew.alloc ?_ _) | ((with_reducible refine Grew.setCell ?_ ?_ _); rotate_left; (focus (dsimp only; first | omega | (simp only [size_ext, World.size_alloc, Array.size_append]; omega)))) | (with_reducible refine Grew.drewN ?_ _) | (with_reducible refine Grew.drew ?_)))))); (focus (exact hr)); (focus (first | rfl | (simp only [size_ext, World.size_alloc, Array.size_append]; done) | (simp only [size_ext, World.size_alloc, Array.size_append]; omega))); intro v oo nn ho hn))
      go_roundw
      case rel => exact ⟨i + 1, oo, nn, by omega, by go_num, rfl, by rw [mapTo_succ]; exact ho⟩
      case measure => simp [intOf]; omega
    · have e : i = l.length := by omega
      have hfs := hown.fs (by rw [mapTo_length]; omega)
      rw [e] at hfs
      go_wp2
      go_ret
      exact ⟨_, rfl, hfs, gw⟩
set_option maxRecDepth 100000 in
set_option maxHeartbeats 1000000 in
/-- straightedgeref06.Sign. -/
theorem rsign_any (X : Value) (l : List Nat) (w : World) (hX : FS w X l) (hl : l.length ≤ 1000000) :
   Calls Try.prog 99 #[X] w (fun e w' => ∃ v, e = .returned v ∧ FS w' v (mapTo (fun i => sgF (l.getD i 0)) l.length) ∧ ∃ o n, w' = ext w o n) := by
  obtain ⟨aX, cX, rfl⟩ := hX.shape
  have c1 : IsF 4607182418800017408 4607182418800017408 := by decide +kernel
  have c2 : IsF 13830554455654793216 13830554455654793216 := by decide +kernel
  have C1 := hid c1
  have C2 := hid c2
  clear c1 c2
  go_enter Try.func99, Try.ntmps99
  go_wp2
  go_loopw [3, 4] (fun v c wr => ∃ (i : Nat) (o : Array Obj) (n : Nat), i ≤ l.length ∧ c = .int .i64 i ∧ wr = ext w o n ∧ OwnF 22 wr w.heap.size v (mapTo (fun i => sgF (l.getD i 0)) i)) (fun _ c _ => l.length - (intOf c).toNat)
  case atStart => exact ⟨0, #[], _, Nat.zero_le _, rfl, ext_zero.symm, by simpa [mapTo] using OwnF.nil _ _ _⟩
  case round =>
    obtain ⟨i, o3, n3, hi, rfl, hwr, hown⟩ := hrel
    have gw : Grew w wr := ⟨_, _, hwr⟩
    clear hwr
    by_cases hlt : i < l.length
    · obtain ⟨blk, o, cap', ex, hblk, hc⟩ := (hX.grew gw).open (by omega)
      simp only [Value.slice.injEq] at ex
      obtain ⟨rfl, -, rfl⟩ := ex
      obtain ⟨b, hb, hf⟩ := hc i hlt
      have hll : (mapTo (fun i => sgF (l.getD i 0)) i).length = i := mapTo_length _ _
      obtain ⟨z, hz⟩ : ∃ z, Hid (z = l.getD i 0) := ⟨_, hid rfl⟩
      rw [← hz.out] at hf
      clear hc
      cases hp : fgt z 0
      · cases hq : feq z 0
        · have Q := hid (show sgF z = 13830554455654793216 by unfold sgF; rw [hp, hq]; rfl)
          have d1 := (gt_eq0 hf).trans hp
          have d2 := eq_is hf isF_zero hq
          go_wp2_with (first | (at_builtin; refine append1_f (W := w) (v := u3) (xs := mapTo (fun i => sgF (l.getD i 0)) i) (y := sgF z) finfo ?_ ?_ ?_ ((by rw [hll]; omega)) _ _ rfl rfl rfl ?_ rfl ?_; (focus (refine Grew.trans gw ?_; (show Grew _ _; repeat (first | (with_reducible exact Grew.refl _) | (with_reducible assumption) | (with_reducible refine Grew.ext ?_ _ _) | (with_reducible refine Grew.alloc ?_ _) | ((with_reducible refine Grew.setCell ?_ ?_ _); rotate_left; (focus (dsimp only; first | omega | (simp only [size_ext, World.size_alloc, Array.size_append]; omega)))) | (with_reducible refine Grew.drewN ?_ _) | (with_reducible refine Grew.drew ?_))))); (focus (refine OwnF.grew (w := wr) ?_ ?_; (focus (with_reducible assumption)); (focus (show Grew _ _; repeat (first | (with_reducible exact Grew.refl _) | (with_reducible assumption) | (with_reducible refine Grew.ext ?_ _ _) | (with_reducible refine Grew.alloc ?_ _) | ((with_reducible refine Grew.setCell ?_ ?_ _); rotate_left; (focus (dsimp only; first | omega | (simp only [size_ext, World.size_alloc, Array.size_append]; omega)))) | (with_reducible refine Grew.drewN ?_ _) | (with_reducible refine Grew.drew ?_)))))); (focus ((rw [Q.out]; exact C2.out))); (focus (first | rfl | (simp only [size_ext, World.size_alloc, Array.size_append]; done) | (simp only [size_ext, World.size_alloc, Array.size_append]; omega))); intro v oo nn ho hn))
          go_roundw
          case rel => exact ⟨i + 1, oo, nn, by omega, by go_num, rfl, by rw [mapTo_succ, ← hz.out]; exact ho⟩
          case measure => simp [intOf]; omega
        · have Q := hid (show sgF z = 4607182418800017408 by unfold sgF; rw [hp, hq]; rfl)
          have d1 := (gt_eq0 hf).trans hp
          have d2 := eq_is hf isF_zero hq
          go_wp2_with (first | (at_builtin; refine append1_f (W := w) (v := u3) (xs := mapTo (fun i => sgF (l.getD i 0)) i) (y := sgF z) finfo ?_ ?_ ?_ ((by rw [hll]; omega)) _ _ rfl rfl rfl ?_ rfl ?_; (focus (refine Grew.trans gw ?_; (show Grew _ _; repeat (first | (with_reducible exact Grew.refl _) | (with_reducible assumption) | (with_reducible refine Grew.ext ?_ _ _) | (with_reducible refine Grew.alloc ?_ _) | ((with_reducible refine Grew.setCell ?_ ?_ _); rotate_left; (focus (dsimp only; first | omega | (simp only [size_ext, World.size_alloc, Array.size_append]; omega)))) | (with_reducible refine Grew.drewN ?_ _) | (with_reducible refine Grew.drew ?_))))); (focus (refine OwnF.grew (w := wr) ?_ ?_; (focus (with_reducible assumption)); (focus (show Grew _ _; repeat (first | (with_reducible exact Grew.refl _) | (with_reducible assumption) | (with_reducible refine Grew.ext ?_ _ _) | (with_reducible refine Grew.alloc ?_ _) | ((with_reducible refine Grew.setCell ?_ ?_ _); rotate_left; (focus (dsimp only; first | omega | (simp only [size_ext, World.size_alloc, Array.size_append]; omega)))) | (with_reducible refine Grew.drewN ?_ _) | (with_reducible refine Grew.drew ?_)))))); (focus ((rw [Q.out]; exact C1.out))); (focus (first | rfl | (simp only [size_ext, World.size_alloc, Array.size_append]; done) | (simp only [size_ext, World.size_alloc, Array.size_append]; omega))); intro v oo nn ho hn))
          go_roundw
          case rel => exact ⟨i + 1, oo, nn, by omega, by go_num, rfl, by rw [mapTo_succ, ← hz.out]; exact ho⟩
          case measure => simp [intOf]; omega
      · cases hq : feq z 0
        · have Q := hid (show sgF z = 4607182418800017408 by unfold sgF; rw [hp, hq]; rfl)
          have d1 := (gt_eq0 hf).trans hp
          have d2 := eq_is hf isF_zero hq
          go_wp2_with (first | (at_builtin; refine append1_f (W := w) (v := u3) (xs := mapTo (fun i => sgF (l.getD i 0)) i) (y := sgF z) finfo ?_ ?_ ?_ ((by rw [hll]; omega)) _ _ rfl rfl rfl ?_ rfl ?_; (focus (refine Grew.trans gw ?_; (show Grew _ _; repeat (first | (with_reducible exact Grew.refl _) | (with_reducible assumption) | (with_reducible refine Grew.ext ?_ _ _) | (with_reducible refine Grew.alloc ?_ _) | ((with_reducible refine Grew.setCell ?_ ?_ _); rotate_left; (focus (dsimp only; first | omega | (simp only [size_ext, World.size_alloc, Array.size_append]; omega)))) | (with_reducible refine Grew.drewN ?_ _) | (with_reducible refine Grew.drew ?_))))); (focus (refine OwnF.grew (w := wr) ?_ ?_; (focus (with_reducible assumption)); (focus (show Grew _ _; repeat (first | (with_reducible exact Grew.refl _) | (with_reducible assumption) | (with_reducible refine Grew.ext ?_ _ _) | (with_reducible refine Grew.alloc ?_ _) | ((with_reducible refine Grew.setCell ?_ ?_ _); rotate_left; (focus (dsimp only; first | omega | (simp only [size_ext, World.size_alloc, Array.size_append]; omega)))) | (with_reducible refine Grew.drewN ?_ _) | (with_reducible refine Grew.drew ?_)))))); (focus ((rw [Q.out]; exact C1.out))); (focus (first | rfl | (simp only [size_ext, World.size_alloc, Array.size_append]; done) | (simp only [size_ext, World.size_alloc, Array.size_append]; omega))); intro v oo nn ho hn))
          go_roundw
          case rel => exact ⟨i + 1, oo, nn, by omega, by go_num, rfl, by rw [mapTo_succ, ← hz.out]; exact ho⟩
          case measure => simp [intOf]; omega
        · have Q := hid (show sgF z = 4607182418800017408 by unfold sgF; rw [hp, hq]; rfl)
          have d1 := (gt_eq0 hf).trans hp
          have d2 := eq_is hf isF_zero hq
          go_wp2_with (first | (at_builtin; refine append1_f (W := w) (v := u3) (xs := mapTo (fun i => sgF (l.getD i 0)) i) (y := sgF z) finfo ?_ ?_ ?_ ((by rw [hll]; omega)) _ _ rfl rfl rfl ?_ rfl ?_; (focus (refine Grew.trans gw ?_; (show Grew _ _; repeat (first | (with_reducible exact Grew.refl _) | (with_reducible assumption) | (with_reducible refine Grew.ext ?_ _ _) | (with_reducible refine Grew.alloc ?_ _) | ((with_reducible refine Grew.setCell ?_ ?_ _); rotate_left; (focus (dsimp only; first | omega | (simp only [size_ext, World.size_alloc, Array.size_append]; omega)))) | (with_reducible refine Grew.drewN ?_ _) | (with_reducible refine Grew.drew ?_))))); (focus (refine OwnF.grew (w := wr) ?_ ?_; (focus (with_reducible assumption)); (focus (show Grew _ _; repeat (first | (with_reducible exact Grew.refl _) | (with_reducible assumption) | (with_reducible refine Grew.ext ?_ _ _) | (with_reducible refine Grew.alloc ?_ _) | ((with_reducible refine Grew.setCell ?_ ?_ _); rotate_left; (focus (dsimp only; first | omega | (simp only [size_ext, World.size_alloc, Array.size_append]; omega)))) | (with_reducible refine Grew.drewN ?_ _) | (with_reducible refine Grew.drew ?_)))))); (focus ((rw [Q.out]; exact C1.out))); (focus (first | rfl | (simp only [size_ext, World.size_alloc, Array.size_append]; done) | (simp only [size_ext, World.size_alloc, Array.size_append]; omega))); intro v oo nn ho hn))
          go_roundw
          case rel => exact ⟨i + 1, oo, nn, by omega, by go_num, rfl, by rw [mapTo_succ, ← hz.out]; exact ho⟩
          case measure => simp [intOf]; omega
    · have e : i = l.length := by omega
      have hfs := hown.fs (by rw [mapTo_length]; omega)
      rw [e] at hfs
      go_wp2
      go_ret
      exact ⟨_, rfl, hfs, gw⟩
set_option maxRecDepth 100000 in
set_option maxHeartbeats 1000000 in
/-- straightedgeref06.Shift. -/
theorem rshift_any (X O : Value) (l : List Nat) (zs : List Int) (w : World) (hX : FS w X l) (hO : IS .i64 w O zs) (hl : l.length ≤ 1000000) (hn : zs.length = l.length) :
   Calls Try.prog 100 #[X, O] w (fun e w' => ∃ v, e = .returned v ∧ FS w' v (mapTo (fun i => fscale (l.getD i 0) (zs.getD i 0)) l.length) ∧ ∃ o n, w' = ext w o n) := by
  obtain ⟨aX, cX, rfl⟩ := hX.shape
  obtain ⟨aO, cO, rfl⟩ := hO.shape
  have Hn := hid hn
  rw [hn] at hO ⊢
  clear hn
  go_enter Try.func100, Try.ntmps100
  go_wp2
  go_loopw [5, 6] (fun v c wr => ∃ (i : Nat) (o : Array Obj) (n : Nat), i ≤ l.length ∧ c = .int .i64 i ∧ wr = ext w o n ∧ OwnF 22 wr w.heap.size v (mapTo (fun i => fscale (l.getD i 0) (zs.getD i 0)) i)) (fun _ c _ => l.length - (intOf c).toNat)
  case atStart => exact ⟨0, #[], _, Nat.zero_le _, rfl, ext_zero.symm, by simpa [mapTo] using OwnF.nil _ _ _⟩
  case round =>
    obtain ⟨i, o3, n3, hi, rfl, hwr, hown⟩ := hrel
    have gw : Grew w wr := ⟨_, _, hwr⟩
    clear hwr
    by_cases hlt : i < l.length
    · obtain ⟨blk, o, cap', ex, hblk, hc⟩ := hX.open (by omega)
      simp only [Value.slice.injEq] at ex
      obtain ⟨rfl, -, rfl⟩ := ex
      obtain ⟨b, hb, hf⟩ := hc i hlt
      obtain ⟨blk2, o2, ex, hblk2, hc2⟩ := hO.at.2 (by rw [Hn.out]; omega)
      subst ex
      have hb2 := hc2 i (by rw [Hn.out]; exact hlt)
      have hll : (mapTo (fun i => fscale (l.getD i 0) (zs.getD i 0)) i).length = i := mapTo_length _ _
      obtain ⟨z, hz⟩ : ∃ z, Hid (z = l.getD i 0) := ⟨_, hid rfl⟩
      obtain ⟨k, hk⟩ : ∃ k, Hid (k = zs.getD i 0) := ⟨_, hid rfl⟩
      rw [← hz.out] at hf
      rw [← hk.out] at hb2
      have hbr := (gw.cell hblk).trans hb
      have hb2r := (gw.cell hblk2).trans hb2
      clear hc hc2
      go_wp2
      refine wp_region_R (Grew w) [] [(0,0), (0,1), (0,2), (0,3), (0,4), (0,5), (0,6), (0,7), (0,8), (1,9), (1,10), (1,11), (0,12)] (by kernel_rfl) (by kernel_rfl) (fun _ _ _ _ h _ => h) (by first | exact ⟨_, _, ext_drew⟩ | exact ⟨_, _, drew_ext0⟩ | (show Grew _ _; repeat (first | (with_reducible exact Grew.refl _) | (with_reducible assumption) | (with_reducible refine Grew.ext ?_ _ _) | (with_reducible refine Grew.alloc ?_ _) | ((with_reducible refine Grew.setCell ?_ ?_ _); rotate_left; (focus (dsimp only; first | omega | (simp only [size_ext, World.size_alloc, Array.size_append]; omega)))) | (with_reducible refine Grew.drewN ?_ _) | (with_reducible refine Grew.drew ?_)))) ?_
      go_wp2_with (first | ((with_reducible refine wpR_id ?_); refine wpR_do rfl rfl (fun K hK => ?_); (with_reducible refine wp_app ?_); refine appendN_K (W := w) (v := u5) (xs := mapTo (fun i => fscale (l.getD i 0) (zs.getD i 0)) i) (ws := [fscale z k]) finfo ?_ ?_ ?_ ((by rw [hll]; simp; omega)) _ _ rfl rfl rfl rfl ?_; (focus (show Grew _ _; repeat (first | (with_reducible exact Grew.refl _) | (with_reducible assumption) | (with_reducible refine Grew.ext ?_ _ _) | (with_reducible refine Grew.alloc ?_ _) | ((with_reducible refine Grew.setCell ?_ ?_ _); rotate_left; (focus (dsimp only; first | omega | (simp only [size_ext, World.size_alloc, Array.size_append]; omega)))) | (with_reducible refine Grew.drewN ?_ _) | (with_reducible refine Grew.drew ?_)))); (focus (refine OwnF.grew (w := wr) ?_ ?_; (focus (with_reducible assumption)); (focus (show Grew _ _; repeat (first | (with_reducible exact Grew.refl _) | (with_reducible assumption) | (with_reducible refine Grew.ext ?_ _ _) | (with_reducible refine Grew.alloc ?_ _) | ((with_reducible refine Grew.setCell ?_ ?_ _); rotate_left; (focus (dsimp only; first | omega | (simp only [size_ext, World.size_alloc, Array.size_append]; omega)))) | (with_reducible refine Grew.drewN ?_ _) | (with_reducible refine Grew.drew ?_)))))); (focus (refine FS_one (y := fscale z k) ?_ _ ?_; (focus (exact hr)); (focus (first | rfl | (simp only [size_ext, World.size_alloc, Array.size_append]; done) | (simp only [size_ext, World.size_alloc, Array.size_append]; omega))))); intro v oo nn ho hn) | ((with_reducible refine wpR_id ?_); first | (refine wpR_take (v := ?_) rfl rfl ?_ ?_; rotate_left; (focus (rintro w' ⟨o', n', rfl⟩; go_simp; try with_reducible rfl)); simp only [Act.put, List.setIfInBounds_toArray, List.set_cons_zero, List.set_cons_succ]) | (refine wpR_pure (v := ?_) rfl rfl ?_ ?_; rotate_left; (focus (intro w'; go_simp; try with_reducible rfl)); simp only [Act.put, List.setIfInBounds_toArray, List.set_cons_zero, List.set_cons_succ]) | (refine wpR_takeG (v := ?_) rfl rfl rfl rfl rfl ?_ ?_; rotate_left; (focus (rintro w' ⟨o', n', rfl⟩; go_simp; try with_reducible rfl)); simp only [Act.put, List.setIfInBounds_toArray, List.set_cons_zero, List.set_cons_succ]) | (refine wpR_skip rfl rfl rfl rfl rfl rfl ?_; simp only [Act.put, List.setIfInBounds_toArray, List.set_cons_zero, List.set_cons_succ]) | (refine wpR_skipU rfl rfl rfl rfl rfl ?_; simp only [Act.put, List.setIfInBounds_toArray, List.set_cons_zero, List.set_cons_succ]) | (refine wpR_do rfl rfl (fun K hK => ?_)) | (refine wpR_doG rfl rfl rfl rfl rfl (fun K hK => ?_)) | (refine wpR_last rfl rfl (fun K hK => ?_)) | (refine wpR_nil ?_)) | ((with_reducible refine wpR_go ?_ ?_); (focus (show Grew _ _; repeat (first | (with_reducible exact Grew.refl _) | (with_reducible assumption) | (with_reducible refine Grew.ext ?_ _ _) | (with_reducible refine Grew.alloc ?_ _) | ((with_reducible refine Grew.setCell ?_ ?_ _); rotate_left; (focus (dsimp only; first | omega | (simp only [size_ext, World.size_alloc, Array.size_append]; omega)))) | (with_reducible refine Grew.drewN ?_ _) | (with_reducible refine Grew.drew ?_))))) | ((with_reducible refine upon_id ?_); refine upon_fop rfl (by assumption) (by assumption) ?_; intro rr nn hr) | (go_at_call 165; ((with_reducible refine (rscale_any b z k _ hf).mono ?_); rintro e w1 ⟨rr, rfl, hr, rfl⟩)))
      go_roundw
      case rel => exact ⟨i + 1, oo, nn, by omega, by go_num, rfl, by rw [mapTo_succ, ← hz.out, ← hk.out]; exact ho⟩
      case measure => simp [intOf]; omega
    · have e : i = l.length := by omega
      have hfs := hown.fs (by rw [mapTo_length]; omega)
      rw [e] at hfs
      go_wp2
      go_ret
      exact ⟨_, rfl, hfs, gw⟩
end Go.Proofs.Ytcmggfpcbijcjaa
