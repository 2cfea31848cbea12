/-
  Contracts: ref01.Scale; resid.Bounds and its reference.
-/
import Derived.Test.YtcmggfpcbijcjaaLd2
import Derived.Test.YtcmggfpcbijcjaaLists
import Derived.Test.YtcmggfpcbijcjaaVecs
import Derived.Test.YtcmggfpcbijcjaaFork
set_option linter.unusedSimpArgs false
set_option linter.unusedVariables false
open Go Go.RowKit Sedge Ieee
namespace Go.Proofs.Ytcmggfpcbijcjaa
theorem word_zero_of {b : Nat} (hb : b < 2 ^ 64) (hk : pKind b = 0) (hm : pMag b = 0) : b = D64.word (pNeg b) 0 := by
  have p63 : (2:Nat) ^ 63 = 9223372036854775808 := by decide
  have p64 : (2:Nat) ^ 64 = 18446744073709551616 := by decide
  have hSW : SW = 9223372036854775808 := by decide +kernel
  have hBN : BN = 4503599627370496 := by decide +kernel
  have he : expo b = 0 := by
    by_cases h : expo b = 0
    · exact h
    · exfalso
      unfold pMag at hm
      unfold pKind at hk
      rw [hBN] at hm
      by_cases h2 : expo b = 2047
      · rw [if_pos h2] at hk
        split at hk <;> simp at hk
      · simp [h, h2] at hm
  have hf : frac b = 0 := by
    unfold pMag at hm
    simp [he] at hm
    exact hm
  rw [word_sN, p63]
  unfold pNeg sN
  unfold expo frac at *
  rw [hBN] at *
  rw [hSW]
  rw [p64] at hb
  by_cases h : b / 9223372036854775808 = 1
  · simp [h]; omega
  · simp [h]; omega
set_option maxRecDepth 100000 in
set_option maxHeartbeats 1000000 in
/-- straightedgeref01.Scale. -/
theorem rscale_any (b x : Nat) (k : Int) (w : World) (hx : IsF b x) : Calls Try.prog 165 #[.float .f64 b, .int .i64 k] w (fun e w' => ∃ r, e = .returned (.float .f64 r) ∧ IsF r (fscale x k) ∧ w = w') := by
  have hb : b < 18446744073709551616 := hx.1
  by_cases hk : pKind b = 0
  · have e := isF_of_kind hx (by omega)
    subst e
    have hm := pMag_lt b
    have he := pExp_ge b hk
    have hmk : ∀ w', Calls Try.prog 199 #[.bool (pNeg b), .int .u64 (pMag b), .int .i64 (pExp b + kcl k)] w' (fun e w2 => ∃ r, e = .returned (.float .f64 r) ∧ IsF r (fscale b k) ∧ w' = w2) := fun w' => by
      refine (make_any (pNeg b) (pMag b) _ w' hm (by unfold kcl; omega)).mono fun e w2 hh => ?_
      obtain ⟨r, rfl, h1, h2⟩ := hh
      refine ⟨r, rfl, ?_, h2⟩
      have e : mkF (pNeg b) (pMag b) (pExp b + kcl k) = fscale b k := by
        unfold mkF fscale
        by_cases h0 : pMag b = 0
        · rw [if_pos h0, if_neg (by simp [h0])]; exact (word_zero_of hx.1 hk h0).symm
        · rw [if_neg h0, if_pos ⟨hk, h0⟩]
      rwa [e] at h1
    have d0 : ((pKind b : Int) == 0) = true := by rw [hk]; rfl
    have d0' : decide ((pKind b : Int) = 0) = true := by rw [hk]; rfl
    clear hm
    have Hk := hid hk
    clear hk hx
    by_cases c1 : k < -5000
    · have e2 : kcl k = -5000 := by unfold kcl; omega
      have d1 : decide (5000 < k) = false := by simp; omega
      have d2 : decide (k < -5000) = true := by simpa using c1
      rw [e2] at hmk
      have r1 : IntKind.i64.wrap (pExp b + (-5000)) = pExp b + (-5000) := IntWalk.i64_in _ (by omega)
      go_enter Try.func165, Try.ntmps165
      go_wp2_with (first | (go_at_call 116; ((with_reducible refine (parts_any b _ hb).mono ?_); rintro e w1 ⟨rfl, rfl⟩)) | (go_at_call 199; ((with_reducible refine (hmk _).mono ?_); rintro e w1 ⟨r, rfl, hr, rfl⟩)))
      go_ret
      exact ⟨r, rfl, hr, rfl⟩
    · by_cases c2 : 5000 < k
      · have e2 : kcl k = 5000 := by unfold kcl; omega
        have d1 : decide (5000 < k) = true := by simpa using c2
        rw [e2] at hmk
        have r1 : IntKind.i64.wrap (pExp b + 5000) = pExp b + 5000 := IntWalk.i64_in _ (by omega)
        go_enter Try.func165, Try.ntmps165
        go_wp2_with (first | (go_at_call 116; ((with_reducible refine (parts_any b _ hb).mono ?_); rintro e w1 ⟨rfl, rfl⟩)) | (go_at_call 199; ((with_reducible refine (hmk _).mono ?_); rintro e w1 ⟨r, rfl, hr, rfl⟩)))
        go_ret
        exact ⟨r, rfl, hr, rfl⟩
      · have e2 : kcl k = k := by unfold kcl; omega
        have d1 : decide (5000 < k) = false := by simpa using c2
        have d2 : decide (k < -5000) = false := by simpa using c1
        rw [e2] at hmk
        have r1 : IntKind.i64.wrap (pExp b + k) = pExp b + k := IntWalk.i64_in _ (by omega)
        go_enter Try.func165, Try.ntmps165
        go_wp2_with (first | (go_at_call 116; ((with_reducible refine (parts_any b _ hb).mono ?_); rintro e w1 ⟨rfl, rfl⟩)) | (go_at_call 199; ((with_reducible refine (hmk _).mono ?_); rintro e w1 ⟨r, rfl, hr, rfl⟩)))
        go_ret
        exact ⟨r, rfl, hr, rfl⟩
  · have d0 : ((pKind b : Int) == 0) = false := by simp; omega
    have d0' : decide ((pKind b : Int) = 0) = false := by simp; omega
    have e2 : fscale x k = x := by
      unfold fscale
      rw [if_neg]
      intro h2
      rw [← hx.kind] at h2
      exact hk h2.1
    rw [e2]
    have HX := hid hx
    clear hk hx e2
    go_enter Try.func165, Try.ntmps165
    go_wp2_with (first | (go_at_call 116; ((with_reducible refine (parts_any b _ hb).mono ?_); rintro e w1 ⟨rfl, rfl⟩)))
    go_ret
    exact ⟨b, rfl, HX.out, rfl⟩
/-- float64(n + 3). -/
def gF (n : Nat) : Nat := floatOfInt .f64 ((n : Int) + 3)
theorem gF_isF (n : Nat) : IsF (gF n) (gF n) := by
  unfold gF floatOfInt FloatKind.nearest FloatKind.encode FloatKind.format Format.write
  exact nearest_isF _ _ _
def bndAt (n x b : Nat) : Nat := fadd (fadd (fabs x) (fmul (fscale (gF n) (-52)) b)) (fscale (gF n) (-1070))
def bndTo (L M : List Nat) (i : Nat) : List Nat := (List.range i).map fun j => bndAt L.length (L.getD j 0) (M.getD j 0)
def bndL (L M : List Nat) : List Nat := bndTo L M L.length
theorem bndTo_succ (L M : List Nat) (i : Nat) : bndTo L M (i + 1) = bndTo L M i ++ [bndAt L.length (L.getD i 0) (M.getD i 0)] := by unfold bndTo; rw [List.range_succ, List.map_append]; rfl
theorem bndTo_length (L M : List Nat) (i : Nat) : (bndTo L M i).length = i := by simp [bndTo]
theorem bndL_length (L M : List Nat) : (bndL L M).length = L.length := bndTo_length _ _ _
set_option maxRecDepth 100000 in
set_option maxHeartbeats 1000000 in
/-- resid.Bounds, where the lists are not of one length. -/
theorem bounds_no (X Y : Value) (L M : List Nat) (w : World) (hX : FS w X L) (hY : FS w Y M) (hne : M.length ≠ L.length) :
   Calls Try.prog 92 #[X, Y] w (fun e w' => e = .returned (.tuple #[.slice none 0 0, .int .i64 3]) ∧ ∃ o n, w' = ext w o n) := by
  obtain ⟨aX, cX, rfl⟩ := hX.shape
  obtain ⟨aY, cY, rfl⟩ := hY.shape
  have d1 : ((M.length : Int) == (L.length : Int)) = false := by simp; omega
  go_enter Try.func92, Try.ntmps92
  go_wp2
  refine bodyPost_ret (v := .tuple #[.slice none 0 0, .int .i64 3]) (by simp [results, Try.results92, go_sem, *]) rfl ?_
  exact ⟨rfl, #[], w.drawn, ext_zero.symm⟩
set_option maxRecDepth 100000 in
set_option maxHeartbeats 2000000 in
/-- resid.Bounds. -/
theorem bounds_any (X Y : Value) (L M : List Nat) (w : World) (hX : FS w X L) (hY : FS w Y M) (hl : L.length ≤ 1000000) (hlm : M.length = L.length) :
   Calls Try.prog 92 #[X, Y] w (fun e w' => ∃ v, e = .returned (.tuple #[v, .int .i64 0]) ∧ OwnF 22 w' w.heap.size v (bndL L M) ∧ ∃ o n, w' = ext w o n) := by
  obtain ⟨aX, cX, rfl⟩ := hX.shape
  obtain ⟨aY, cY, rfl⟩ := hY.shape
  obtain ⟨N, hN⟩ : ∃ N, N = L.length := ⟨_, rfl⟩
  rw [hlm] at hY ⊢
  rw [← hN] at hX hY hl ⊢
  have r1 : IntKind.i64.wrap ((N : Int) + 3) = N + 3 := IntWalk.i64_in _ (by omega)
  obtain ⟨g, hg⟩ : ∃ g, g = gF N := ⟨_, rfl⟩
  have g1 : floatOfInt .f64 ((N : Int) + 3) = g := hg.symm
  have hgF : IsF g g := by rw [hg]; exact gF_isF N
  have HG := hid hg
  have HLM := hid hlm
  have HNN := hid hN
  clear hg hlm hN
  go_enter Try.func92, Try.ntmps92
  go_wp2_with (first | (go_at_call 162; ((with_reducible refine (nscale_any g g (-52) _ hgF).mono ?_); rintro e w1 ⟨s, rfl, hs, o1, n1, rfl⟩)) | (go_at_call 162; ((with_reducible refine (nscale_any g g (-1070) _ hgF).mono ?_); rintro e w1 ⟨t, rfl, ht, o2, n2, rfl⟩)))
  go_loopw [9, 28] (fun v c wr => ∃ (i : Nat) (o : Array Obj) (n : Nat), i ≤ N ∧ c = .int .i64 i ∧ wr = ext w o n ∧ OwnF 22 wr w.heap.size v (bndTo L M i)) (fun _ c _ => N - (intOf c).toNat)
  case atStart => exact ⟨0, _, _, Nat.zero_le _, rfl, rfl, by simpa [bndTo] using OwnF.nil _ _ _⟩
  case round =>
    obtain ⟨i, o3, n3, hi, rfl, hwr, hown⟩ := hrel
    have gw : Grew w wr := ⟨_, _, hwr⟩
    clear hwr
    by_cases hlt : i < N
    · obtain ⟨blk, o, cap', ex, hblk, hc⟩ := (hX.grew gw).open (by rw [← HNN.out]; omega)
      simp only [Value.slice.injEq] at ex
      obtain ⟨rfl, -, rfl⟩ := ex
      obtain ⟨b, hb, hf⟩ := hc i (by rw [← HNN.out]; omega)
      obtain ⟨blk2, o', cap2, ex, hblk2, hc2⟩ := (hY.grew gw).open (by rw [HLM.out, ← HNN.out]; omega)
      simp only [Value.slice.injEq] at ex
      obtain ⟨rfl, -, rfl⟩ := ex
      obtain ⟨b2, hb2, hf2⟩ := hc2 i (by rw [HLM.out, ← HNN.out]; omega)
      have hll : (bndTo L M i).length = i := bndTo_length _ _ _
      clear hc hc2
      go_wp2
      refine wp_region_F (Grew wr) (.step 0 0 (.step 0 2 (.step 0 3 (.step 0 4 (.step 0 5 (.step 0 6 (.alt 1 (.alt 7 (.alt 8 (.step 0 9 .done) .stop) .stop) (.alt 7 (.alt 1 (.alt 8 (.step 0 9 .done) .stop) .stop) .stop)))))))) (by kernel_rfl) (by kernel_rfl) (fun _ _ _ _ h _ => h) (by first | exact ⟨_, _, ext_drew⟩ | exact ⟨_, _, drew_ext0⟩) ?_
      go_wp2_with (first | ((with_reducible refine wpF_id ?_); first | (refine wpF_take (v := ?_) rfl rfl ?_ ?_; rotate_left; (focus (rintro w' ⟨o', n', rfl⟩; go_simp; try with_reducible rfl)); simp only [Act.put, List.setIfInBounds_toArray, List.set_cons_zero, List.set_cons_succ]) | (refine wpF_alt rfl rfl (fun K hK => ?_) ?_) | (exact wpF_stop) | (refine wpF_done ?_)) | ((with_reducible refine wpF_go ?_ ?_); (focus (show Grew _ _; repeat (first | (with_reducible exact Grew.refl _) | (with_reducible assumption) | (with_reducible refine Grew.ext ?_ _ _) | (with_reducible refine Grew.alloc ?_ _) | ((with_reducible refine Grew.setCell ?_ ?_ _); rotate_left; (focus (dsimp only; omega))) | (with_reducible refine Grew.drewN ?_ _) | (with_reducible refine Grew.drew ?_))))) | ((with_reducible refine upon_id ?_); refine upon_fop rfl (by assumption) (by assumption) ?_; intro rr nn hr) | (go_at_call 164; ((with_reducible refine (mabs_any b _ _ hf).mono ?_); rintro e w1 ⟨ra, rfl, hra, rfl⟩)) | (at_builtin; refine append1_f (W := w) (v := u9) (xs := bndTo L M i) (y := bndAt L.length (L.getD i 0) (M.getD i 0)) finfo ?_ ?_ ?_ ((by rw [hll]; omega)) _ _ rfl rfl rfl ?_ rfl ?_; (focus (refine Grew.trans gw ?_; (show Grew _ _; repeat (first | (with_reducible exact Grew.refl _) | (with_reducible assumption) | (with_reducible refine Grew.ext ?_ _ _) | (with_reducible refine Grew.alloc ?_ _) | ((with_reducible refine Grew.setCell ?_ ?_ _); rotate_left; (focus (dsimp only; first | omega | (simp only [size_ext, World.size_alloc, Array.size_append]; omega)))) | (with_reducible refine Grew.drewN ?_ _) | (with_reducible refine Grew.drew ?_))))); (focus (refine OwnF.grew (w := wr) ?_ ?_; (focus (with_reducible assumption)); (focus (show Grew _ _; repeat (first | (with_reducible exact Grew.refl _) | (with_reducible assumption) | (with_reducible refine Grew.ext ?_ _ _) | (with_reducible refine Grew.alloc ?_ _) | ((with_reducible refine Grew.setCell ?_ ?_ _); rotate_left; (focus (dsimp only; first | omega | (simp only [size_ext, World.size_alloc, Array.size_append]; omega)))) | (with_reducible refine Grew.drewN ?_ _) | (with_reducible refine Grew.drew ?_)))))); (focus (unfold bndAt; rw [← HNN.out, ← HG.out]; exact hr)); (focus (first | rfl | (simp only [size_ext, World.size_alloc, Array.size_append]; done) | (simp only [size_ext, World.size_alloc, Array.size_append]; omega))); intro v oo nn ho hn))
      all_goals (
        go_roundw
        case rel => exact ⟨i + 1, oo, nn, by omega, by go_num, rfl, by rw [bndTo_succ]; exact ho⟩
        case measure => simp [intOf]; omega)
    · have e : i = N := by omega
      subst e
      go_wp2
      refine bodyPost_ret (v := .tuple #[u9, .int .i64 0]) (by simp [results, Try.results92, go_sem, *]) rfl ?_
      exact ⟨_, rfl, by unfold bndL; rw [← HNN.out]; exact hown, by (show Grew _ _; repeat (first | (with_reducible exact Grew.refl _) | (with_reducible assumption) | (with_reducible refine Grew.ext ?_ _ _) | (with_reducible refine Grew.alloc ?_ _) | ((with_reducible refine Grew.setCell ?_ ?_ _); rotate_left; (focus (dsimp only; first | omega | (simp only [size_ext, World.size_alloc, Array.size_append]; omega)))) | (with_reducible refine Grew.drewN ?_ _) | (with_reducible refine Grew.drew ?_)))⟩
end Go.Proofs.Ytcmggfpcbijcjaa
