/-
  Texts laid one behind the other (a claim has at most 60 files): Bnd, Meet2, Trsv1, Ger1, Rest1, Rest2, OwnI, GrewA.
-/
import Derived.Laws.EntriesVeiled
import Derived.Maps.AppendAt
import Derived.Test.YtcmggfpcbijcjaaQResidTells1
import Derived.Test.YtcmggfpcbijcjaaQResidTells2
import Derived.Test.YtcmggfpcbijcjaaQResidTells3
import Derived.Test.YtcmggfpcbijcjaaQResidTells4
section
/-
  Contracts: ref01.Scale; resid.Bounds and its reference.
-/
set_option linter.unusedSimpArgs false
set_option linter.unusedVariables false
open Go Go.RowKit Sedge Ieee
namespace Go.Proofs.Ytcmggfpcbijcjaa
theorem word_zero_of {b : Nat} (hb : b < 2 ^ 64) (hk : pKind b = 0) (hm : pMag b = 0) : b = D64.word (pNeg b) 0 := by
  have p63 : (2:Nat) ^ 63 = 9223372036854775808 := by decide
  have p64 : (2:Nat) ^ 64 = 18446744073709551616 := by decide
  have hSW : SW = 9223372036854775808 := by decide +kernel
  have hBN : BN = 4503599627370496 := by decide +kernel
  have he : expo b = 0 := by
    by_cases h : expo b = 0
    · exact h
    · exfalso
      unfold pMag at hm
      unfold pKind at hk
      rw [hBN] at hm
      by_cases h2 : expo b = 2047
      · rw [if_pos h2] at hk
        split at hk <;> simp at hk
      · simp [h, h2] at hm
  have hf : frac b = 0 := by
    unfold pMag at hm
    simp [he] at hm
    exact hm
  rw [word_sN, p63]
  unfold pNeg sN
  unfold expo frac at *
  rw [hBN] at *
  rw [hSW]
  rw [p64] at hb
  by_cases h : b / 9223372036854775808 = 1
  · simp [h]; omega
  · simp [h]; omega
set_option maxRecDepth 100000 in
set_option maxHeartbeats 1000000 in
/-- straightedgeref01.Scale. -/
theorem rscale_any (b x : Nat) (k : Int) (w : World) (hx : IsF b x) : Calls Try.prog 165 #[.float .f64 b, .int .i64 k] w (fun e w' => ∃ r, e = .returned (.float .f64 r) ∧ IsF r (fscale x k) ∧ w = w') := by
  have hb : b < 18446744073709551616 := hx.1
  by_cases hk : pKind b = 0
  · have e := isF_of_kind hx (by omega)
    subst e
    have hm := pMag_lt b
    have he := pExp_ge b hk
    have hmk : ∀ w', Calls Try.prog 199 #[.bool (pNeg b), .int .u64 (pMag b), .int .i64 (pExp b + kcl k)] w' (fun e w2 => ∃ r, e = .returned (.float .f64 r) ∧ IsF r (fscale b k) ∧ w' = w2) := fun w' => by
      refine (make_any (pNeg b) (pMag b) _ w' hm (by unfold kcl; omega)).mono fun e w2 hh => ?_
      obtain ⟨r, rfl, h1, h2⟩ := hh
      refine ⟨r, rfl, ?_, h2⟩
      have e : mkF (pNeg b) (pMag b) (pExp b + kcl k) = fscale b k := by
        unfold mkF fscale
        by_cases h0 : pMag b = 0
        · rw [if_pos h0, if_neg (by simp [h0])]; exact (word_zero_of hx.1 hk h0).symm
        · rw [if_neg h0, if_pos ⟨hk, h0⟩]
      rwa [e] at h1
    have d0 : ((pKind b : Int) == 0) = true := by rw [hk]; rfl
    have d0' : decide ((pKind b : Int) = 0) = true := by rw [hk]; rfl
    clear hm
    have Hk := hid hk
    clear hk hx
    by_cases c1 : k < -5000
    · have e2 : kcl k = -5000 := by unfold kcl; omega
      have d1 : decide (5000 < k) = false := by simp; omega
      have d2 : decide (k < -5000) = true := by simpa using c1
      rw [e2] at hmk
      have r1 : IntKind.i64.wrap (pExp b + (-5000)) = pExp b + (-5000) := IntWalk.i64_in _ (by omega)
      go_enter Try.func165, Try.ntmps165
      go_wp2_with (first | (go_at_call 116; ((with_reducible refine (parts_any b _ hb).mono ?_); rintro e w1 ⟨rfl, rfl⟩)) | (go_at_call 199; ((with_reducible refine (hmk _).mono ?_); rintro e w1 ⟨r, rfl, hr, rfl⟩)))
      go_ret
      exact ⟨r, rfl, hr, rfl⟩
    · by_cases c2 : 5000 < k
      · have e2 : kcl k = 5000 := by unfold kcl; omega
        have d1 : decide (5000 < k) = true := by simpa using c2
        rw [e2] at hmk
        have r1 : IntKind.i64.wrap (pExp b + 5000) = pExp b + 5000 := IntWalk.i64_in _ (by omega)
        go_enter Try.func165, Try.ntmps165
        go_wp2_with (first | (go_at_call 116; ((with_reducible refine (parts_any b _ hb).mono ?_); rintro e w1 ⟨rfl, rfl⟩)) | (go_at_call 199; ((with_reducible refine (hmk _).mono ?_); rintro e w1 ⟨r, rfl, hr, rfl⟩)))
        go_ret
        exact ⟨r, rfl, hr, rfl⟩
      · have e2 : kcl k = k := by unfold kcl; omega
        have d1 : decide (5000 < k) = false := by simpa using c2
        have d2 : decide (k < -5000) = false := by simpa using c1
        rw [e2] at hmk
        have r1 : IntKind.i64.wrap (pExp b + k) = pExp b + k := IntWalk.i64_in _ (by omega)
        go_enter Try.func165, Try.ntmps165
        go_wp2_with (first | (go_at_call 116; ((with_reducible refine (parts_any b _ hb).mono ?_); rintro e w1 ⟨rfl, rfl⟩)) | (go_at_call 199; ((with_reducible refine (hmk _).mono ?_); rintro e w1 ⟨r, rfl, hr, rfl⟩)))
        go_ret
        exact ⟨r, rfl, hr, rfl⟩
  · have d0 : ((pKind b : Int) == 0) = false := by simp; omega
    have d0' : decide ((pKind b : Int) = 0) = false := by simp; omega
    have e2 : fscale x k = x := by
      unfold fscale
      rw [if_neg]
      intro h2
      rw [← hx.kind] at h2
      exact hk h2.1
    rw [e2]
    have HX := hid hx
    clear hk hx e2
    go_enter Try.func165, Try.ntmps165
    go_wp2_with (first | (go_at_call 116; ((with_reducible refine (parts_any b _ hb).mono ?_); rintro e w1 ⟨rfl, rfl⟩)))
    go_ret
    exact ⟨b, rfl, HX.out, rfl⟩
/-- float64(n + 3). -/
def gF (n : Nat) : Nat := floatOfInt .f64 ((n : Int) + 3)
theorem gF_isF (n : Nat) : IsF (gF n) (gF n) := by
  unfold gF floatOfInt FloatKind.nearest FloatKind.encode FloatKind.format Format.write
  exact nearest_isF _ _ _
def bndAt (n x b : Nat) : Nat := fadd (fadd (fabs x) (fmul (fscale (gF n) (-52)) b)) (fscale (gF n) (-1070))
def bndTo (L M : List Nat) (i : Nat) : List Nat := (List.range i).map fun j => bndAt L.length (L.getD j 0) (M.getD j 0)
def bndL (L M : List Nat) : List Nat := bndTo L M L.length
theorem bndTo_succ (L M : List Nat) (i : Nat) : bndTo L M (i + 1) = bndTo L M i ++ [bndAt L.length (L.getD i 0) (M.getD i 0)] := by unfold bndTo; rw [List.range_succ, List.map_append]; rfl
theorem bndTo_length (L M : List Nat) (i : Nat) : (bndTo L M i).length = i := by simp [bndTo]
theorem bndL_length (L M : List Nat) : (bndL L M).length = L.length := bndTo_length _ _ _
set_option maxRecDepth 100000 in
set_option maxHeartbeats 1000000 in
/-- resid.Bounds, where the lists are not of one length. -/
theorem bounds_no (X Y : Value) (L M : List Nat) (w : World) (hX : FS w X L) (hY : FS w Y M) (hne : M.length ≠ L.length) :
   Calls Try.prog 92 #[X, Y] w (fun e w' => e = .returned (.tuple #[.slice none 0 0, .int .i64 3]) ∧ ∃ o n, w' = ext w o n) := by
  obtain ⟨aX, cX, rfl⟩ := hX.shape
  obtain ⟨aY, cY, rfl⟩ := hY.shape
  have d1 : ((M.length : Int) == (L.length : Int)) = false := by simp; omega
  go_enter Try.func92, Try.ntmps92
  go_wp2
  refine bodyPost_ret (v := .tuple #[.slice none 0 0, .int .i64 3]) (by simp [results, Try.results92, go_sem, *]) rfl ?_
  exact ⟨rfl, #[], w.drawn, ext_zero.symm⟩
set_option maxRecDepth 100000 in
set_option maxHeartbeats 2000000 in
/-- resid.Bounds. -/
theorem bounds_any (X Y : Value) (L M : List Nat) (w : World) (hX : FS w X L) (hY : FS w Y M) (hl : L.length ≤ 1000000) (hlm : M.length = L.length) :
   Calls Try.prog 92 #[X, Y] w (fun e w' => ∃ v, e = .returned (.tuple #[v, .int .i64 0]) ∧ OwnF 22 w' w.heap.size v (bndL L M) ∧ ∃ o n, w' = ext w o n) := by
  obtain ⟨aX, cX, rfl⟩ := hX.shape
  obtain ⟨aY, cY, rfl⟩ := hY.shape
  obtain ⟨N, hN⟩ : ∃ N, N = L.length := ⟨_, rfl⟩
  rw [hlm] at hY ⊢
  rw [← hN] at hX hY hl ⊢
  have r1 : IntKind.i64.wrap ((N : Int) + 3) = N + 3 := IntWalk.i64_in _ (by omega)
  obtain ⟨g, hg⟩ : ∃ g, g = gF N := ⟨_, rfl⟩
  have g1 : floatOfInt .f64 ((N : Int) + 3) = g := hg.symm
  have hgF : IsF g g := by rw [hg]; exact gF_isF N
  have HG := hid hg
  have HLM := hid hlm
  have HNN := hid hN
  clear hg hlm hN
  go_enter Try.func92, Try.ntmps92
  go_wp2_with (first | (go_at_call 162; ((with_reducible refine (nscale_any g g (-52) _ hgF).mono ?_); rintro e w1 ⟨s, rfl, hs, o1, n1, rfl⟩)) | (go_at_call 162; ((with_reducible refine (nscale_any g g (-1070) _ hgF).mono ?_); rintro e w1 ⟨t, rfl, ht, o2, n2, rfl⟩)))
  go_loopw [9, 28] (fun v c wr => ∃ (i : Nat) (o : Array Obj) (n : Nat), i ≤ N ∧ c = .int .i64 i ∧ wr = ext w o n ∧ OwnF 22 wr w.heap.size v (bndTo L M i)) (fun _ c _ => N - (intOf c).toNat)
  case atStart => exact ⟨0, _, _, Nat.zero_le _, rfl, rfl, by simpa [bndTo] using OwnF.nil _ _ _⟩
  case round =>
    obtain ⟨i, o3, n3, hi, rfl, hwr, hown⟩ := hrel
    have gw : Grew w wr := ⟨_, _, hwr⟩
    clear hwr
    by_cases hlt : i < N
    · obtain ⟨blk, o, cap', ex, hblk, hc⟩ := (hX.grew gw).open (by rw [← HNN.out]; omega)
      simp only [Value.slice.injEq] at ex
      obtain ⟨rfl, -, rfl⟩ := ex
      obtain ⟨b, hb, hf⟩ := hc i (by rw [← HNN.out]; omega)
      obtain ⟨blk2, o', cap2, ex, hblk2, hc2⟩ := (hY.grew gw).open (by rw [HLM.out, ← HNN.out]; omega)
      simp only [Value.slice.injEq] at ex
      obtain ⟨rfl, -, rfl⟩ := ex
      obtain ⟨b2, hb2, hf2⟩ := hc2 i (by rw [HLM.out, ← HNN.out]; omega)
      have hll : (bndTo L M i).length = i := bndTo_length _ _ _
      clear hc hc2
      go_wp2
      refine wp_region_F (Grew wr) (.step 0 0 (.step 0 2 (.step 0 3 (.step 0 4 (.step 0 5 (.step 0 6 (.alt 1 (.alt 7 (.alt 8 (.step 0 9 .done) .stop) .stop) (.alt 7 (.alt 1 (.alt 8 (.step 0 9 .done) .stop) .stop) .stop)))))))) (by kernel_rfl) (by kernel_rfl) (fun _ _ _ _ h _ => h) (by first | exact ⟨_, _, ext_drew⟩ | exact ⟨_, _, drew_ext0⟩ | (show Grew _ _; repeat (first | (with_reducible exact Grew.refl _) | (with_reducible assumption) | (with_reducible refine Grew.ext ?_ _ _) | (with_reducible refine Grew.alloc ?_ _) | ((with_reducible refine Grew.setCell ?_ ?_ _); rotate_left; (focus (dsimp only; first | omega | (simp only [size_ext, World.size_alloc, Array.size_append]; omega)))) | (with_reducible refine Grew.drewN ?_ _) | (with_reducible refine Grew.drew ?_)))) ?_
      go_wp2_with (first | ((with_reducible refine wpF_id ?_); first | (refine wpF_take (v := ?_) rfl rfl ?_ ?_; rotate_left; (focus (rintro w' ⟨o', n', rfl⟩; go_simp; try with_reducible rfl)); simp only [Act.put, List.setIfInBounds_toArray, List.set_cons_zero, List.set_cons_succ]) | (refine wpF_alt rfl rfl (fun K hK => ?_) ?_) | (exact wpF_stop) | (refine wpF_done ?_)) | ((with_reducible refine wpF_go ?_ ?_); (focus (show Grew _ _; repeat (first | (with_reducible exact Grew.refl _) | (with_reducible assumption) | (with_reducible refine Grew.ext ?_ _ _) | (with_reducible refine Grew.alloc ?_ _) | ((with_reducible refine Grew.setCell ?_ ?_ _); rotate_left; (focus (dsimp only; omega))) | (with_reducible refine Grew.drewN ?_ _) | (with_reducible refine Grew.drew ?_))))) | ((with_reducible refine upon_id ?_); refine upon_fop rfl (by assumption) (by assumption) ?_; intro rr nn hr) | (go_at_call 164; ((with_reducible refine (mabs_any b _ _ hf).mono ?_); rintro e w1 ⟨ra, rfl, hra, rfl⟩)) | (at_builtin; refine append1_f (W := w) (v := u9) (xs := bndTo L M i) (y := bndAt L.length (L.getD i 0) (M.getD i 0)) finfo ?_ ?_ ?_ ((by rw [hll]; omega)) _ _ rfl rfl rfl ?_ rfl ?_; (focus (refine Grew.trans gw ?_; (show Grew _ _; repeat (first | (with_reducible exact Grew.refl _) | (with_reducible assumption) | (with_reducible refine Grew.ext ?_ _ _) | (with_reducible refine Grew.alloc ?_ _) | ((with_reducible refine Grew.setCell ?_ ?_ _); rotate_left; (focus (dsimp only; first | omega | (simp only [size_ext, World.size_alloc, Array.size_append]; omega)))) | (with_reducible refine Grew.drewN ?_ _) | (with_reducible refine Grew.drew ?_))))); (focus (refine OwnF.grew (w := wr) ?_ ?_; (focus (with_reducible assumption)); (focus (show Grew _ _; repeat (first | (with_reducible exact Grew.refl _) | (with_reducible assumption) | (with_reducible refine Grew.ext ?_ _ _) | (with_reducible refine Grew.alloc ?_ _) | ((with_reducible refine Grew.setCell ?_ ?_ _); rotate_left; (focus (dsimp only; first | omega | (simp only [size_ext, World.size_alloc, Array.size_append]; omega)))) | (with_reducible refine Grew.drewN ?_ _) | (with_reducible refine Grew.drew ?_)))))); (focus (unfold bndAt; rw [← HNN.out, ← HG.out]; exact hr)); (focus (first | rfl | (simp only [size_ext, World.size_alloc, Array.size_append]; done) | (simp only [size_ext, World.size_alloc, Array.size_append]; omega))); intro v oo nn ho hn))
      all_goals (
        go_roundw
        case rel => exact ⟨i + 1, oo, nn, by omega, by go_num, rfl, by rw [bndTo_succ]; exact ho⟩
        case measure => simp [intOf]; omega)
    · have e : i = N := by omega
      subst e
      go_wp2
      refine bodyPost_ret (v := .tuple #[u9, .int .i64 0]) (by simp [results, Try.results92, go_sem, *]) rfl ?_
      exact ⟨_, rfl, by unfold bndL; rw [← HNN.out]; exact hown, by (show Grew _ _; repeat (first | (with_reducible exact Grew.refl _) | (with_reducible assumption) | (with_reducible refine Grew.ext ?_ _ _) | (with_reducible refine Grew.alloc ?_ _) | ((with_reducible refine Grew.setCell ?_ ?_ _); rotate_left; (focus (dsimp only; first | omega | (simp only [size_ext, World.size_alloc, Array.size_append]; omega)))) | (with_reducible refine Grew.drewN ?_ _) | (with_reducible refine Grew.drew ?_)))⟩
end Go.Proofs.Ytcmggfpcbijcjaa
end
section
/-
  Contracts: straightedgeref07.MatSpan, VecSpan; a vector as a matrix of one row (trsv.row); and: meeting is what the document says.
-/
set_option linter.unusedSimpArgs false
set_option linter.unusedVariables false
open Go Go.RowKit Sedge
namespace Go.Proofs.Ytcmggfpcbijcjaa
def vLo (x : VecM) : Int := if x.n = 0 then 0 else x.off
def vHi (x : VecM) : Int := if x.n = 0 then -1 else x.off + (x.n - 1) * x.inc
def mLo (m : MatM) : Int := if m.rows = 0 ∨ m.cols = 0 then 0 else m.off
def mHi (m : MatM) : Int := if m.rows = 0 ∨ m.cols = 0 then -1 else m.off + (m.cols - 1) * m.ld + m.rows - 1
def rowM (x : VecM) : MatM := ⟨x.ws, x.off, 1, x.n, x.inc⟩
theorem rowM_good {x : VecM} (h : x.right = true) : (rowM x).good = true := by
  have hn := VecM.right_n h
  unfold VecM.right at h
  unfold MatM.good rowM
  simp only [Bool.and_eq_true, Bool.or_eq_true, decide_eq_true_eq] at h ⊢
  refine ⟨by omega, ?_⟩
  rcases h.2 with h2 | h2
  · exact .inl (.inr h2)
  · exact .inr (by simpa [fitsB] using h2)
theorem rowM_wf {x : VecM} (h : x.wf) : (rowM x).wf := ⟨h.1, by unfold I64; simp [rowM], h.2.1, h.2.2⟩
/-- Meeting is what the document says. -/
theorem spans_meet {x : VecM} {m : MatM} (hx : x.right = true) (hm : m.good = true) : spansB (vLo x) (vHi x) (mLo m) (mHi m) = meetM (rowM x) m true := by
  have hn := VecM.right_n hx
  have hmn := m.good_n hm
  have hg := rowM_good hx
  by_cases h0 : x.n = 0
  · have f1 : MatM.full (rowM x) = false := by unfold MatM.full; simp [rowM, h0]
    unfold meetM; rw [f1]
    unfold spansB vLo vHi; simp [h0]
  · have f1 : MatM.full (rowM x) = true := by unfold MatM.full; rw [hg]; simp [rowM, h0]
    by_cases h1 : m.rows = 0 ∨ m.cols = 0
    · have f2 : MatM.full m = false := by unfold MatM.full; rw [hm]; rcases h1 with h1 | h1 <;> simp [h1]
      unfold meetM; rw [f2]
      unfold spansB mLo mHi; simp [h1]
    · have f2 : MatM.full m = true := by unfold MatM.full; rw [hm]; simp only [not_or] at h1; simp [h1.1, h1.2]
      have p1 := MatM.full_place f1
      have p2 := MatM.full_place f2
      unfold meetM spanLo spanHi; rw [f1, f2]
      unfold spansB vLo vHi mLo mHi
      simp only [h0, h1, if_false, if_true]
      simp only [rowM] at p1 ⊢
      have e1 : decide (x.off ≤ x.off + (x.n - 1) * x.inc) = true := by simp; omega
      have e2 : decide (m.off ≤ m.off + (m.cols - 1) * m.ld + m.rows - 1) = true := by simp; omega
      rw [e1, e2]
      have e3 : x.off + (x.n - 1) * x.inc + 1 - 1 = x.off + (x.n - 1) * x.inc := by omega
      rw [Bool.eq_iff_iff]
      simp only [Bool.and_eq_true, decide_eq_true_eq, Bool.true_and, true_and]
      constructor
      · rintro ⟨a1, a2⟩
        exact ⟨decide_eq_true a1, decide_eq_true (by show m.off ≤ x.off + (x.n - 1) * x.inc + 1 - 1; omega)⟩
      · rintro ⟨a1, a2⟩
        have a3 : x.off ≤ m.off + (m.cols - 1) * m.ld + m.rows - 1 := of_decide_eq_true a1
        have a4 : m.off ≤ x.off + (x.n - 1) * x.inc + 1 - 1 := of_decide_eq_true a2
        omega
theorem ret_tuple2 {a b a' b' : Int} (h1 : a = a') (h2 : b = b') : Ending.returned (.tuple #[.int .i64 a, .int .i64 b]) = .returned (.tuple #[.int .i64 a', .int .i64 b']) := by rw [h1, h2]
set_option maxRecDepth 100000 in
set_option maxHeartbeats 1000000 in
/-- straightedgeref07.VecSpan. -/
theorem vecSpan_any (x : VecM) (D : Value) (w : World) (hD : FS w D x.ws) (hx : x.right = true) (hwf : x.wf) (hl : x.ws.length ≤ 1000000) :
   Calls Try.prog 58 #[.agg #[D, .int .i64 x.off, .int .i64 x.n, .int .i64 x.inc]] w (fun e w' => e = .returned (.tuple #[.int .i64 (vLo x), .int .i64 (vHi x)]) ∧ ∃ o n, w' = ext w o n) := by
  by_cases h0 : x.n = 0
  · have q1 := hid (show vLo x = 0 by unfold vLo; rw [if_pos h0])
    have q2 := hid (show vHi x = -1 by unfold vHi; rw [if_pos h0])
    have d1 : (x.n == 0) = true := by simpa using h0
    clear h0 hx hwf
    go_enter Try.func58, Try.ntmps58
    refine seq_stop ?_
    go_wp2
    refine stop_go (fun W hW => ?_)
    have s1 : w.heap.size < W.heap.size := by rw [hW]; simp only [World.size_alloc]; omega
    have b1 : ∀ i, W.cell? ⟨w.heap.size, i, none⟩ = (#[D, .int .i64 x.off, .int .i64 x.n, .int .i64 x.inc] : Array Value)[i]? := by intro i; rw [hW]; go_simp
    have g0 : Grew w W := by rw [hW]; exact (Grew.refl _).alloc _
    clear hW
    go_wp2
    refine bodyPost_ret (v := .tuple #[.int .i64 0, .int .i64 (-1)]) (by simp [results, Try.results58, go_sem, *]) rfl ?_
    exact ⟨ret_tuple2 q1.out.symm q2.out.symm, by (show Grew _ _; repeat (first | (with_reducible exact Grew.refl _) | (with_reducible assumption) | (with_reducible refine Grew.ext ?_ _ _) | (with_reducible refine Grew.alloc ?_ _) | ((with_reducible refine Grew.setCell ?_ ?_ _); rotate_left; (focus (dsimp only; first | omega | (simp only [size_ext, World.size_alloc, Array.size_append]; omega)))) | (with_reducible refine Grew.drewN ?_ _) | (with_reducible refine Grew.drew ?_)))⟩
  · have q1 := hid (show vLo x = x.off by unfold vLo; rw [if_neg h0])
    have q2 := hid (show vHi x = x.off + (x.n - 1) * x.inc by unfold vHi; rw [if_neg h0])
    have d1 : (x.n == 0) = false := by simpa using h0
    have hn := VecM.right_n hx
    have hp := VecM.right_place hx (i := (x.n - 1).toNat) (by omega)
    rw [Int.toNat_of_nonneg (by omega)] at hp
    obtain ⟨i1, i2, i3⟩ := hwf
    unfold I64 at i1 i2 i3
    have r1 : IntKind.i64.wrap (x.n - 1) = x.n - 1 := IntWalk.i64_in _ (by omega)
    have r2 : IntKind.i64.wrap ((x.n - 1) * x.inc) = (x.n - 1) * x.inc := IntWalk.i64_in _ (by omega)
    have r3 : IntKind.i64.wrap (x.off + (x.n - 1) * x.inc) = x.off + (x.n - 1) * x.inc := IntWalk.i64_in _ (by omega)
    clear h0 hx
    go_enter Try.func58, Try.ntmps58
    refine seq_stop ?_
    go_wp2
    refine stop_go (fun W hW => ?_)
    have s1 : w.heap.size < W.heap.size := by rw [hW]; simp only [World.size_alloc]; omega
    have b1 : ∀ i, W.cell? ⟨w.heap.size, i, none⟩ = (#[D, .int .i64 x.off, .int .i64 x.n, .int .i64 x.inc] : Array Value)[i]? := by intro i; rw [hW]; go_simp
    have g0 : Grew w W := by rw [hW]; exact (Grew.refl _).alloc _
    clear hW
    go_wp2
    refine wp_region_R (Grew W) [] [(0,0), (0,1), (0,2), (0,3), (0,4), (0,5), (0,6), (0,7), (0,8), (0,9), (0,10), (0,11), (0,12)] (by kernel_rfl) (by kernel_rfl) (fun _ _ _ _ h _ => h) (by first | exact ⟨_, _, ext_drew⟩ | exact ⟨_, _, drew_ext0⟩ | (show Grew _ _; repeat (first | (with_reducible exact Grew.refl _) | (with_reducible assumption) | (with_reducible refine Grew.ext ?_ _ _) | (with_reducible refine Grew.alloc ?_ _) | ((with_reducible refine Grew.setCell ?_ ?_ _); rotate_left; (focus (dsimp only; first | omega | (simp only [size_ext, World.size_alloc, Array.size_append]; omega)))) | (with_reducible refine Grew.drewN ?_ _) | (with_reducible refine Grew.drew ?_)))) ?_
    go_wp2_with (first | ((with_reducible refine wpR_id ?_); first | (refine wpR_take (v := ?_) rfl rfl ?_ ?_; rotate_left; (focus (rintro w' ⟨o', n', rfl⟩; go_simp; try with_reducible rfl)); simp only [Act.put, List.setIfInBounds_toArray, List.set_cons_zero, List.set_cons_succ]) | (refine wpR_pure (v := ?_) rfl rfl ?_ ?_; rotate_left; (focus (intro w'; go_simp; try with_reducible rfl)); simp only [Act.put, List.setIfInBounds_toArray, List.set_cons_zero, List.set_cons_succ]) | (refine wpR_takeG (v := ?_) rfl rfl rfl rfl rfl ?_ ?_; rotate_left; (focus (rintro w' ⟨o', n', rfl⟩; go_simp; try with_reducible rfl)); simp only [Act.put, List.setIfInBounds_toArray, List.set_cons_zero, List.set_cons_succ]) | (refine wpR_skip rfl rfl rfl rfl rfl rfl ?_; simp only [Act.put, List.setIfInBounds_toArray, List.set_cons_zero, List.set_cons_succ]) | (refine wpR_skipU rfl rfl rfl rfl rfl ?_; simp only [Act.put, List.setIfInBounds_toArray, List.set_cons_zero, List.set_cons_succ]) | (refine wpR_do rfl rfl (fun K hK => ?_)) | (refine wpR_doG rfl rfl rfl rfl rfl (fun K hK => ?_)) | (refine wpR_last rfl rfl (fun K hK => ?_)) | (refine wpR_nil ?_)) | ((with_reducible refine wpR_go ?_ ?_); (focus exact ⟨_, _, rfl⟩)) | ((with_reducible refine upon_id ?_); refine upon_fop rfl (by assumption) (by assumption) ?_; intro rr nn hr))
    refine bodyPost_ret (v := .tuple #[.int .i64 x.off, .int .i64 (x.off + (x.n - 1) * x.inc)]) (by simp [results, Try.results58, go_sem, *]) rfl ?_
    exact ⟨ret_tuple2 q1.out.symm q2.out.symm, by (show Grew _ _; repeat (first | (with_reducible exact Grew.refl _) | (with_reducible assumption) | (with_reducible refine Grew.ext ?_ _ _) | (with_reducible refine Grew.alloc ?_ _) | ((with_reducible refine Grew.setCell ?_ ?_ _); rotate_left; (focus (dsimp only; first | omega | (simp only [size_ext, World.size_alloc, Array.size_append]; omega)))) | (with_reducible refine Grew.drewN ?_ _) | (with_reducible refine Grew.drew ?_)))⟩
set_option maxRecDepth 100000 in
set_option maxHeartbeats 1000000 in
/-- straightedgeref07.MatSpan. -/
theorem matSpan_any (x : MatM) (D : Value) (w : World) (hD : FS w D x.ws) (hx : x.good = true) (hwf : x.wf) (hl : x.ws.length ≤ 1000000) :
   Calls Try.prog 57 #[.agg #[D, .int .i64 x.off, .int .i64 x.rows, .int .i64 x.cols, .int .i64 x.ld]] w (fun e w' => e = .returned (.tuple #[.int .i64 (mLo x), .int .i64 (mHi x)]) ∧ ∃ o n, w' = ext w o n) := by
  by_cases h0 : x.rows = 0
  · have q1 := hid (show mLo x = 0 by unfold mLo; rw [if_pos (.inl h0)])
    have q2 := hid (show mHi x = -1 by unfold mHi; rw [if_pos (.inl h0)])
    have d1 : (x.rows == 0) = true := by simpa using h0
    clear h0 hx hwf
    go_enter Try.func57, Try.ntmps57
    refine seq_stop ?_
    go_wp2
    refine stop_go (fun W hW => ?_)
    have s1 : w.heap.size < W.heap.size := by rw [hW]; simp only [World.size_alloc]; omega
    have b1 : ∀ i, W.cell? ⟨w.heap.size, i, none⟩ = (#[D, .int .i64 x.off, .int .i64 x.rows, .int .i64 x.cols, .int .i64 x.ld] : Array Value)[i]? := by intro i; rw [hW]; go_simp
    have g0 : Grew w W := by rw [hW]; exact (Grew.refl _).alloc _
    clear hW
    go_wp2
    refine bodyPost_ret (v := .tuple #[.int .i64 0, .int .i64 (-1)]) (by simp [results, Try.results57, go_sem, *]) rfl ?_
    exact ⟨ret_tuple2 q1.out.symm q2.out.symm, by (show Grew _ _; repeat (first | (with_reducible exact Grew.refl _) | (with_reducible assumption) | (with_reducible refine Grew.ext ?_ _ _) | (with_reducible refine Grew.alloc ?_ _) | ((with_reducible refine Grew.setCell ?_ ?_ _); rotate_left; (focus (dsimp only; first | omega | (simp only [size_ext, World.size_alloc, Array.size_append]; omega)))) | (with_reducible refine Grew.drewN ?_ _) | (with_reducible refine Grew.drew ?_)))⟩
  · have d1 : (x.rows == 0) = false := by simpa using h0
    by_cases h1 : x.cols = 0
    · have q1 := hid (show mLo x = 0 by unfold mLo; rw [if_pos (.inr h1)])
      have q2 := hid (show mHi x = -1 by unfold mHi; rw [if_pos (.inr h1)])
      have d2 : (x.cols == 0) = true := by simpa using h1
      clear h0 h1 hx hwf
      go_enter Try.func57, Try.ntmps57
      refine seq_stop ?_
      go_wp2
      refine stop_go (fun W hW => ?_)
      have s1 : w.heap.size < W.heap.size := by rw [hW]; simp only [World.size_alloc]; omega
      have b1 : ∀ i, W.cell? ⟨w.heap.size, i, none⟩ = (#[D, .int .i64 x.off, .int .i64 x.rows, .int .i64 x.cols, .int .i64 x.ld] : Array Value)[i]? := by intro i; rw [hW]; go_simp
      have g0 : Grew w W := by rw [hW]; exact (Grew.refl _).alloc _
      clear hW
      go_wp2
      refine bodyPost_ret (v := .tuple #[.int .i64 0, .int .i64 (-1)]) (by simp [results, Try.results57, go_sem, *]) rfl ?_
      exact ⟨ret_tuple2 q1.out.symm q2.out.symm, by (show Grew _ _; repeat (first | (with_reducible exact Grew.refl _) | (with_reducible assumption) | (with_reducible refine Grew.ext ?_ _ _) | (with_reducible refine Grew.alloc ?_ _) | ((with_reducible refine Grew.setCell ?_ ?_ _); rotate_left; (focus (dsimp only; first | omega | (simp only [size_ext, World.size_alloc, Array.size_append]; omega)))) | (with_reducible refine Grew.drewN ?_ _) | (with_reducible refine Grew.drew ?_)))⟩
    · have d2 : (x.cols == 0) = false := by simpa using h1
      have h2 : ¬ (x.rows = 0 ∨ x.cols = 0) := fun h => h.elim h0 h1
      have q1 := hid (show mLo x = x.off by unfold mLo; rw [if_neg h2])
      have q2 := hid (show mHi x = x.off + (x.cols - 1) * x.ld + x.rows - 1 by unfold mHi; rw [if_neg h2])
      have hp := MatM.full_place (m := x) (by unfold MatM.full; rw [hx, d1, d2]; rfl)
      obtain ⟨i1, i2, i3, i4⟩ := hwf
      unfold I64 at i1 i2 i3 i4
      have r1 : IntKind.i64.wrap (x.cols - 1) = x.cols - 1 := IntWalk.i64_in _ (by omega)
      have r2 : IntKind.i64.wrap ((x.cols - 1) * x.ld) = (x.cols - 1) * x.ld := IntWalk.i64_in _ (by omega)
      have r3 : IntKind.i64.wrap (x.off + (x.cols - 1) * x.ld) = x.off + (x.cols - 1) * x.ld := IntWalk.i64_in _ (by omega)
      have r4 : IntKind.i64.wrap (x.off + (x.cols - 1) * x.ld + x.rows) = x.off + (x.cols - 1) * x.ld + x.rows := IntWalk.i64_in _ (by omega)
      have r5 : IntKind.i64.wrap (x.off + (x.cols - 1) * x.ld + x.rows - 1) = x.off + (x.cols - 1) * x.ld + x.rows - 1 := IntWalk.i64_in _ (by omega)
      clear h0 h1 h2 hx
      go_enter Try.func57, Try.ntmps57
      refine seq_stop ?_
      go_wp2
      refine stop_go (fun W hW => ?_)
      have s1 : w.heap.size < W.heap.size := by rw [hW]; simp only [World.size_alloc]; omega
      have b1 : ∀ i, W.cell? ⟨w.heap.size, i, none⟩ = (#[D, .int .i64 x.off, .int .i64 x.rows, .int .i64 x.cols, .int .i64 x.ld] : Array Value)[i]? := by intro i; rw [hW]; go_simp
      have g0 : Grew w W := by rw [hW]; exact (Grew.refl _).alloc _
      clear hW
      go_wp2
      refine wp_region_R (Grew W) [] [(0,0), (0,1), (0,2), (0,3), (0,4), (0,5), (0,6), (0,7), (0,8), (0,9), (0,10), (0,11), (0,12), (0,13), (0,14), (0,15), (0,16)] (by kernel_rfl) (by kernel_rfl) (fun _ _ _ _ h _ => h) (by first | exact ⟨_, _, ext_drew⟩ | exact ⟨_, _, drew_ext0⟩ | (show Grew _ _; repeat (first | (with_reducible exact Grew.refl _) | (with_reducible assumption) | (with_reducible refine Grew.ext ?_ _ _) | (with_reducible refine Grew.alloc ?_ _) | ((with_reducible refine Grew.setCell ?_ ?_ _); rotate_left; (focus (dsimp only; first | omega | (simp only [size_ext, World.size_alloc, Array.size_append]; omega)))) | (with_reducible refine Grew.drewN ?_ _) | (with_reducible refine Grew.drew ?_)))) ?_
      go_wp2_with (first | ((with_reducible refine wpR_id ?_); first | (refine wpR_take (v := ?_) rfl rfl ?_ ?_; rotate_left; (focus (rintro w' ⟨o', n', rfl⟩; go_simp; try with_reducible rfl)); simp only [Act.put, List.setIfInBounds_toArray, List.set_cons_zero, List.set_cons_succ]) | (refine wpR_pure (v := ?_) rfl rfl ?_ ?_; rotate_left; (focus (intro w'; go_simp; try with_reducible rfl)); simp only [Act.put, List.setIfInBounds_toArray, List.set_cons_zero, List.set_cons_succ]) | (refine wpR_takeG (v := ?_) rfl rfl rfl rfl rfl ?_ ?_; rotate_left; (focus (rintro w' ⟨o', n', rfl⟩; go_simp; try with_reducible rfl)); simp only [Act.put, List.setIfInBounds_toArray, List.set_cons_zero, List.set_cons_succ]) | (refine wpR_skip rfl rfl rfl rfl rfl rfl ?_; simp only [Act.put, List.setIfInBounds_toArray, List.set_cons_zero, List.set_cons_succ]) | (refine wpR_skipU rfl rfl rfl rfl rfl ?_; simp only [Act.put, List.setIfInBounds_toArray, List.set_cons_zero, List.set_cons_succ]) | (refine wpR_do rfl rfl (fun K hK => ?_)) | (refine wpR_doG rfl rfl rfl rfl rfl (fun K hK => ?_)) | (refine wpR_last rfl rfl (fun K hK => ?_)) | (refine wpR_nil ?_)) | ((with_reducible refine wpR_go ?_ ?_); (focus exact ⟨_, _, rfl⟩)) | ((with_reducible refine upon_id ?_); refine upon_fop rfl (by assumption) (by assumption) ?_; intro rr nn hr))
      refine bodyPost_ret (v := .tuple #[.int .i64 x.off, .int .i64 (x.off + (x.cols - 1) * x.ld + x.rows - 1)]) (by simp [results, Try.results57, go_sem, *]) rfl ?_
      exact ⟨ret_tuple2 q1.out.symm q2.out.symm, by (show Grew _ _; repeat (first | (with_reducible exact Grew.refl _) | (with_reducible assumption) | (with_reducible refine Grew.ext ?_ _ _) | (with_reducible refine Grew.alloc ?_ _) | ((with_reducible refine Grew.setCell ?_ ?_ _); rotate_left; (focus (dsimp only; first | omega | (simp only [size_ext, World.size_alloc, Array.size_append]; omega)))) | (with_reducible refine Grew.drewN ?_ _) | (with_reducible refine Grew.drew ?_)))⟩
set_option maxRecDepth 100000 in
set_option maxHeartbeats 1000000 in
/-- trsv.row. -/
theorem trow_any (x : VecM) (a : Option Addr) (l c : Nat) (w : World) :
   Calls Try.prog 152 #[.agg #[.slice a l c, .int .i64 x.off, .int .i64 x.n, .int .i64 x.inc]] w (fun e w' => e = .returned (.agg #[.slice a l c, .int .i64 x.off, .int .i64 1, .int .i64 x.n, .int .i64 x.inc]) ∧ ∃ o n, w' = ext w o n) := by
  go_enter Try.func152, Try.ntmps152
  refine seq_stop ?_
  go_wp2
  refine stop_go (fun W hW => ?_)
  have s1 : w.heap.size < W.heap.size := by rw [hW]; simp only [World.size_alloc]; omega
  have b1 : ∀ i, W.cell? ⟨w.heap.size, i, none⟩ = (#[.slice a l c, .int .i64 x.off, .int .i64 x.n, .int .i64 x.inc] : Array Value)[i]? := by intro i; rw [hW]; go_simp
  have f1 : ∀ i, W.frozen? ⟨w.heap.size, i, none⟩ = false := by intro i; rw [hW]; go_simp
  have s2 : w.heap.size + 1 < W.heap.size := by rw [hW]; simp only [World.size_alloc]; omega
  have b2 : ∀ i, W.cell? ⟨w.heap.size + 1, i, none⟩ = (#[.slice none 0 0, .int .i64 0, .int .i64 0, .int .i64 0, .int .i64 0] : Array Value)[i]? := by intro i; rw [hW]; go_simp
  have f2 : ∀ i, W.frozen? ⟨w.heap.size + 1, i, none⟩ = false := by intro i; rw [hW]; go_simp
  have g0 : Grew w W := by rw [hW]; exact ((Grew.refl _).alloc _).alloc _
  clear hW
  go_wp2
  refine bodyPost_ret (v := .agg #[.slice a l c, .int .i64 x.off, .int .i64 1, .int .i64 x.n, .int .i64 x.inc]) (by simp [results, Try.results152, go_sem, *]) rfl ?_
  exact ⟨rfl, by (show Grew _ _; repeat (first | (with_reducible exact Grew.refl _) | (with_reducible assumption) | (with_reducible refine Grew.ext ?_ _ _) | (with_reducible refine Grew.alloc ?_ _) | ((with_reducible refine Grew.setCell ?_ ?_ _); rotate_left; (focus (dsimp only; first | omega | (simp only [size_ext, World.size_alloc, Array.size_append]; omega)))) | (with_reducible refine Grew.drewN ?_ _) | (with_reducible refine Grew.drew ?_)))⟩
end Go.Proofs.Ytcmggfpcbijcjaa
end
section
/-
  Contracts: view.place, view.At; trsv.square, zero; the system's num, at, less.
-/
set_option linter.unusedSimpArgs false
set_option linter.unusedVariables false
open Go Go.RowKit Sedge
namespace Go.Proofs.Ytcmggfpcbijcjaa
set_option maxRecDepth 100000 in
set_option maxHeartbeats 1000000 in
/-- view.place, within. -/
theorem place_any (x : MatM) (D : Value) (i j : Nat) (w : World) (hD : FS w D x.ws) (hx : x.good = true) (hwf : x.wf) (hi : (i : Int) < x.rows) (hj : (j : Int) < x.cols) (hl : x.ws.length ≤ 1000000) :
   Calls Try.prog 159 #[.agg #[D, .int .i64 x.off, .int .i64 x.rows, .int .i64 x.cols, .int .i64 x.ld], .int .i64 i, .int .i64 j] w (fun e w' => e = .returned (.int .i64 (x.off + i + j * x.ld)) ∧ ∃ o n, w' = ext w o n) := by
  have Hw := hid hwf
  have hp := MatM.good_place hx hi hj
  have hn := x.good_n hx
  have r1 : IntKind.i64.wrap (x.off + i) = x.off + i := IntWalk.i64_in _ (by omega)
  have r2 : IntKind.i64.wrap (j * x.ld) = j * x.ld := IntWalk.i64_in _ (by omega)
  have r3 : IntKind.i64.wrap (x.off + i + j * x.ld) = x.off + i + j * x.ld := IntWalk.i64_in _ (by omega)
  have d1 : decide ((i : Int) < 0) = false := by simp
  have d2 : decide ((j : Int) < 0) = false := by simp
  have d3 : decide (x.rows ≤ (i : Int)) = false := by simp; omega
  have d4 : decide (x.cols ≤ (j : Int)) = false := by simp; omega
  clear hwf
  go_enter Try.func159, Try.ntmps159
  refine seq_stop ?_
  go_wp2
  refine stop_go (fun W hW => ?_)
  have s1 : w.heap.size < W.heap.size := by rw [hW]; simp only [World.size_alloc]; omega
  have b1 : ∀ i, W.cell? ⟨w.heap.size, i, none⟩ = (#[D, .int .i64 x.off, .int .i64 x.rows, .int .i64 x.cols, .int .i64 x.ld] : Array Value)[i]? := by intro i; rw [hW]; go_simp
  have g0 : Grew w W := by rw [hW]; exact (Grew.refl _).alloc _
  clear hW
  have hDW := hD.grew g0
  go_wp2_with (first | (go_at_call 130; ((with_reducible refine (good_any x _ _ ?_ Hw.out).mono ?_); (focus (first | (with_reducible assumption) | (with_reducible refine FS.ext ?_ _ _; with_reducible assumption) | (with_reducible refine IS.ext ?_ _ _; with_reducible assumption) | (refine hDu _ ?_; with_reducible assumption) | (refine hOu _ ?_; with_reducible assumption) | (refine hDa _ ?_; with_reducible assumption) | (refine hDb _ ?_; with_reducible assumption) | (refine hDc _ ?_; with_reducible assumption) | (refine hDd _ ?_; with_reducible assumption) | (refine FW.fs ?_ (by omega) _; with_reducible assumption) | (refine WS.fs ?_; with_reducible assumption) | (refine FW.fs ?_ (by omega) _; assumption) | omega | assumption)); rintro e w1 ⟨rfl, o1, n1, rfl⟩)))
  go_ret
  exact ⟨rfl, by (show Grew _ _; repeat (first | (with_reducible exact Grew.refl _) | (with_reducible assumption) | (with_reducible refine Grew.ext ?_ _ _) | (with_reducible refine Grew.alloc ?_ _) | ((with_reducible refine Grew.setCell ?_ ?_ _); rotate_left; (focus (dsimp only; first | omega | (simp only [size_ext, World.size_alloc, Array.size_append]; omega)))) | (with_reducible refine Grew.drewN ?_ _) | (with_reducible refine Grew.drew ?_)))⟩
set_option maxRecDepth 100000 in
set_option maxHeartbeats 1000000 in
/-- view.At, within. -/
theorem vat_any (x : MatM) (D : Value) (i j : Nat) (w : World) (hD : FS w D x.ws) (hx : x.good = true) (hwf : x.wf) (hi : (i : Int) < x.rows) (hj : (j : Int) < x.cols) (hl : x.ws.length ≤ 1000000) :
   Calls Try.prog 186 #[.agg #[D, .int .i64 x.off, .int .i64 x.rows, .int .i64 x.cols, .int .i64 x.ld], .int .i64 i, .int .i64 j] w (fun e w' => ∃ b, e = .returned (.float .f64 b) ∧ IsF b (x.num i j) ∧ ∃ o n, w' = ext w o n) := by
  have hp := MatM.good_place hx hi hj
  obtain ⟨blk, o, cap, rfl, hblk, hc⟩ := hD.open (by omega)
  have hpl : ∀ w', FS w' (.slice (some ⟨blk, o, none⟩) x.ws.length cap) x.ws → Calls Try.prog 159 #[.agg #[.slice (some ⟨blk, o, none⟩) x.ws.length cap, .int .i64 x.off, .int .i64 x.rows, .int .i64 x.cols, .int .i64 x.ld], .int .i64 i, .int .i64 j] w' (fun e w2 => e = .returned (.int .i64 (x.off + i + j * x.ld)) ∧ ∃ o n, w2 = ext w' o n) := fun w' h => place_any x _ i j w' h hx hwf hi hj hl
  obtain ⟨b, hb0, hf⟩ := hc (x.place i j) (by unfold MatM.place; omega)
  have hf' : IsF b (x.num i j) := hf
  unfold MatM.place at hb0
  have d0 : decide (0 ≤ x.off + i + j * x.ld) = true := by simp; omega
  clear hx hwf hc
  go_enter Try.func186, Try.ntmps186
  refine seq_stop ?_
  go_wp2
  refine stop_go (fun W hW => ?_)
  have s1 : w.heap.size < W.heap.size := by rw [hW]; simp only [World.size_alloc]; omega
  have b1 : ∀ i, W.cell? ⟨w.heap.size, i, none⟩ = (#[.slice (some ⟨blk, o, none⟩) x.ws.length cap, .int .i64 x.off, .int .i64 x.rows, .int .i64 x.cols, .int .i64 x.ld] : Array Value)[i]? := by intro i; rw [hW]; go_simp
  have g0 : Grew w W := by rw [hW]; exact (Grew.refl _).alloc _
  clear hW
  have hDW := hD.grew g0
  have hb := (g0.cell hblk).trans hb0
  have kb : blk < W.heap.size := by omega
  go_wp2_with (first | (go_at_call 159; ((with_reducible refine (hpl _ ?_).mono ?_); (focus (first | (with_reducible assumption) | (with_reducible refine FS.ext ?_ _ _; with_reducible assumption) | (with_reducible refine IS.ext ?_ _ _; with_reducible assumption) | (refine hDu _ ?_; with_reducible assumption) | (refine hOu _ ?_; with_reducible assumption) | (refine hDa _ ?_; with_reducible assumption) | (refine hDb _ ?_; with_reducible assumption) | (refine hDc _ ?_; with_reducible assumption) | (refine hDd _ ?_; with_reducible assumption) | (refine FW.fs ?_ (by omega) _; with_reducible assumption) | (refine WS.fs ?_; with_reducible assumption) | (refine FW.fs ?_ (by omega) _; assumption) | omega | assumption)); rintro e w1 ⟨rfl, o1, n1, rfl⟩)))
  go_ret
  exact ⟨b, rfl, hf', by (show Grew _ _; repeat (first | (with_reducible exact Grew.refl _) | (with_reducible assumption) | (with_reducible refine Grew.ext ?_ _ _) | (with_reducible refine Grew.alloc ?_ _) | ((with_reducible refine Grew.setCell ?_ ?_ _); rotate_left; (focus (dsimp only; first | omega | (simp only [size_ext, World.size_alloc, Array.size_append]; omega)))) | (with_reducible refine Grew.drewN ?_ _) | (with_reducible refine Grew.drew ?_)))⟩
def sqE (k : Int) (x : MatM) (n : Int) : Int := if k < 1 ∨ 4 < k ∨ x.good = false then 1 else if x.rows = x.cols ∧ x.rows = n then 0 else 3
set_option maxRecDepth 100000 in
set_option maxHeartbeats 1000000 in
/-- trsv.square. -/
theorem square_any (k : Int) (x : MatM) (D : Value) (n : Int) (w : World) (hD : FS w D x.ws) (hwf : x.wf) :
   Calls Try.prog 151 #[.int .i64 k, .agg #[D, .int .i64 x.off, .int .i64 x.rows, .int .i64 x.cols, .int .i64 x.ld], .int .i64 n] w (fun e w' => e = .returned (.int .i64 (sqE k x n)) ∧ ∃ o n, w' = ext w o n) := by
  have Hw := hid hwf
  clear hwf
  by_cases k1 : k < 1
  · have q := hid (show sqE k x n = 1 by unfold sqE; rw [if_pos (.inl k1)])
    have d1 : decide (k < 1) = true := by simpa using k1
    go_enter Try.func151, Try.ntmps151
    refine seq_stop ?_
    go_wp2
    refine stop_go (fun W hW => ?_)
    have s1 : w.heap.size < W.heap.size := by rw [hW]; simp only [World.size_alloc]; omega
    have b1 : ∀ i, W.cell? ⟨w.heap.size, i, none⟩ = (#[D, .int .i64 x.off, .int .i64 x.rows, .int .i64 x.cols, .int .i64 x.ld] : Array Value)[i]? := by intro i; rw [hW]; go_simp
    have g0 : Grew w W := by rw [hW]; exact (Grew.refl _).alloc _
    clear hW
    have hDW := hD.grew g0
    go_wp2_with (first | (go_at_call 130; ((with_reducible refine (good_any x _ _ ?_ Hw.out).mono ?_); (focus (first | (with_reducible assumption) | (with_reducible refine FS.ext ?_ _ _; with_reducible assumption) | (with_reducible refine IS.ext ?_ _ _; with_reducible assumption) | (refine hDu _ ?_; with_reducible assumption) | (refine hOu _ ?_; with_reducible assumption) | (refine hDa _ ?_; with_reducible assumption) | (refine hDb _ ?_; with_reducible assumption) | (refine hDc _ ?_; with_reducible assumption) | (refine hDd _ ?_; with_reducible assumption) | (refine FW.fs ?_ (by omega) _; with_reducible assumption) | (refine WS.fs ?_; with_reducible assumption) | (refine FW.fs ?_ (by omega) _; assumption) | omega | assumption)); rintro e w1 ⟨rfl, o1, n1, rfl⟩)))
    go_ret
    exact ⟨ret_int q.out.symm, by (show Grew _ _; repeat (first | (with_reducible exact Grew.refl _) | (with_reducible assumption) | (with_reducible refine Grew.ext ?_ _ _) | (with_reducible refine Grew.alloc ?_ _) | ((with_reducible refine Grew.setCell ?_ ?_ _); rotate_left; (focus (dsimp only; first | omega | (simp only [size_ext, World.size_alloc, Array.size_append]; omega)))) | (with_reducible refine Grew.drewN ?_ _) | (with_reducible refine Grew.drew ?_)))⟩
  · have d1 : decide (k < 1) = false := by simpa using k1
    by_cases k2 : 4 < k
    · have q := hid (show sqE k x n = 1 by unfold sqE; rw [if_pos (.inr (.inl k2))])
      have d2 : decide (4 < k) = true := by simpa using k2
      go_enter Try.func151, Try.ntmps151
      refine seq_stop ?_
      go_wp2
      refine stop_go (fun W hW => ?_)
      have s1 : w.heap.size < W.heap.size := by rw [hW]; simp only [World.size_alloc]; omega
      have b1 : ∀ i, W.cell? ⟨w.heap.size, i, none⟩ = (#[D, .int .i64 x.off, .int .i64 x.rows, .int .i64 x.cols, .int .i64 x.ld] : Array Value)[i]? := by intro i; rw [hW]; go_simp
      have g0 : Grew w W := by rw [hW]; exact (Grew.refl _).alloc _
      clear hW
      have hDW := hD.grew g0
      go_wp2_with (first | (go_at_call 130; ((with_reducible refine (good_any x _ _ ?_ Hw.out).mono ?_); (focus (first | (with_reducible assumption) | (with_reducible refine FS.ext ?_ _ _; with_reducible assumption) | (with_reducible refine IS.ext ?_ _ _; with_reducible assumption) | (refine hDu _ ?_; with_reducible assumption) | (refine hOu _ ?_; with_reducible assumption) | (refine hDa _ ?_; with_reducible assumption) | (refine hDb _ ?_; with_reducible assumption) | (refine hDc _ ?_; with_reducible assumption) | (refine hDd _ ?_; with_reducible assumption) | (refine FW.fs ?_ (by omega) _; with_reducible assumption) | (refine WS.fs ?_; with_reducible assumption) | (refine FW.fs ?_ (by omega) _; assumption) | omega | assumption)); rintro e w1 ⟨rfl, o1, n1, rfl⟩)))
      go_ret
      exact ⟨ret_int q.out.symm, by (show Grew _ _; repeat (first | (with_reducible exact Grew.refl _) | (with_reducible assumption) | (with_reducible refine Grew.ext ?_ _ _) | (with_reducible refine Grew.alloc ?_ _) | ((with_reducible refine Grew.setCell ?_ ?_ _); rotate_left; (focus (dsimp only; first | omega | (simp only [size_ext, World.size_alloc, Array.size_append]; omega)))) | (with_reducible refine Grew.drewN ?_ _) | (with_reducible refine Grew.drew ?_)))⟩
    · have d2 : decide (4 < k) = false := by simpa using k2
      cases hg : x.good
      · have q := hid (show sqE k x n = 1 by unfold sqE; rw [if_pos (.inr (.inr hg))])
        go_enter Try.func151, Try.ntmps151
        refine seq_stop ?_
        go_wp2
        refine stop_go (fun W hW => ?_)
        have s1 : w.heap.size < W.heap.size := by rw [hW]; simp only [World.size_alloc]; omega
        have b1 : ∀ i, W.cell? ⟨w.heap.size, i, none⟩ = (#[D, .int .i64 x.off, .int .i64 x.rows, .int .i64 x.cols, .int .i64 x.ld] : Array Value)[i]? := by intro i; rw [hW]; go_simp
        have g0 : Grew w W := by rw [hW]; exact (Grew.refl _).alloc _
        clear hW
        have hDW := hD.grew g0
        go_wp2_with (first | (go_at_call 130; ((with_reducible refine (good_any x _ _ ?_ Hw.out).mono ?_); (focus (first | (with_reducible assumption) | (with_reducible refine FS.ext ?_ _ _; with_reducible assumption) | (with_reducible refine IS.ext ?_ _ _; with_reducible assumption) | (refine hDu _ ?_; with_reducible assumption) | (refine hOu _ ?_; with_reducible assumption) | (refine hDa _ ?_; with_reducible assumption) | (refine hDb _ ?_; with_reducible assumption) | (refine hDc _ ?_; with_reducible assumption) | (refine hDd _ ?_; with_reducible assumption) | (refine FW.fs ?_ (by omega) _; with_reducible assumption) | (refine WS.fs ?_; with_reducible assumption) | (refine FW.fs ?_ (by omega) _; assumption) | omega | assumption)); rintro e w1 ⟨rfl, o1, n1, rfl⟩)))
        go_ret
        exact ⟨ret_int q.out.symm, by (show Grew _ _; repeat (first | (with_reducible exact Grew.refl _) | (with_reducible assumption) | (with_reducible refine Grew.ext ?_ _ _) | (with_reducible refine Grew.alloc ?_ _) | ((with_reducible refine Grew.setCell ?_ ?_ _); rotate_left; (focus (dsimp only; first | omega | (simp only [size_ext, World.size_alloc, Array.size_append]; omega)))) | (with_reducible refine Grew.drewN ?_ _) | (with_reducible refine Grew.drew ?_)))⟩
      · have h3 : ¬ (k < 1 ∨ 4 < k ∨ x.good = false) := fun h => h.elim k1 (fun h => h.elim k2 (fun h => by rw [hg] at h; cases h))
        by_cases r1 : x.rows = x.cols
        · have e1 : (x.rows != x.cols) = false := by simpa using r1
          by_cases r2 : x.rows = n
          · have e2 : (x.rows != n) = false := by simpa using r2
            have q := hid (show sqE k x n = 0 by unfold sqE; rw [if_neg h3, if_pos ⟨r1, r2⟩])
            clear h3 r1 r2
            go_enter Try.func151, Try.ntmps151
            refine seq_stop ?_
            go_wp2
            refine stop_go (fun W hW => ?_)
            have s1 : w.heap.size < W.heap.size := by rw [hW]; simp only [World.size_alloc]; omega
            have b1 : ∀ i, W.cell? ⟨w.heap.size, i, none⟩ = (#[D, .int .i64 x.off, .int .i64 x.rows, .int .i64 x.cols, .int .i64 x.ld] : Array Value)[i]? := by intro i; rw [hW]; go_simp
            have g0 : Grew w W := by rw [hW]; exact (Grew.refl _).alloc _
            clear hW
            have hDW := hD.grew g0
            go_wp2_with (first | (go_at_call 130; ((with_reducible refine (good_any x _ _ ?_ Hw.out).mono ?_); (focus (first | (with_reducible assumption) | (with_reducible refine FS.ext ?_ _ _; with_reducible assumption) | (with_reducible refine IS.ext ?_ _ _; with_reducible assumption) | (refine hDu _ ?_; with_reducible assumption) | (refine hOu _ ?_; with_reducible assumption) | (refine hDa _ ?_; with_reducible assumption) | (refine hDb _ ?_; with_reducible assumption) | (refine hDc _ ?_; with_reducible assumption) | (refine hDd _ ?_; with_reducible assumption) | (refine FW.fs ?_ (by omega) _; with_reducible assumption) | (refine WS.fs ?_; with_reducible assumption) | (refine FW.fs ?_ (by omega) _; assumption) | omega | assumption)); rintro e w1 ⟨rfl, o1, n1, rfl⟩)))
            go_ret
            exact ⟨ret_int q.out.symm, by (show Grew _ _; repeat (first | (with_reducible exact Grew.refl _) | (with_reducible assumption) | (with_reducible refine Grew.ext ?_ _ _) | (with_reducible refine Grew.alloc ?_ _) | ((with_reducible refine Grew.setCell ?_ ?_ _); rotate_left; (focus (dsimp only; first | omega | (simp only [size_ext, World.size_alloc, Array.size_append]; omega)))) | (with_reducible refine Grew.drewN ?_ _) | (with_reducible refine Grew.drew ?_)))⟩
          · have e2 : (x.rows != n) = true := by simpa using r2
            have q := hid (show sqE k x n = 3 by unfold sqE; rw [if_neg h3, if_neg (fun h => r2 h.2)])
            clear h3 r1 r2
            go_enter Try.func151, Try.ntmps151
            refine seq_stop ?_
            go_wp2
            refine stop_go (fun W hW => ?_)
            have s1 : w.heap.size < W.heap.size := by rw [hW]; simp only [World.size_alloc]; omega
            have b1 : ∀ i, W.cell? ⟨w.heap.size, i, none⟩ = (#[D, .int .i64 x.off, .int .i64 x.rows, .int .i64 x.cols, .int .i64 x.ld] : Array Value)[i]? := by intro i; rw [hW]; go_simp
            have g0 : Grew w W := by rw [hW]; exact (Grew.refl _).alloc _
            clear hW
            have hDW := hD.grew g0
            go_wp2_with (first | (go_at_call 130; ((with_reducible refine (good_any x _ _ ?_ Hw.out).mono ?_); (focus (first | (with_reducible assumption) | (with_reducible refine FS.ext ?_ _ _; with_reducible assumption) | (with_reducible refine IS.ext ?_ _ _; with_reducible assumption) | (refine hDu _ ?_; with_reducible assumption) | (refine hOu _ ?_; with_reducible assumption) | (refine hDa _ ?_; with_reducible assumption) | (refine hDb _ ?_; with_reducible assumption) | (refine hDc _ ?_; with_reducible assumption) | (refine hDd _ ?_; with_reducible assumption) | (refine FW.fs ?_ (by omega) _; with_reducible assumption) | (refine WS.fs ?_; with_reducible assumption) | (refine FW.fs ?_ (by omega) _; assumption) | omega | assumption)); rintro e w1 ⟨rfl, o1, n1, rfl⟩)))
            go_ret
            exact ⟨ret_int q.out.symm, by (show Grew _ _; repeat (first | (with_reducible exact Grew.refl _) | (with_reducible assumption) | (with_reducible refine Grew.ext ?_ _ _) | (with_reducible refine Grew.alloc ?_ _) | ((with_reducible refine Grew.setCell ?_ ?_ _); rotate_left; (focus (dsimp only; first | omega | (simp only [size_ext, World.size_alloc, Array.size_append]; omega)))) | (with_reducible refine Grew.drewN ?_ _) | (with_reducible refine Grew.drew ?_)))⟩
        · have e1 : (x.rows != x.cols) = true := by simpa using r1
          have q := hid (show sqE k x n = 3 by unfold sqE; rw [if_neg h3, if_neg (fun h => r1 h.1)])
          clear h3 r1
          go_enter Try.func151, Try.ntmps151
          refine seq_stop ?_
          go_wp2
          refine stop_go (fun W hW => ?_)
          have s1 : w.heap.size < W.heap.size := by rw [hW]; simp only [World.size_alloc]; omega
          have b1 : ∀ i, W.cell? ⟨w.heap.size, i, none⟩ = (#[D, .int .i64 x.off, .int .i64 x.rows, .int .i64 x.cols, .int .i64 x.ld] : Array Value)[i]? := by intro i; rw [hW]; go_simp
          have g0 : Grew w W := by rw [hW]; exact (Grew.refl _).alloc _
          clear hW
          have hDW := hD.grew g0
          go_wp2_with (first | (go_at_call 130; ((with_reducible refine (good_any x _ _ ?_ Hw.out).mono ?_); (focus (first | (with_reducible assumption) | (with_reducible refine FS.ext ?_ _ _; with_reducible assumption) | (with_reducible refine IS.ext ?_ _ _; with_reducible assumption) | (refine hDu _ ?_; with_reducible assumption) | (refine hOu _ ?_; with_reducible assumption) | (refine hDa _ ?_; with_reducible assumption) | (refine hDb _ ?_; with_reducible assumption) | (refine hDc _ ?_; with_reducible assumption) | (refine hDd _ ?_; with_reducible assumption) | (refine FW.fs ?_ (by omega) _; with_reducible assumption) | (refine WS.fs ?_; with_reducible assumption) | (refine FW.fs ?_ (by omega) _; assumption) | omega | assumption)); rintro e w1 ⟨rfl, o1, n1, rfl⟩)))
          go_ret
          exact ⟨ret_int q.out.symm, by (show Grew _ _; repeat (first | (with_reducible exact Grew.refl _) | (with_reducible assumption) | (with_reducible refine Grew.ext ?_ _ _) | (with_reducible refine Grew.alloc ?_ _) | ((with_reducible refine Grew.setCell ?_ ?_ _); rotate_left; (focus (dsimp only; first | omega | (simp only [size_ext, World.size_alloc, Array.size_append]; omega)))) | (with_reducible refine Grew.drewN ?_ _) | (with_reducible refine Grew.drew ?_)))⟩
end Go.Proofs.Ytcmggfpcbijcjaa
end
section
/-
  Contracts: view.Col, ger.row, ger.Ger's closure, ger.each.
-/
set_option linter.unusedSimpArgs false
set_option linter.unusedVariables false
open Go Go.RowKit Sedge
namespace Go.Proofs.Ytcmggfpcbijcjaa
def colV (m : MatM) (j : Nat) : VecM := ⟨m.ws, if 0 < m.rows then m.off + j * m.ld else m.off, m.rows, 1⟩
set_option maxRecDepth 100000 in
set_option maxHeartbeats 1000000 in
/-- view.Col. -/
theorem col_any (x : MatM) (D : Value) (j : Nat) (w : World) (hD : FS w D x.ws) (hx : x.good = true) (hwf : x.wf) (hj : (j : Int) < x.cols) :
   Calls Try.prog 149 #[.agg #[D, .int .i64 x.off, .int .i64 x.rows, .int .i64 x.cols, .int .i64 x.ld], .int .i64 j] w
     (fun e w' => e = .returned (.agg #[D, .int .i64 (colV x j).off, .int .i64 x.rows, .int .i64 1]) ∧ ∃ o n, w' = ext w o n) := by
  have hn := MatM.good_n hx
  obtain ⟨aD, capD, rfl⟩ := hD.shape
  have k1 : (!x.good) = false := by simp [hx]
  have hlen := hD.len
  have Hw := hid hwf
  have k3 : decide ((j : Int) < 0) = false := by simp
  have k4 : decide (x.cols ≤ (j : Int)) = false := by simp; omega
  by_cases hc : 0 < x.rows
  · have hp := MatM.good_place hx (i := 0) (j := j) (by simpa using hc) hj
    simp only [Int.natCast_zero, Int.add_zero] at hp
    have e : (colV x j).off = x.off + j * x.ld := by simp [colV, hc]
    have r1 : IntKind.i64.wrap ((j : Int) * x.ld) = j * x.ld := IntWalk.i64_in _ (by omega)
    have r2 : IntKind.i64.wrap (x.off + j * x.ld) = x.off + j * x.ld := IntWalk.i64_in _ (by omega)
    have Hx := hid hx
    have d5 : decide (0 < x.rows) = true := by simpa using hc
    rw [e]
    clear hx hwf e
    go_enter Try.func149, Try.ntmps149
    refine seq_stop ?_
    go_wp2
    refine stop_go (fun W hW => ?_)
    have s1 : w.heap.size < W.heap.size := by rw [hW]; simp only [World.size_alloc]; omega
    have b1 : ∀ i, W.cell? ⟨w.heap.size, i, none⟩ = (#[.slice aD x.ws.length capD, .int .i64 x.off, .int .i64 x.rows, .int .i64 x.cols, .int .i64 x.ld] : Array Value)[i]? := by intro i; rw [hW]; go_simp
    have f1 : ∀ i, W.frozen? ⟨w.heap.size, i, none⟩ = false := by intro i; rw [hW]; go_simp
    have s2 : w.heap.size + 1 < W.heap.size := by rw [hW]; simp only [World.size_alloc]; omega
    have b2 : ∀ i, W.cell? ⟨w.heap.size + 1, i, none⟩ = (#[.slice none 0 0, .int .i64 0, .int .i64 0, .int .i64 0] : Array Value)[i]? := by intro i; rw [hW]; go_simp
    have f2 : ∀ i, W.frozen? ⟨w.heap.size + 1, i, none⟩ = false := by intro i; rw [hW]; go_simp
    have g0 : Grew w W := by rw [hW]; exact ((Grew.refl _).alloc _).alloc _
    clear hW
    have hDW : FS W (.slice aD x.ws.length capD) x.ws := hD.grew g0
    go_wp2_with (first | (go_at_call 130; ((with_reducible refine (good_any x _ _ ?_ Hw.out).mono ?_); (focus (first | (with_reducible assumption) | (with_reducible refine FS.ext ?_ _ _; with_reducible assumption) | (with_reducible refine IS.ext ?_ _ _; with_reducible assumption) | (refine hDu _ ?_; with_reducible assumption) | (refine hOu _ ?_; with_reducible assumption) | (refine hDa _ ?_; with_reducible assumption) | (refine hDb _ ?_; with_reducible assumption) | (refine hDc _ ?_; with_reducible assumption) | (refine hDd _ ?_; with_reducible assumption) | (refine FW.fs ?_ (by omega) _; with_reducible assumption) | (refine WS.fs ?_; with_reducible assumption) | (refine FW.fs ?_ (by omega) _; assumption) | omega | assumption)); rintro e w1 ⟨rfl, o1, n1, rfl⟩)))
    refine bodyPost_ret (v := .agg #[.slice aD x.ws.length capD, .int .i64 (x.off + j * x.ld), .int .i64 x.rows, .int .i64 1]) (by simp [results, Try.results149, go_sem, *]) rfl ?_
    exact ⟨rfl, by (show Grew _ _; repeat (first | (with_reducible exact Grew.refl _) | (with_reducible assumption) | (with_reducible refine Grew.ext ?_ _ _) | (with_reducible refine Grew.alloc ?_ _) | ((with_reducible refine Grew.setCell ?_ ?_ _); rotate_left; (focus (dsimp only; first | omega | (simp only [size_ext, World.size_alloc, Array.size_append]; omega)))) | (with_reducible refine Grew.drewN ?_ _) | (with_reducible refine Grew.drew ?_)))⟩
  · have e : (colV x j).off = x.off := by simp [colV, hc]
    have Hx := hid hx
    have d5 : decide (0 < x.rows) = false := by simpa using hc
    rw [e]
    clear hx hwf e
    go_enter Try.func149, Try.ntmps149
    refine seq_stop ?_
    go_wp2
    refine stop_go (fun W hW => ?_)
    have s1 : w.heap.size < W.heap.size := by rw [hW]; simp only [World.size_alloc]; omega
    have b1 : ∀ i, W.cell? ⟨w.heap.size, i, none⟩ = (#[.slice aD x.ws.length capD, .int .i64 x.off, .int .i64 x.rows, .int .i64 x.cols, .int .i64 x.ld] : Array Value)[i]? := by intro i; rw [hW]; go_simp
    have f1 : ∀ i, W.frozen? ⟨w.heap.size, i, none⟩ = false := by intro i; rw [hW]; go_simp
    have s2 : w.heap.size + 1 < W.heap.size := by rw [hW]; simp only [World.size_alloc]; omega
    have b2 : ∀ i, W.cell? ⟨w.heap.size + 1, i, none⟩ = (#[.slice none 0 0, .int .i64 0, .int .i64 0, .int .i64 0] : Array Value)[i]? := by intro i; rw [hW]; go_simp
    have f2 : ∀ i, W.frozen? ⟨w.heap.size + 1, i, none⟩ = false := by intro i; rw [hW]; go_simp
    have g0 : Grew w W := by rw [hW]; exact ((Grew.refl _).alloc _).alloc _
    clear hW
    have hDW : FS W (.slice aD x.ws.length capD) x.ws := hD.grew g0
    go_wp2_with (first | (go_at_call 130; ((with_reducible refine (good_any x _ _ ?_ Hw.out).mono ?_); (focus (first | (with_reducible assumption) | (with_reducible refine FS.ext ?_ _ _; with_reducible assumption) | (with_reducible refine IS.ext ?_ _ _; with_reducible assumption) | (refine hDu _ ?_; with_reducible assumption) | (refine hOu _ ?_; with_reducible assumption) | (refine hDa _ ?_; with_reducible assumption) | (refine hDb _ ?_; with_reducible assumption) | (refine hDc _ ?_; with_reducible assumption) | (refine hDd _ ?_; with_reducible assumption) | (refine FW.fs ?_ (by omega) _; with_reducible assumption) | (refine WS.fs ?_; with_reducible assumption) | (refine FW.fs ?_ (by omega) _; assumption) | omega | assumption)); rintro e w1 ⟨rfl, o1, n1, rfl⟩)))
    refine bodyPost_ret (v := .agg #[.slice aD x.ws.length capD, .int .i64 x.off, .int .i64 x.rows, .int .i64 1]) (by simp [results, Try.results149, go_sem, *]) rfl ?_
    exact ⟨rfl, by (show Grew _ _; repeat (first | (with_reducible exact Grew.refl _) | (with_reducible assumption) | (with_reducible refine Grew.ext ?_ _ _) | (with_reducible refine Grew.alloc ?_ _) | ((with_reducible refine Grew.setCell ?_ ?_ _); rotate_left; (focus (dsimp only; first | omega | (simp only [size_ext, World.size_alloc, Array.size_append]; omega)))) | (with_reducible refine Grew.drewN ?_ _) | (with_reducible refine Grew.drew ?_)))⟩
set_option maxRecDepth 100000 in
set_option maxHeartbeats 1000000 in
/-- ger.row. -/
theorem grow_any (x : VecM) (a : Option Addr) (l c : Nat) (w : World) :
   Calls Try.prog 137 #[.agg #[.slice a l c, .int .i64 x.off, .int .i64 x.n, .int .i64 x.inc]] w (fun e w' => e = .returned (.agg #[.slice a l c, .int .i64 x.off, .int .i64 1, .int .i64 x.n, .int .i64 x.inc]) ∧ ∃ o n, w' = ext w o n) := by
  go_enter Try.func137, Try.ntmps137
  refine seq_stop ?_
  go_wp2
  refine stop_go (fun W hW => ?_)
  have s1 : w.heap.size < W.heap.size := by rw [hW]; simp only [World.size_alloc]; omega
  have b1 : ∀ i, W.cell? ⟨w.heap.size, i, none⟩ = (#[.slice a l c, .int .i64 x.off, .int .i64 x.n, .int .i64 x.inc] : Array Value)[i]? := by intro i; rw [hW]; go_simp
  have f1 : ∀ i, W.frozen? ⟨w.heap.size, i, none⟩ = false := by intro i; rw [hW]; go_simp
  have s2 : w.heap.size + 1 < W.heap.size := by rw [hW]; simp only [World.size_alloc]; omega
  have b2 : ∀ i, W.cell? ⟨w.heap.size + 1, i, none⟩ = (#[.slice none 0 0, .int .i64 0, .int .i64 0, .int .i64 0, .int .i64 0] : Array Value)[i]? := by intro i; rw [hW]; go_simp
  have f2 : ∀ i, W.frozen? ⟨w.heap.size + 1, i, none⟩ = false := by intro i; rw [hW]; go_simp
  have g0 : Grew w W := by rw [hW]; exact ((Grew.refl _).alloc _).alloc _
  clear hW
  go_wp2
  refine bodyPost_ret (v := .agg #[.slice a l c, .int .i64 x.off, .int .i64 1, .int .i64 x.n, .int .i64 x.inc]) (by simp [results, Try.results137, go_sem, *]) rfl ?_
  exact ⟨rfl, by (show Grew _ _; repeat (first | (with_reducible exact Grew.refl _) | (with_reducible assumption) | (with_reducible refine Grew.ext ?_ _ _) | (with_reducible refine Grew.alloc ?_ _) | ((with_reducible refine Grew.setCell ?_ ?_ _); rotate_left; (focus (dsimp only; first | omega | (simp only [size_ext, World.size_alloc, Array.size_append]; omega)))) | (with_reducible refine Grew.drewN ?_ _) | (with_reducible refine Grew.drew ?_)))⟩
theorem hmf (fn : Fn) (first cap : Array Value) (w : World) : (Instr.makeFunc fn first cap).run Try.prog w = .ok (.func fn first cap) w := rfl
/-- What a closure of ger.each does at a place. -/
def DoesAt (w : World) (m : MatM) (g : Nat) (q1 q2 q3 : Value) (F : Nat → Nat → Nat → Nat) : Prop :=
  ∀ w' L s, But w [g] w' → FW w' g L → Hold m.place m.rows.toNat m.cols.toNat m.ws L s → ∀ i j : Nat, (i : Int) < m.rows → (j : Int) < m.cols →
    Calls Try.prog 139 #[.int .i64 i, .int .i64 j, .pointer (some ⟨g, (m.off + j * m.ld + i).toNat, none⟩), q1, q2, q3] w' (fun e w2 => e = .returned (.tuple #[]) ∧ Wrote w' w2 g (L.set (m.place i j) (F i j (s i j))))
def stepF (F : Nat → Nat → Nat → Nat) (s : Nat → Nat → Nat) (j i : Nat) (r c : Nat) : Nat := if c < j ∨ (c = j ∧ r < i) then F r c (s r c) else s r c
set_option maxRecDepth 100000 in
set_option maxHeartbeats 2000000 in
/-- ger.each. -/
theorem each_any (m : MatM) (g ca : Nat) (q1 q2 q3 : Value) (F : Nat → Nat → Nat → Nat) (w : World) (hF : FW w g m.ws) (hm : m.good = true) (hwm : m.wf) (hlm : m.ws.length ≤ 1000000) (hr : m.rows ≤ 1000) (hc : m.cols ≤ 1000)
    (hdo : DoesAt w m g q1 q2 q3 F) :
   Calls Try.prog 138 #[.agg #[.slice (some ⟨g, 0, none⟩) m.ws.length ca, .int .i64 m.off, .int .i64 m.rows, .int .i64 m.cols, .int .i64 m.ld], .func (.func 139) #[] #[q1, q2, q3]] w
     (fun e w' => e = .returned (.tuple #[]) ∧ But w [g] w' ∧ ∃ L, FW w' g L ∧ Hold m.place m.rows.toNat m.cols.toNat m.ws L (fun i j => F i j (m.num i j))) := by
  have hn := MatM.good_n hm
  have hltg := hF.lt
  have hpl := MatM.places hm
  have Hm := hid hm
  have hcl : ∀ w', FS w' (.slice (some ⟨g, 0, none⟩) m.ws.length ca) m.ws → True := fun _ _ => trivial
  have hcolA : ∀ (j : Nat) (L : List Nat) w', L.length = m.ws.length → FW w' g L → (j : Int) < m.cols → 0 < m.rows → Calls Try.prog 149 #[.agg #[.slice (some ⟨g, 0, none⟩) m.ws.length ca, .int .i64 m.off, .int .i64 m.rows, .int .i64 m.cols, .int .i64 m.ld], .int .i64 j] w'
      (fun e w2 => e = .returned (.agg #[.slice (some ⟨g, 0, none⟩) m.ws.length ca, .int .i64 (m.off + j * m.ld), .int .i64 m.rows, .int .i64 1]) ∧ ∃ o n, w2 = ext w' o n) := fun j L w' hl h hj h0 => by
    have h1 := h.fs (by omega) ca
    rw [hl] at h1
    have := col_any (withL m L) (.slice (some ⟨g, 0, none⟩) m.ws.length ca) j w' h1 (by rw [withL_good hl]; exact hm) hwm hj
    have e : (colV (withL m L) j).off = m.off + j * m.ld := by unfold colV withL; simp [h0]
    rw [e] at this
    exact this
  by_cases h0 : m.rows = 0
  · have d0 : (m.rows == 0) = true := by simpa using h0
    have hh : Hold m.place m.rows.toNat m.cols.toNat m.ws m.ws (fun i j => F i j (m.num i j)) := ⟨rfl, fun i j hi hj => by omega, fun _ _ => rfl⟩
    clear hdo hm hwm
    go_enter Try.func138, Try.ntmps138
    refine seq_stop ?_
    go_wp2
    refine stop_go (fun W hW => ?_)
    have s1 : w.heap.size < W.heap.size := by rw [hW]; simp only [World.size_alloc]; omega
    have b1 : ∀ i, W.cell? ⟨w.heap.size, i, none⟩ = (#[.slice (some ⟨g, 0, none⟩) m.ws.length ca, .int .i64 m.off, .int .i64 m.rows, .int .i64 m.cols, .int .i64 m.ld] : Array Value)[i]? := by intro i; rw [hW]; go_simp
    have g0 : Grew w W := by rw [hW]; exact (Grew.refl _).alloc _
    clear hW
    go_wp2
    refine bodyPost_ret (v := .tuple #[]) (by simp [results, Try.results138, go_sem, *]) rfl ?_
    exact ⟨rfl, (But.refl w [g]).grew (by (show Grew _ _; repeat (first | (with_reducible exact Grew.refl _) | (with_reducible assumption) | (with_reducible refine Grew.ext ?_ _ _) | (with_reducible refine Grew.alloc ?_ _) | ((with_reducible refine Grew.setCell ?_ ?_ _); rotate_left; (focus (dsimp only; first | omega | (simp only [size_ext, World.size_alloc, Array.size_append]; omega)))) | (with_reducible refine Grew.drewN ?_ _) | (with_reducible refine Grew.drew ?_)))), m.ws, hF.grew (by (show Grew _ _; repeat (first | (with_reducible exact Grew.refl _) | (with_reducible assumption) | (with_reducible refine Grew.ext ?_ _ _) | (with_reducible refine Grew.alloc ?_ _) | ((with_reducible refine Grew.setCell ?_ ?_ _); rotate_left; (focus (dsimp only; first | omega | (simp only [size_ext, World.size_alloc, Array.size_append]; omega)))) | (with_reducible refine Grew.drewN ?_ _) | (with_reducible refine Grew.drew ?_)))), hh⟩
  · have d0 : (m.rows == 0) = false := by simpa using h0
    have h1 : 0 < m.rows := by omega
    clear hm hwm
    go_enter Try.func138, Try.ntmps138
    refine seq_stop ?_
    go_wp2
    refine stop_go (fun W hW => ?_)
    have s1 : w.heap.size < W.heap.size := by rw [hW]; simp only [World.size_alloc]; omega
    have b1 : ∀ i, W.cell? ⟨w.heap.size, i, none⟩ = (#[.slice (some ⟨g, 0, none⟩) m.ws.length ca, .int .i64 m.off, .int .i64 m.rows, .int .i64 m.cols, .int .i64 m.ld] : Array Value)[i]? := by intro i; rw [hW]; go_simp
    have g0 : Grew w W := by rw [hW]; exact (Grew.refl _).alloc _
    clear hW
    have zW := g0.below.size
    have bw : ∀ w', But W [g] w' → But w [g] w' := fun w' h => ((But.refl w [g]).grew g0).trans h (fun _ hb => .inl hb)
    have hFW : FW W g m.ws := hF.grew g0
    have cU : ∀ w', But W [g] w' → ∀ i, w'.cell? ⟨w.heap.size, i, none⟩ = (#[.slice (some ⟨g, 0, none⟩) m.ws.length ca, .int .i64 m.off, .int .i64 m.rows, .int .i64 m.cols, .int .i64 m.ld] : Array Value)[i]? := fun w' h i => (h.cell s1 (by simp; omega)).trans (b1 i)
    go_wp2
    go_loopw [12] (fun c wr => ∃ (j : Nat) (L : List Nat), (j : Int) ≤ m.cols ∧ c = .int .i64 j ∧ But W [g] wr ∧ FW wr g L ∧ Hold m.place m.rows.toNat m.cols.toNat m.ws L (stepF F m.num j 0)) (fun c _ => (m.cols - intOf c).toNat)
    case atStart => exact ⟨0, m.ws, hn.2.1, rfl, But.refl _ _, hFW, MatM.hold.congr fun i j _ _ => by simp [stepF]⟩
    case round =>
      obtain ⟨j, L, hj, rfl, hB, hL, hH⟩ := hrel
      have tT := cU _ hB
      have zB := hB.size
      have kT : w.heap.size < wr.heap.size := by omega
      by_cases hlt : (j : Int) < m.cols
      · have hlt' := hid hlt
        have hcj := fun w' (h : FW w' g L) => hcolA j L w' hH.len h hlt h1
        go_wp2_with (first | (go_at_call 149; ((with_reducible refine (hcj _ hL).mono ?_); rintro e w1 ⟨rfl, oc, nc, rfl⟩)))
        refine name_any (fun V hV => ?_)
        have gV : Grew wr V := by rw [← hV]; (show Grew _ _; repeat (first | (with_reducible exact Grew.refl _) | (with_reducible assumption) | (with_reducible refine Grew.ext ?_ _ _) | (with_reducible refine Grew.alloc ?_ _) | ((with_reducible refine Grew.setCell ?_ ?_ _); rotate_left; (focus (dsimp only; first | omega | (simp only [size_ext, World.size_alloc, Array.size_append]; omega)))) | (with_reducible refine Grew.drewN ?_ _) | (with_reducible refine Grew.drew ?_)))
        have BV : But W [g] V := hB.grew gV
        have cT : ∀ i, V.cell? ⟨wr.heap.size + oc.size, i, none⟩ = (#[.slice (some ⟨g, 0, none⟩) m.ws.length ca, .int .i64 (m.off + j * m.ld), .int .i64 m.rows, .int .i64 1] : Array Value)[i]? := by subst hV; intro i; go_simp
        have kV : wr.heap.size + oc.size < V.heap.size := by rw [← hV]; simp only [World.size_alloc, size_ext]; omega
        obtain ⟨T, hT⟩ : ∃ T, wr.heap.size + oc.size = T := ⟨_, rfl⟩
        have zT : wr.heap.size ≤ T := by omega
        rw [hT] at cT kV
        simp only [hT]
        have ltg2 := hL.lt
        have cV : ∀ w', But V [g] w' → ∀ i, w'.cell? ⟨T, i, none⟩ = (#[.slice (some ⟨g, 0, none⟩) m.ws.length ca, .int .i64 (m.off + j * m.ld), .int .i64 m.rows, .int .i64 1] : Array Value)[i]? := fun w' h i => (h.cell kV (by simp; omega)).trans (cT i)
        have bV : ∀ w', But V [g] w' → But W [g] w' := fun w' h => BV.trans h (fun _ hb => .inl hb)
        have hLV : FW V g L := hL.grew gV
        clear hV hT cT
        go_wp2
        go_loopw [20] (fun c wr => ∃ (i : Nat) (L : List Nat), (i : Int) ≤ m.rows ∧ c = .int .i64 i ∧ But V [g] wr ∧ FW wr g L ∧ Hold m.place m.rows.toNat m.cols.toNat m.ws L (stepF F m.num j i)) (fun c _ => (m.rows - intOf c).toNat)
        case atStart => exact ⟨0, L, by omega, rfl, But.refl _ _, hLV, hH⟩
        case round =>
          obtain ⟨i, L2, hi, rfl, hB2, hL2, hH2⟩ := hrel
          have tV := cV _ hB2
          have zB2 := hB2.size
          have kT2 : T < wr.heap.size := by omega
          by_cases hli : (i : Int) < m.rows
          · have hp := MatM.good_place Hm.out hli hlt'.out
            have r1 : IntKind.i64.wrap (m.off + j * m.ld + i) = m.off + j * m.ld + i := IntWalk.i64_in _ (by omega)
            have e1 : 0 ≤ m.off + j * m.ld + i := by omega
            have e2 : m.off + j * m.ld + i < m.ws.length := by omega
            have hcall := hdo wr L2 _ (bw _ (bV _ hB2)) hL2 hH2 i j hli hlt'.out
            go_wp2_with (first | (go_at_call 139; ((with_reducible refine (hcall).mono ?_); rintro e w1 ⟨rfl, hw1⟩)))
            go_roundw
            case rel =>
              refine ⟨i + 1, _, by omega, by go_num, hB2.wrote hw1 (.inl (by simp)), hw1.fw hL2, (hH2.set hpl (by omega) (by have := hlt'.out; omega)).congr fun r c hr hc => ?_⟩
              unfold stepF
              by_cases hrc : r = i ∧ c = j
              · obtain ⟨rfl, rfl⟩ := hrc
                simp
              · rw [if_neg hrc]
                by_cases h2 : c < j ∨ (c = j ∧ r < i)
                · rw [if_pos h2, if_pos (by omega)]
                · rw [if_neg h2, if_neg (by omega)]
            case measure => simp [intOf]; omega
          · have e : i = m.rows.toNat := by omega
            go_wp2
            go_roundw
            case rel =>
              refine ⟨j + 1, L2, by have := hlt'.out; omega, by go_num, bV _ hB2, hL2, hH2.congr fun r c hr hc => ?_⟩
              unfold stepF
              by_cases h2 : c < j ∨ (c = j ∧ r < i)
              · rw [if_pos h2, if_pos (by omega)]
              · rw [if_neg h2, if_neg (by omega)]
            case measure => (have := hlt'.out; simp [intOf]; omega)
      · go_wp2
        go_end0
        refine ⟨rfl, bw _ hB, L, hL, hH.congr fun r c hr hc => ?_⟩
        unfold stepF
        rw [if_pos (by omega)]
end Go.Proofs.Ytcmggfpcbijcjaa
end
section
/-
  Contracts: resid.Rest's closures; the rows of a fold.
-/
set_option linter.unusedSimpArgs false
set_option linter.unusedVariables false
open Go Go.RowKit Sedge
namespace Go.Proofs.Ytcmggfpcbijcjaa
set_option maxRecDepth 100000 in
theorem rc1_any (i T : Nat) (Y : Value) (L : List Nat) (w : World) (hT : ∀ i, w.cell? ⟨T, i, none⟩ = (#[Y] : Array Value)[i]?) (hY : FS w Y L) (hi : i < L.length) :
   Calls Try.prog 167 #[.int .i64 i, .pointer (some ⟨T, 0, none⟩)] w (fun e w' => ∃ r, e = .returned (.float .f64 r) ∧ IsF r (L.getD i 0) ∧ ∃ o n, w' = ext w o n) := by
  obtain ⟨blk, o, cap, rfl, hb, hc⟩ := hY.open (by omega)
  obtain ⟨b, hb0, hf⟩ := hc i hi
  clear hc
  go_enter Try.func167, Try.ntmps167
  go_wp2
  go_ret
  exact ⟨b, rfl, hf, #[], w.drawn, ext_zero.symm⟩
set_option maxRecDepth 100000 in
theorem rc3_any (i T : Nat) (Y : Value) (L : List Nat) (w : World) (hT : ∀ i, w.cell? ⟨T, i, none⟩ = (#[Y] : Array Value)[i]?) (hY : FS w Y L) (hi : i < L.length) :
   Calls Try.prog 169 #[.int .i64 i, .pointer (some ⟨T, 0, none⟩)] w (fun e w' => ∃ r, e = .returned (.float .f64 r) ∧ IsF r (fabs (L.getD i 0)) ∧ ∃ o n, w' = ext w o n) := by
  obtain ⟨blk, o, cap, rfl, hb, hc⟩ := hY.open (by omega)
  obtain ⟨b, hb0, hf⟩ := hc i hi
  clear hc
  go_enter Try.func169, Try.ntmps169
  go_wp2_with (first | (go_at_call 164; ((with_reducible refine (mabs_any b _ _ hf).mono ?_); rintro e w1 ⟨ra, rfl, hra, rfl⟩)))
  go_ret
  exact ⟨ra, rfl, hra, #[], w.drawn, ext_zero.symm⟩
set_option maxRecDepth 100000 in
theorem rc2_any (s S a A j T : Nat) (X : Value) (L : List Nat) (w : World) (hs : IsF s S) (ha : IsF a A) (hT : ∀ i, w.cell? ⟨T, i, none⟩ = (#[X] : Array Value)[i]?) (hX : FS w X L) (hj : j < L.length) :
   Calls Try.prog 168 #[.float .f64 s, .float .f64 a, .int .i64 j, .pointer (some ⟨T, 0, none⟩)] w (fun e w' => ∃ r, e = .returned (.float .f64 r) ∧ IsF r (fsub S (fmul A (L.getD j 0))) ∧ ∃ o n, w' = ext w o n) := by
  obtain ⟨blk, o, cap, rfl, hb, hc⟩ := hX.open (by omega)
  obtain ⟨b, hb0, hf⟩ := hc j hj
  clear hc
  go_enter Try.func168, Try.ntmps168
  go_wp2_with ((with_reducible refine upon_id ?_); refine upon_fop rfl (by assumption) (by assumption) ?_; intro rr nn hr)
  go_ret
  exact ⟨_, rfl, hr, _, _, drewN_ext0 _⟩
set_option maxRecDepth 100000 in
theorem rc4_any (s S a A j T : Nat) (X : Value) (L : List Nat) (w : World) (hs : IsF s S) (ha : IsF a A) (hT : ∀ i, w.cell? ⟨T, i, none⟩ = (#[X] : Array Value)[i]?) (kT : T < w.heap.size) (hX : FS w X L) (hj : j < L.length) :
   Calls Try.prog 170 #[.float .f64 s, .float .f64 a, .int .i64 j, .pointer (some ⟨T, 0, none⟩)] w (fun e w' => ∃ r, e = .returned (.float .f64 r) ∧ IsF r (fadd S (fmul (fabs A) (fabs (L.getD j 0)))) ∧ ∃ o n, w' = ext w o n) := by
  obtain ⟨blk, o, cap, rfl, hb, hc⟩ := hX.open (by omega)
  obtain ⟨b, hb0, hf⟩ := hc j hj
  clear hc
  go_enter Try.func170, Try.ntmps170
  go_wp2
  refine wp_region_R (Grew w) [] [(0,0), (0,1), (0,3), (0,4), (0,5), (0,6), (1,2), (1,7), (1,8), (1,9), (0,10)] (by kernel_rfl) (by kernel_rfl) (fun _ _ _ _ h _ => h) (by first | exact ⟨_, _, ext_drew⟩ | exact ⟨_, _, drew_ext0⟩ | (show Grew _ _; repeat (first | (with_reducible exact Grew.refl _) | (with_reducible assumption) | (with_reducible refine Grew.ext ?_ _ _) | (with_reducible refine Grew.alloc ?_ _) | ((with_reducible refine Grew.setCell ?_ ?_ _); rotate_left; (focus (dsimp only; first | omega | (simp only [size_ext, World.size_alloc, Array.size_append]; omega)))) | (with_reducible refine Grew.drewN ?_ _) | (with_reducible refine Grew.drew ?_)))) ?_
  go_wp2_with (first | ((with_reducible refine wpR_id ?_); first | (refine wpR_take (v := ?_) rfl rfl ?_ ?_; rotate_left; (focus (rintro w' ⟨o', n', rfl⟩; go_simp; try with_reducible rfl)); simp only [Act.put, List.setIfInBounds_toArray, List.set_cons_zero, List.set_cons_succ]) | (refine wpR_pure (v := ?_) rfl rfl ?_ ?_; rotate_left; (focus (intro w'; go_simp; try with_reducible rfl)); simp only [Act.put, List.setIfInBounds_toArray, List.set_cons_zero, List.set_cons_succ]) | (refine wpR_takeG (v := ?_) rfl rfl rfl rfl rfl ?_ ?_; rotate_left; (focus (rintro w' ⟨o', n', rfl⟩; go_simp; try with_reducible rfl)); simp only [Act.put, List.setIfInBounds_toArray, List.set_cons_zero, List.set_cons_succ]) | (refine wpR_skip rfl rfl rfl rfl rfl rfl ?_; simp only [Act.put, List.setIfInBounds_toArray, List.set_cons_zero, List.set_cons_succ]) | (refine wpR_skipU rfl rfl rfl rfl rfl ?_; simp only [Act.put, List.setIfInBounds_toArray, List.set_cons_zero, List.set_cons_succ]) | (refine wpR_do rfl rfl (fun K hK => ?_)) | (refine wpR_doG rfl rfl rfl rfl rfl (fun K hK => ?_)) | (refine wpR_last rfl rfl (fun K hK => ?_)) | (refine wpR_nil ?_)) | ((with_reducible refine wpR_go ?_ ?_); (focus (show Grew _ _; repeat (first | (with_reducible exact Grew.refl _) | (with_reducible assumption) | (with_reducible refine Grew.ext ?_ _ _) | (with_reducible refine Grew.alloc ?_ _) | ((with_reducible refine Grew.setCell ?_ ?_ _); rotate_left; (focus (dsimp only; first | omega | (simp only [size_ext, World.size_alloc, Array.size_append]; omega)))) | (with_reducible refine Grew.drewN ?_ _) | (with_reducible refine Grew.drew ?_))))) | ((with_reducible refine upon_id ?_); refine upon_fop rfl (by assumption) (by assumption) ?_; intro rr nn hr) | (go_at_call 164; ((with_reducible refine (mabs_any a _ _ ha).mono ?_); rintro e w1 ⟨ra, rfl, hra, rfl⟩)) | (go_at_call 164; ((with_reducible refine (mabs_any b _ _ hf).mono ?_); rintro e w1 ⟨rb, rfl, hrb, rfl⟩)))
  go_ret
  exact ⟨_, rfl, hr, by (show Grew _ _; repeat (first | (with_reducible exact Grew.refl _) | (with_reducible assumption) | (with_reducible refine Grew.ext ?_ _ _) | (with_reducible refine Grew.alloc ?_ _) | ((with_reducible refine Grew.setCell ?_ ?_ _); rotate_left; (focus (dsimp only; first | omega | (simp only [size_ext, World.size_alloc, Array.size_append]; omega)))) | (with_reducible refine Grew.drewN ?_ _) | (with_reducible refine Grew.drew ?_)))⟩
theorem ownF_mono {e : TypeId} {w : World} {B B' : Nat} {v : Value} {xs : List Nat} (h : OwnF e w B v xs) (hB : B' ≤ B) : OwnF e w B' v xs := by
  obtain ⟨bs, ⟨h0, h1⟩, h2, h3⟩ := h
  refine ⟨bs, ⟨h0, ?_⟩, h2, h3⟩
  rcases h1 with h1 | ⟨gg, cap, cur, hv, hB1, hh, r⟩
  · exact .inl h1
  · exact .inr ⟨gg, cap, cur, hv, Nat.le_trans hB hB1, hh, r⟩
def accR (F : Nat → Nat) (G : Nat → Nat → Nat → Nat) (A : Nat → Nat → Nat) (i : Nat) : Nat → Nat
  | 0 => F i
  | j + 1 => G (accR F G A i j) (A i j) j
def rowsTo (F : Nat → Nat) (G : Nat → Nat → Nat → Nat) (A : Nat → Nat → Nat) (C i : Nat) : List Nat := (List.range i).map fun r => accR F G A r C
theorem rowsTo_succ (F : Nat → Nat) (G : Nat → Nat → Nat → Nat) (A : Nat → Nat → Nat) (C i : Nat) : rowsTo F G A C (i + 1) = rowsTo F G A C i ++ [accR F G A i C] := by unfold rowsTo; rw [List.range_succ, List.map_append]; rfl
theorem rowsTo_length (F : Nat → Nat) (G : Nat → Nat → Nat → Nat) (A : Nat → Nat → Nat) (C i : Nat) : (rowsTo F G A C i).length = i := by simp [rowsTo]
set_option maxRecDepth 100000 in
set_option maxHeartbeats 2000000 in
/-- resid's fold.rows. -/
theorem rowsA_any (F : Nat → Nat) (G : Nat → Nat → Nat → Nat) (m : MatM) (D : Value) (P1 P2 : Value) (w : World) (hD : FS w D m.ws) (hm : m.good = true) (hwm : m.wf) (hl : m.ws.length ≤ 1000000) (hrr : m.rows ≤ 1000) (hcc : m.cols ≤ 1000)
    (h1 : ∀ (i : Nat) w', (i : Int) < m.rows → Grew w w' → Calls Try.prog 167 #[.int .i64 i, P1] w' (fun e w2 => ∃ r, e = .returned (.float .f64 r) ∧ IsF r (F i) ∧ ∃ o n, w2 = ext w' o n))
    (h2 : ∀ (s S a A j : Nat) w', IsF s S → IsF a A → (j : Int) < m.cols → Grew w w' → Calls Try.prog 168 #[.float .f64 s, .float .f64 a, .int .i64 j, P2] w' (fun e w2 => ∃ r, e = .returned (.float .f64 r) ∧ IsF r (G S A j) ∧ ∃ o n, w2 = ext w' o n)) :
   Calls Try.prog 171 #[.agg #[.func (.func 167) #[] #[P1], .func (.func 168) #[] #[P2]], .agg #[D, .int .i64 m.off, .int .i64 m.rows, .int .i64 m.cols, .int .i64 m.ld]] w
     (fun e w' => ∃ v, e = .returned v ∧ OwnF 22 w' w.heap.size v (rowsTo F G m.num m.cols.toNat m.rows.toNat) ∧ ∃ o n, w' = ext w o n) := by
  have hn := MatM.good_n hm
  have Hm := hid hm
  have Hw := hid hwm
  have hat : ∀ (i j : Nat) w', FS w' D m.ws → (i : Int) < m.rows → (j : Int) < m.cols → Calls Try.prog 186 #[.agg #[D, .int .i64 m.off, .int .i64 m.rows, .int .i64 m.cols, .int .i64 m.ld], .int .i64 i, .int .i64 j] w' (fun e w2 => ∃ b, e = .returned (.float .f64 b) ∧ IsF b (m.num i j) ∧ ∃ o n, w2 = ext w' o n) := fun i j w' h hi hj => vat_any m D i j w' h Hm.out Hw.out hi hj hl
  clear hm hwm
  go_enter Try.func171, Try.ntmps171
  refine seq_stop ?_
  go_wp2
  refine stop_go (fun W hW => ?_)
  have s1 : w.heap.size < W.heap.size := by rw [hW]; simp only [World.size_alloc]; omega
  have b1 : ∀ i, W.cell? ⟨w.heap.size, i, none⟩ = (#[.func (.func 167) #[] #[P1], .func (.func 168) #[] #[P2]] : Array Value)[i]? := by intro i; rw [hW]; go_simp
  have s2 : w.heap.size + 1 < W.heap.size := by rw [hW]; simp only [World.size_alloc]; omega
  have b2 : ∀ i, W.cell? ⟨w.heap.size + 1, i, none⟩ = (#[D, .int .i64 m.off, .int .i64 m.rows, .int .i64 m.cols, .int .i64 m.ld] : Array Value)[i]? := by intro i; rw [hW]; go_simp
  have g0 : Grew w W := by rw [hW]; exact ((Grew.refl _).alloc _).alloc _
  clear hW
  have hDW := hD.grew g0
  have z0 := g0.below.size
  go_wp2
  go_loopw [5, 11] (fun v c wr => ∃ (i : Nat) (o : Array Obj) (n : Nat), (i : Int) ≤ m.rows ∧ c = .int .i64 i ∧ wr = ext W o n ∧ OwnF 22 wr W.heap.size v (rowsTo F G m.num m.cols.toNat i)) (fun _ c _ => (m.rows - intOf c).toNat)
  case atStart => exact ⟨0, #[], _, hn.1, rfl, ext_zero.symm, by simpa [rowsTo] using OwnF.nil _ _ _⟩
  case round =>
    obtain ⟨i, o3, n3, hi, rfl, hwr, hown⟩ := hrel
    have gw : Grew W wr := ⟨_, _, hwr⟩
    have gww : Grew w wr := Grew.trans g0 gw
    have zr := gw.below.size
    clear hwr
    have t1 : ∀ i, wr.cell? ⟨w.heap.size, i, none⟩ = (#[.func (.func 167) #[] #[P1], .func (.func 168) #[] #[P2]] : Array Value)[i]? := fun i => (gw.cell s1).trans (b1 i)
    have t2 : ∀ i, wr.cell? ⟨w.heap.size + 1, i, none⟩ = (#[D, .int .i64 m.off, .int .i64 m.rows, .int .i64 m.cols, .int .i64 m.ld] : Array Value)[i]? := fun i => (gw.cell s2).trans (b2 i)
    have k1 : w.heap.size < wr.heap.size := by omega
    have k2 : w.heap.size + 1 < wr.heap.size := by omega
    have hDr := hDW.grew gw
    by_cases hlt : (i : Int) < m.rows
    · have hll : (rowsTo F G m.num m.cols.toNat i).length = i := rowsTo_length _ _ _ _ _
      have h1i := fun w' => h1 i w' hlt
      go_wp2_with (first | (go_at_call 167; ((with_reducible refine (h1i _ (Grew.trans gww (by (show Grew _ _; repeat (first | (with_reducible exact Grew.refl _) | (with_reducible assumption) | (with_reducible refine Grew.ext ?_ _ _) | (with_reducible refine Grew.alloc ?_ _) | ((with_reducible refine Grew.setCell ?_ ?_ _); rotate_left; (focus (dsimp only; first | omega | (simp only [size_ext, World.size_alloc, Array.size_append]; omega)))) | (with_reducible refine Grew.drewN ?_ _) | (with_reducible refine Grew.drew ?_)))))).mono ?_); rintro e w1 ⟨r0, rfl, hr0, o1, n1, rfl⟩)))
      go_loopw [7, 20] (fun a c wr2 => ∃ (j s : Nat) (o : Array Obj) (n : Nat), (j : Int) ≤ m.cols ∧ c = .int .i64 j ∧ a = .float .f64 s ∧ IsF s (accR F G m.num i j) ∧ wr2 = ext wr o n) (fun _ c _ => (m.cols - intOf c).toNat)
      case atStart => exact ⟨0, r0, o1, n1, hn.2.1, rfl, rfl, hr0, rfl⟩
      case round =>
        obtain ⟨j, s, o4, n4, hj, rfl, rfl, hs, hwr2⟩ := hrel
        subst hwr2
        by_cases hlj : (j : Int) < m.cols
        · have Hlj := hid hlj
          have h2j := fun (s S a A : Nat) w' p q => h2 s S a A j w' p q hlj
          have hatj := fun w' p => hat i j w' p hlt hlj
          go_wp2
          refine wp_region_R (Grew wr) [] [(0,0), (0,1), (0,2), (0,3), (0,4), (0,5), (0,7), (1,6), (1,8), (0,9)] (by kernel_rfl) (by kernel_rfl) (fun _ _ _ _ h _ => h) (by first | exact ⟨_, _, ext_drew⟩ | exact ⟨_, _, drew_ext0⟩ | (show Grew _ _; repeat (first | (with_reducible exact Grew.refl _) | (with_reducible assumption) | (with_reducible refine Grew.ext ?_ _ _) | (with_reducible refine Grew.alloc ?_ _) | ((with_reducible refine Grew.setCell ?_ ?_ _); rotate_left; (focus (dsimp only; first | omega | (simp only [size_ext, World.size_alloc, Array.size_append]; omega)))) | (with_reducible refine Grew.drewN ?_ _) | (with_reducible refine Grew.drew ?_)))) ?_
          go_wp2_with (first | ((with_reducible refine wpR_id ?_); first | (refine wpR_take (v := ?_) rfl rfl ?_ ?_; rotate_left; (focus (rintro w' ⟨o', n', rfl⟩; go_simp; try with_reducible rfl)); simp only [Act.put, List.setIfInBounds_toArray, List.set_cons_zero, List.set_cons_succ]) | (refine wpR_pure (v := ?_) rfl rfl ?_ ?_; rotate_left; (focus (intro w'; go_simp; try with_reducible rfl)); simp only [Act.put, List.setIfInBounds_toArray, List.set_cons_zero, List.set_cons_succ]) | (refine wpR_takeG (v := ?_) rfl rfl rfl rfl rfl ?_ ?_; rotate_left; (focus (rintro w' ⟨o', n', rfl⟩; go_simp; try with_reducible rfl)); simp only [Act.put, List.setIfInBounds_toArray, List.set_cons_zero, List.set_cons_succ]) | (refine wpR_skip rfl rfl rfl rfl rfl rfl ?_; simp only [Act.put, List.setIfInBounds_toArray, List.set_cons_zero, List.set_cons_succ]) | (refine wpR_skipU rfl rfl rfl rfl rfl ?_; simp only [Act.put, List.setIfInBounds_toArray, List.set_cons_zero, List.set_cons_succ]) | (refine wpR_do rfl rfl (fun K hK => ?_)) | (refine wpR_doG rfl rfl rfl rfl rfl (fun K hK => ?_)) | (refine wpR_last rfl rfl (fun K hK => ?_)) | (refine wpR_nil ?_)) | ((with_reducible refine wpR_go ?_ ?_); (focus exact ⟨_, _, rfl⟩)) | ((with_reducible refine upon_id ?_); refine upon_fop rfl (by assumption) (by assumption) ?_; intro rr nn hr) | (go_at_call 186; ((with_reducible refine (hatj _ ?_).mono ?_); (focus (first | (with_reducible assumption) | (with_reducible refine FS.ext ?_ _ _; with_reducible assumption) | (with_reducible refine IS.ext ?_ _ _; with_reducible assumption) | (refine hDu _ ?_; with_reducible assumption) | (refine hOu _ ?_; with_reducible assumption) | (refine hDa _ ?_; with_reducible assumption) | (refine hDb _ ?_; with_reducible assumption) | (refine hDc _ ?_; with_reducible assumption) | (refine hDd _ ?_; with_reducible assumption) | (refine FW.fs ?_ (by omega) _; with_reducible assumption) | (refine WS.fs ?_; with_reducible assumption) | (refine FW.fs ?_ (by omega) _; assumption) | omega | assumption)); rintro e w1 ⟨ra, rfl, hra, o5, n5, rfl⟩)) | (go_at_call 168; ((with_reducible refine (h2j s _ ra _ _ hs hra (Grew.trans gww (by (show Grew _ _; repeat (first | (with_reducible exact Grew.refl _) | (with_reducible assumption) | (with_reducible refine Grew.ext ?_ _ _) | (with_reducible refine Grew.alloc ?_ _) | ((with_reducible refine Grew.setCell ?_ ?_ _); rotate_left; (focus (dsimp only; first | omega | (simp only [size_ext, World.size_alloc, Array.size_append]; omega)))) | (with_reducible refine Grew.drewN ?_ _) | (with_reducible refine Grew.drew ?_)))))).mono ?_); rintro e w1 ⟨rs, rfl, hrs, o6, n6, rfl⟩)))
          go_roundw
          case rel => exact ⟨j + 1, rs, _, _, by (have := Hlj.out; omega), by go_num, rfl, hrs, rfl⟩
          case measure => (have := Hlj.out; simp [intOf]; omega)
        · have e : j = m.cols.toNat := by omega
          have hs' : IsF s (accR F G m.num i m.cols.toNat) := by rw [← e]; exact hs
          go_wp2_with (first | (at_builtin; refine append1_f (W := W) (v := u5) (xs := rowsTo F G m.num m.cols.toNat i) (y := accR F G m.num i m.cols.toNat) finfo ?_ ?_ ?_ ((by rw [hll]; omega)) _ _ rfl rfl rfl ?_ rfl ?_; (focus (refine Grew.trans gw ?_; (show Grew _ _; repeat (first | (with_reducible exact Grew.refl _) | (with_reducible assumption) | (with_reducible refine Grew.ext ?_ _ _) | (with_reducible refine Grew.alloc ?_ _) | ((with_reducible refine Grew.setCell ?_ ?_ _); rotate_left; (focus (dsimp only; first | omega | (simp only [size_ext, World.size_alloc, Array.size_append]; omega)))) | (with_reducible refine Grew.drewN ?_ _) | (with_reducible refine Grew.drew ?_))))); (focus (refine OwnF.grew (w := wr) ?_ ?_; (focus (with_reducible assumption)); (focus (show Grew _ _; repeat (first | (with_reducible exact Grew.refl _) | (with_reducible assumption) | (with_reducible refine Grew.ext ?_ _ _) | (with_reducible refine Grew.alloc ?_ _) | ((with_reducible refine Grew.setCell ?_ ?_ _); rotate_left; (focus (dsimp only; first | omega | (simp only [size_ext, World.size_alloc, Array.size_append]; omega)))) | (with_reducible refine Grew.drewN ?_ _) | (with_reducible refine Grew.drew ?_)))))); (focus (exact hs')); (focus (first | rfl | (simp only [size_ext, World.size_alloc, Array.size_append]; done) | (simp only [size_ext, World.size_alloc, Array.size_append]; omega))); intro v oo nn ho hn))
          go_roundw
          case rel => exact ⟨i + 1, oo, nn, by omega, by go_num, rfl, by rw [rowsTo_succ]; exact ho⟩
          case measure => simp [intOf]; omega
    · have e : i = m.rows.toNat := by omega
      subst e
      go_wp2
      go_ret
      exact ⟨_, rfl, ownF_mono hown z0, gww⟩
set_option maxRecDepth 100000 in
set_option maxHeartbeats 2000000 in
/-- resid's fold.rows. -/
theorem rowsB_any (F : Nat → Nat) (G : Nat → Nat → Nat → Nat) (m : MatM) (D : Value) (P1 P2 : Value) (w : World) (hD : FS w D m.ws) (hm : m.good = true) (hwm : m.wf) (hl : m.ws.length ≤ 1000000) (hrr : m.rows ≤ 1000) (hcc : m.cols ≤ 1000)
    (h1 : ∀ (i : Nat) w', (i : Int) < m.rows → Grew w w' → Calls Try.prog 169 #[.int .i64 i, P1] w' (fun e w2 => ∃ r, e = .returned (.float .f64 r) ∧ IsF r (F i) ∧ ∃ o n, w2 = ext w' o n))
    (h2 : ∀ (s S a A j : Nat) w', IsF s S → IsF a A → (j : Int) < m.cols → Grew w w' → Calls Try.prog 170 #[.float .f64 s, .float .f64 a, .int .i64 j, P2] w' (fun e w2 => ∃ r, e = .returned (.float .f64 r) ∧ IsF r (G S A j) ∧ ∃ o n, w2 = ext w' o n)) :
   Calls Try.prog 171 #[.agg #[.func (.func 169) #[] #[P1], .func (.func 170) #[] #[P2]], .agg #[D, .int .i64 m.off, .int .i64 m.rows, .int .i64 m.cols, .int .i64 m.ld]] w
     (fun e w' => ∃ v, e = .returned v ∧ OwnF 22 w' w.heap.size v (rowsTo F G m.num m.cols.toNat m.rows.toNat) ∧ ∃ o n, w' = ext w o n) := by
  have hn := MatM.good_n hm
  have Hm := hid hm
  have Hw := hid hwm
  have hat : ∀ (i j : Nat) w', FS w' D m.ws → (i : Int) < m.rows → (j : Int) < m.cols → Calls Try.prog 186 #[.agg #[D, .int .i64 m.off, .int .i64 m.rows, .int .i64 m.cols, .int .i64 m.ld], .int .i64 i, .int .i64 j] w' (fun e w2 => ∃ b, e = .returned (.float .f64 b) ∧ IsF b (m.num i j) ∧ ∃ o n, w2 = ext w' o n) := fun i j w' h hi hj => vat_any m D i j w' h Hm.out Hw.out hi hj hl
  clear hm hwm
  go_enter Try.func171, Try.ntmps171
  refine seq_stop ?_
  go_wp2
  refine stop_go (fun W hW => ?_)
  have s1 : w.heap.size < W.heap.size := by rw [hW]; simp only [World.size_alloc]; omega
  have b1 : ∀ i, W.cell? ⟨w.heap.size, i, none⟩ = (#[.func (.func 169) #[] #[P1], .func (.func 170) #[] #[P2]] : Array Value)[i]? := by intro i; rw [hW]; go_simp
  have s2 : w.heap.size + 1 < W.heap.size := by rw [hW]; simp only [World.size_alloc]; omega
  have b2 : ∀ i, W.cell? ⟨w.heap.size + 1, i, none⟩ = (#[D, .int .i64 m.off, .int .i64 m.rows, .int .i64 m.cols, .int .i64 m.ld] : Array Value)[i]? := by intro i; rw [hW]; go_simp
  have g0 : Grew w W := by rw [hW]; exact ((Grew.refl _).alloc _).alloc _
  clear hW
  have hDW := hD.grew g0
  have z0 := g0.below.size
  go_wp2
  go_loopw [5, 11] (fun v c wr => ∃ (i : Nat) (o : Array Obj) (n : Nat), (i : Int) ≤ m.rows ∧ c = .int .i64 i ∧ wr = ext W o n ∧ OwnF 22 wr W.heap.size v (rowsTo F G m.num m.cols.toNat i)) (fun _ c _ => (m.rows - intOf c).toNat)
  case atStart => exact ⟨0, #[], _, hn.1, rfl, ext_zero.symm, by simpa [rowsTo] using OwnF.nil _ _ _⟩
  case round =>
    obtain ⟨i, o3, n3, hi, rfl, hwr, hown⟩ := hrel
    have gw : Grew W wr := ⟨_, _, hwr⟩
    have gww : Grew w wr := Grew.trans g0 gw
    have zr := gw.below.size
    clear hwr
    have t1 : ∀ i, wr.cell? ⟨w.heap.size, i, none⟩ = (#[.func (.func 169) #[] #[P1], .func (.func 170) #[] #[P2]] : Array Value)[i]? := fun i => (gw.cell s1).trans (b1 i)
    have t2 : ∀ i, wr.cell? ⟨w.heap.size + 1, i, none⟩ = (#[D, .int .i64 m.off, .int .i64 m.rows, .int .i64 m.cols, .int .i64 m.ld] : Array Value)[i]? := fun i => (gw.cell s2).trans (b2 i)
    have k1 : w.heap.size < wr.heap.size := by omega
    have k2 : w.heap.size + 1 < wr.heap.size := by omega
    have hDr := hDW.grew gw
    by_cases hlt : (i : Int) < m.rows
    · have hll : (rowsTo F G m.num m.cols.toNat i).length = i := rowsTo_length _ _ _ _ _
      have h1i := fun w' => h1 i w' hlt
      go_wp2_with (first | (go_at_call 169; ((with_reducible refine (h1i _ (Grew.trans gww (by (show Grew _ _; repeat (first | (with_reducible exact Grew.refl _) | (with_reducible assumption) | (with_reducible refine Grew.ext ?_ _ _) | (with_reducible refine Grew.alloc ?_ _) | ((with_reducible refine Grew.setCell ?_ ?_ _); rotate_left; (focus (dsimp only; first | omega | (simp only [size_ext, World.size_alloc, Array.size_append]; omega)))) | (with_reducible refine Grew.drewN ?_ _) | (with_reducible refine Grew.drew ?_)))))).mono ?_); rintro e w1 ⟨r0, rfl, hr0, o1, n1, rfl⟩)))
      go_loopw [7, 20] (fun a c wr2 => ∃ (j s : Nat) (o : Array Obj) (n : Nat), (j : Int) ≤ m.cols ∧ c = .int .i64 j ∧ a = .float .f64 s ∧ IsF s (accR F G m.num i j) ∧ wr2 = ext wr o n) (fun _ c _ => (m.cols - intOf c).toNat)
      case atStart => exact ⟨0, r0, o1, n1, hn.2.1, rfl, rfl, hr0, rfl⟩
      case round =>
        obtain ⟨j, s, o4, n4, hj, rfl, rfl, hs, hwr2⟩ := hrel
        subst hwr2
        by_cases hlj : (j : Int) < m.cols
        · have Hlj := hid hlj
          have h2j := fun (s S a A : Nat) w' p q => h2 s S a A j w' p q hlj
          have hatj := fun w' p => hat i j w' p hlt hlj
          go_wp2
          refine wp_region_R (Grew wr) [] [(0,0), (0,1), (0,2), (0,3), (0,4), (0,5), (0,7), (1,6), (1,8), (0,9)] (by kernel_rfl) (by kernel_rfl) (fun _ _ _ _ h _ => h) (by first | exact ⟨_, _, ext_drew⟩ | exact ⟨_, _, drew_ext0⟩ | (show Grew _ _; repeat (first | (with_reducible exact Grew.refl _) | (with_reducible assumption) | (with_reducible refine Grew.ext ?_ _ _) | (with_reducible refine Grew.alloc ?_ _) | ((with_reducible refine Grew.setCell ?_ ?_ _); rotate_left; (focus (dsimp only; first | omega | (simp only [size_ext, World.size_alloc, Array.size_append]; omega)))) | (with_reducible refine Grew.drewN ?_ _) | (with_reducible refine Grew.drew ?_)))) ?_
          go_wp2_with (first | ((with_reducible refine wpR_id ?_); first | (refine wpR_take (v := ?_) rfl rfl ?_ ?_; rotate_left; (focus (rintro w' ⟨o', n', rfl⟩; go_simp; try with_reducible rfl)); simp only [Act.put, List.setIfInBounds_toArray, List.set_cons_zero, List.set_cons_succ]) | (refine wpR_pure (v := ?_) rfl rfl ?_ ?_; rotate_left; (focus (intro w'; go_simp; try with_reducible rfl)); simp only [Act.put, List.setIfInBounds_toArray, List.set_cons_zero, List.set_cons_succ]) | (refine wpR_takeG (v := ?_) rfl rfl rfl rfl rfl ?_ ?_; rotate_left; (focus (rintro w' ⟨o', n', rfl⟩; go_simp; try with_reducible rfl)); simp only [Act.put, List.setIfInBounds_toArray, List.set_cons_zero, List.set_cons_succ]) | (refine wpR_skip rfl rfl rfl rfl rfl rfl ?_; simp only [Act.put, List.setIfInBounds_toArray, List.set_cons_zero, List.set_cons_succ]) | (refine wpR_skipU rfl rfl rfl rfl rfl ?_; simp only [Act.put, List.setIfInBounds_toArray, List.set_cons_zero, List.set_cons_succ]) | (refine wpR_do rfl rfl (fun K hK => ?_)) | (refine wpR_doG rfl rfl rfl rfl rfl (fun K hK => ?_)) | (refine wpR_last rfl rfl (fun K hK => ?_)) | (refine wpR_nil ?_)) | ((with_reducible refine wpR_go ?_ ?_); (focus exact ⟨_, _, rfl⟩)) | ((with_reducible refine upon_id ?_); refine upon_fop rfl (by assumption) (by assumption) ?_; intro rr nn hr) | (go_at_call 186; ((with_reducible refine (hatj _ ?_).mono ?_); (focus (first | (with_reducible assumption) | (with_reducible refine FS.ext ?_ _ _; with_reducible assumption) | (with_reducible refine IS.ext ?_ _ _; with_reducible assumption) | (refine hDu _ ?_; with_reducible assumption) | (refine hOu _ ?_; with_reducible assumption) | (refine hDa _ ?_; with_reducible assumption) | (refine hDb _ ?_; with_reducible assumption) | (refine hDc _ ?_; with_reducible assumption) | (refine hDd _ ?_; with_reducible assumption) | (refine FW.fs ?_ (by omega) _; with_reducible assumption) | (refine WS.fs ?_; with_reducible assumption) | (refine FW.fs ?_ (by omega) _; assumption) | omega | assumption)); rintro e w1 ⟨ra, rfl, hra, o5, n5, rfl⟩)) | (go_at_call 170; ((with_reducible refine (h2j s _ ra _ _ hs hra (Grew.trans gww (by (show Grew _ _; repeat (first | (with_reducible exact Grew.refl _) | (with_reducible assumption) | (with_reducible refine Grew.ext ?_ _ _) | (with_reducible refine Grew.alloc ?_ _) | ((with_reducible refine Grew.setCell ?_ ?_ _); rotate_left; (focus (dsimp only; first | omega | (simp only [size_ext, World.size_alloc, Array.size_append]; omega)))) | (with_reducible refine Grew.drewN ?_ _) | (with_reducible refine Grew.drew ?_)))))).mono ?_); rintro e w1 ⟨rs, rfl, hrs, o6, n6, rfl⟩)))
          go_roundw
          case rel => exact ⟨j + 1, rs, _, _, by (have := Hlj.out; omega), by go_num, rfl, hrs, rfl⟩
          case measure => (have := Hlj.out; simp [intOf]; omega)
        · have e : j = m.cols.toNat := by omega
          have hs' : IsF s (accR F G m.num i m.cols.toNat) := by rw [← e]; exact hs
          go_wp2_with (first | (at_builtin; refine append1_f (W := W) (v := u5) (xs := rowsTo F G m.num m.cols.toNat i) (y := accR F G m.num i m.cols.toNat) finfo ?_ ?_ ?_ ((by rw [hll]; omega)) _ _ rfl rfl rfl ?_ rfl ?_; (focus (refine Grew.trans gw ?_; (show Grew _ _; repeat (first | (with_reducible exact Grew.refl _) | (with_reducible assumption) | (with_reducible refine Grew.ext ?_ _ _) | (with_reducible refine Grew.alloc ?_ _) | ((with_reducible refine Grew.setCell ?_ ?_ _); rotate_left; (focus (dsimp only; first | omega | (simp only [size_ext, World.size_alloc, Array.size_append]; omega)))) | (with_reducible refine Grew.drewN ?_ _) | (with_reducible refine Grew.drew ?_))))); (focus (refine OwnF.grew (w := wr) ?_ ?_; (focus (with_reducible assumption)); (focus (show Grew _ _; repeat (first | (with_reducible exact Grew.refl _) | (with_reducible assumption) | (with_reducible refine Grew.ext ?_ _ _) | (with_reducible refine Grew.alloc ?_ _) | ((with_reducible refine Grew.setCell ?_ ?_ _); rotate_left; (focus (dsimp only; first | omega | (simp only [size_ext, World.size_alloc, Array.size_append]; omega)))) | (with_reducible refine Grew.drewN ?_ _) | (with_reducible refine Grew.drew ?_)))))); (focus (exact hs')); (focus (first | rfl | (simp only [size_ext, World.size_alloc, Array.size_append]; done) | (simp only [size_ext, World.size_alloc, Array.size_append]; omega))); intro v oo nn ho hn))
          go_roundw
          case rel => exact ⟨i + 1, oo, nn, by omega, by go_num, rfl, by rw [rowsTo_succ]; exact ho⟩
          case measure => simp [intOf]; omega
    · have e : i = m.rows.toNat := by omega
      subst e
      go_wp2
      go_ret
      exact ⟨_, rfl, ownF_mono hown z0, gww⟩
end Go.Proofs.Ytcmggfpcbijcjaa
end
section
/-
  Contracts: resid.check, resid.Rest.
-/
set_option linter.unusedSimpArgs false
set_option linter.unusedVariables false
open Go Go.RowKit Sedge
namespace Go.Proofs.Ytcmggfpcbijcjaa
def chkE (m : MatM) (n1 n2 : Nat) : Int := if m.good = false then 1 else if m.rows ≠ m.cols ∨ 64 < m.rows ∨ (n1 : Int) ≠ m.rows ∨ (n2 : Int) ≠ m.rows then 3 else 0
set_option maxRecDepth 100000 in
set_option maxHeartbeats 1000000 in
/-- resid.check. -/
theorem rcheck_any (m : MatM) (D : Value) (a1 a2 : Option Addr) (n1 n2 c1 c2 : Nat) (w : World) (hD : FS w D m.ws) (hwf : m.wf) :
   Calls Try.prog 166 #[.agg #[D, .int .i64 m.off, .int .i64 m.rows, .int .i64 m.cols, .int .i64 m.ld], .slice a1 n1 c1, .slice a2 n2 c2] w (fun e w' => e = .returned (.int .i64 (chkE m n1 n2)) ∧ ∃ o n, w' = ext w o n) := by
  have Hw := hid hwf
  clear hwf
  cases hg : m.good
  · have q := hid (show chkE m n1 n2 = 1 by unfold chkE; rw [if_pos hg])
    go_enter Try.func166, Try.ntmps166
    refine seq_stop ?_
    go_wp2
    refine stop_go (fun W hW => ?_)
    have s1 : w.heap.size < W.heap.size := by rw [hW]; simp only [World.size_alloc]; omega
    have b1 : ∀ i, W.cell? ⟨w.heap.size, i, none⟩ = (#[D, .int .i64 m.off, .int .i64 m.rows, .int .i64 m.cols, .int .i64 m.ld] : Array Value)[i]? := by intro i; rw [hW]; go_simp
    have g0 : Grew w W := by rw [hW]; exact (Grew.refl _).alloc _
    clear hW
    have hDW := hD.grew g0
    go_wp2_with (first | (go_at_call 130; ((with_reducible refine (good_any m _ _ ?_ Hw.out).mono ?_); (focus (first | (with_reducible assumption) | (with_reducible refine FS.ext ?_ _ _; with_reducible assumption) | (with_reducible refine IS.ext ?_ _ _; with_reducible assumption) | (refine hDu _ ?_; with_reducible assumption) | (refine hOu _ ?_; with_reducible assumption) | (refine hDa _ ?_; with_reducible assumption) | (refine hDb _ ?_; with_reducible assumption) | (refine hDc _ ?_; with_reducible assumption) | (refine hDd _ ?_; with_reducible assumption) | (refine FW.fs ?_ (by omega) _; with_reducible assumption) | (refine WS.fs ?_; with_reducible assumption) | (refine FW.fs ?_ (by omega) _; assumption) | omega | assumption)); rintro e w1 ⟨rfl, o1, n1, rfl⟩)))
    go_ret
    exact ⟨ret_int q.out.symm, by (show Grew _ _; repeat (first | (with_reducible exact Grew.refl _) | (with_reducible assumption) | (with_reducible refine Grew.ext ?_ _ _) | (with_reducible refine Grew.alloc ?_ _) | ((with_reducible refine Grew.setCell ?_ ?_ _); rotate_left; (focus (dsimp only; first | omega | (simp only [size_ext, World.size_alloc, Array.size_append]; omega)))) | (with_reducible refine Grew.drewN ?_ _) | (with_reducible refine Grew.drew ?_)))⟩
  · have h0 : ¬ m.good = false := by rw [hg]; decide
    by_cases r1 : m.rows = m.cols
    · have e1 : (m.rows != m.cols) = false := by simpa using r1
      by_cases r2 : 64 < m.rows
      · have e2 : decide (64 < m.rows) = true := by simpa using r2
        have q := hid (show chkE m n1 n2 = 3 by unfold chkE; rw [if_neg h0, if_pos (.inr (.inl r2))])
        clear r1 r2
        go_enter Try.func166, Try.ntmps166
        refine seq_stop ?_
        go_wp2
        refine stop_go (fun W hW => ?_)
        have s1 : w.heap.size < W.heap.size := by rw [hW]; simp only [World.size_alloc]; omega
        have b1 : ∀ i, W.cell? ⟨w.heap.size, i, none⟩ = (#[D, .int .i64 m.off, .int .i64 m.rows, .int .i64 m.cols, .int .i64 m.ld] : Array Value)[i]? := by intro i; rw [hW]; go_simp
        have g0 : Grew w W := by rw [hW]; exact (Grew.refl _).alloc _
        clear hW
        have hDW := hD.grew g0
        go_wp2_with (first | (go_at_call 130; ((with_reducible refine (good_any m _ _ ?_ Hw.out).mono ?_); (focus (first | (with_reducible assumption) | (with_reducible refine FS.ext ?_ _ _; with_reducible assumption) | (with_reducible refine IS.ext ?_ _ _; with_reducible assumption) | (refine hDu _ ?_; with_reducible assumption) | (refine hOu _ ?_; with_reducible assumption) | (refine hDa _ ?_; with_reducible assumption) | (refine hDb _ ?_; with_reducible assumption) | (refine hDc _ ?_; with_reducible assumption) | (refine hDd _ ?_; with_reducible assumption) | (refine FW.fs ?_ (by omega) _; with_reducible assumption) | (refine WS.fs ?_; with_reducible assumption) | (refine FW.fs ?_ (by omega) _; assumption) | omega | assumption)); rintro e w1 ⟨rfl, o1, n1, rfl⟩)))
        go_ret
        exact ⟨ret_int q.out.symm, by (show Grew _ _; repeat (first | (with_reducible exact Grew.refl _) | (with_reducible assumption) | (with_reducible refine Grew.ext ?_ _ _) | (with_reducible refine Grew.alloc ?_ _) | ((with_reducible refine Grew.setCell ?_ ?_ _); rotate_left; (focus (dsimp only; first | omega | (simp only [size_ext, World.size_alloc, Array.size_append]; omega)))) | (with_reducible refine Grew.drewN ?_ _) | (with_reducible refine Grew.drew ?_)))⟩
      · have e2 : decide (64 < m.rows) = false := by simpa using r2
        by_cases r3 : (n1 : Int) = m.rows
        · have e3 : ((n1 : Int) != m.rows) = false := by simpa using r3
          by_cases r4 : (n2 : Int) = m.rows
          · have e4 : ((n2 : Int) != m.rows) = false := by simpa using r4
            have q := hid (show chkE m n1 n2 = 0 by unfold chkE; rw [if_neg h0, if_neg (fun h => h.elim (fun h => h r1) (fun h => h.elim r2 (fun h => h.elim (fun h => h r3) (fun h => h r4))))])
            clear r1 r2 r3 r4
            go_enter Try.func166, Try.ntmps166
            refine seq_stop ?_
            go_wp2
            refine stop_go (fun W hW => ?_)
            have s1 : w.heap.size < W.heap.size := by rw [hW]; simp only [World.size_alloc]; omega
            have b1 : ∀ i, W.cell? ⟨w.heap.size, i, none⟩ = (#[D, .int .i64 m.off, .int .i64 m.rows, .int .i64 m.cols, .int .i64 m.ld] : Array Value)[i]? := by intro i; rw [hW]; go_simp
            have g0 : Grew w W := by rw [hW]; exact (Grew.refl _).alloc _
            clear hW
            have hDW := hD.grew g0
            go_wp2_with (first | (go_at_call 130; ((with_reducible refine (good_any m _ _ ?_ Hw.out).mono ?_); (focus (first | (with_reducible assumption) | (with_reducible refine FS.ext ?_ _ _; with_reducible assumption) | (with_reducible refine IS.ext ?_ _ _; with_reducible assumption) | (refine hDu _ ?_; with_reducible assumption) | (refine hOu _ ?_; with_reducible assumption) | (refine hDa _ ?_; with_reducible assumption) | (refine hDb _ ?_; with_reducible assumption) | (refine hDc _ ?_; with_reducible assumption) | (refine hDd _ ?_; with_reducible assumption) | (refine FW.fs ?_ (by omega) _; with_reducible assumption) | (refine WS.fs ?_; with_reducible assumption) | (refine FW.fs ?_ (by omega) _; assumption) | omega | assumption)); rintro e w1 ⟨rfl, o1, n1, rfl⟩)))
            go_ret
            exact ⟨ret_int q.out.symm, by (show Grew _ _; repeat (first | (with_reducible exact Grew.refl _) | (with_reducible assumption) | (with_reducible refine Grew.ext ?_ _ _) | (with_reducible refine Grew.alloc ?_ _) | ((with_reducible refine Grew.setCell ?_ ?_ _); rotate_left; (focus (dsimp only; first | omega | (simp only [size_ext, World.size_alloc, Array.size_append]; omega)))) | (with_reducible refine Grew.drewN ?_ _) | (with_reducible refine Grew.drew ?_)))⟩
          · have e4 : ((n2 : Int) != m.rows) = true := by simpa using r4
            have q := hid (show chkE m n1 n2 = 3 by unfold chkE; rw [if_neg h0, if_pos (.inr (.inr (.inr r4)))])
            clear r1 r2 r3 r4
            go_enter Try.func166, Try.ntmps166
            refine seq_stop ?_
            go_wp2
            refine stop_go (fun W hW => ?_)
            have s1 : w.heap.size < W.heap.size := by rw [hW]; simp only [World.size_alloc]; omega
            have b1 : ∀ i, W.cell? ⟨w.heap.size, i, none⟩ = (#[D, .int .i64 m.off, .int .i64 m.rows, .int .i64 m.cols, .int .i64 m.ld] : Array Value)[i]? := by intro i; rw [hW]; go_simp
            have g0 : Grew w W := by rw [hW]; exact (Grew.refl _).alloc _
            clear hW
            have hDW := hD.grew g0
            go_wp2_with (first | (go_at_call 130; ((with_reducible refine (good_any m _ _ ?_ Hw.out).mono ?_); (focus (first | (with_reducible assumption) | (with_reducible refine FS.ext ?_ _ _; with_reducible assumption) | (with_reducible refine IS.ext ?_ _ _; with_reducible assumption) | (refine hDu _ ?_; with_reducible assumption) | (refine hOu _ ?_; with_reducible assumption) | (refine hDa _ ?_; with_reducible assumption) | (refine hDb _ ?_; with_reducible assumption) | (refine hDc _ ?_; with_reducible assumption) | (refine hDd _ ?_; with_reducible assumption) | (refine FW.fs ?_ (by omega) _; with_reducible assumption) | (refine WS.fs ?_; with_reducible assumption) | (refine FW.fs ?_ (by omega) _; assumption) | omega | assumption)); rintro e w1 ⟨rfl, o1, n1, rfl⟩)))
            go_ret
            exact ⟨ret_int q.out.symm, by (show Grew _ _; repeat (first | (with_reducible exact Grew.refl _) | (with_reducible assumption) | (with_reducible refine Grew.ext ?_ _ _) | (with_reducible refine Grew.alloc ?_ _) | ((with_reducible refine Grew.setCell ?_ ?_ _); rotate_left; (focus (dsimp only; first | omega | (simp only [size_ext, World.size_alloc, Array.size_append]; omega)))) | (with_reducible refine Grew.drewN ?_ _) | (with_reducible refine Grew.drew ?_)))⟩
        · have e3 : ((n1 : Int) != m.rows) = true := by simpa using r3
          have q := hid (show chkE m n1 n2 = 3 by unfold chkE; rw [if_neg h0, if_pos (.inr (.inr (.inl r3)))])
          clear r1 r2 r3
          go_enter Try.func166, Try.ntmps166
          refine seq_stop ?_
          go_wp2
          refine stop_go (fun W hW => ?_)
          have s1 : w.heap.size < W.heap.size := by rw [hW]; simp only [World.size_alloc]; omega
          have b1 : ∀ i, W.cell? ⟨w.heap.size, i, none⟩ = (#[D, .int .i64 m.off, .int .i64 m.rows, .int .i64 m.cols, .int .i64 m.ld] : Array Value)[i]? := by intro i; rw [hW]; go_simp
          have g0 : Grew w W := by rw [hW]; exact (Grew.refl _).alloc _
          clear hW
          have hDW := hD.grew g0
          go_wp2_with (first | (go_at_call 130; ((with_reducible refine (good_any m _ _ ?_ Hw.out).mono ?_); (focus (first | (with_reducible assumption) | (with_reducible refine FS.ext ?_ _ _; with_reducible assumption) | (with_reducible refine IS.ext ?_ _ _; with_reducible assumption) | (refine hDu _ ?_; with_reducible assumption) | (refine hOu _ ?_; with_reducible assumption) | (refine hDa _ ?_; with_reducible assumption) | (refine hDb _ ?_; with_reducible assumption) | (refine hDc _ ?_; with_reducible assumption) | (refine hDd _ ?_; with_reducible assumption) | (refine FW.fs ?_ (by omega) _; with_reducible assumption) | (refine WS.fs ?_; with_reducible assumption) | (refine FW.fs ?_ (by omega) _; assumption) | omega | assumption)); rintro e w1 ⟨rfl, o1, n1, rfl⟩)))
          go_ret
          exact ⟨ret_int q.out.symm, by (show Grew _ _; repeat (first | (with_reducible exact Grew.refl _) | (with_reducible assumption) | (with_reducible refine Grew.ext ?_ _ _) | (with_reducible refine Grew.alloc ?_ _) | ((with_reducible refine Grew.setCell ?_ ?_ _); rotate_left; (focus (dsimp only; first | omega | (simp only [size_ext, World.size_alloc, Array.size_append]; omega)))) | (with_reducible refine Grew.drewN ?_ _) | (with_reducible refine Grew.drew ?_)))⟩
    · have e1 : (m.rows != m.cols) = true := by simpa using r1
      have q := hid (show chkE m n1 n2 = 3 by unfold chkE; rw [if_neg h0, if_pos (.inl r1)])
      clear r1
      go_enter Try.func166, Try.ntmps166
      refine seq_stop ?_
      go_wp2
      refine stop_go (fun W hW => ?_)
      have s1 : w.heap.size < W.heap.size := by rw [hW]; simp only [World.size_alloc]; omega
      have b1 : ∀ i, W.cell? ⟨w.heap.size, i, none⟩ = (#[D, .int .i64 m.off, .int .i64 m.rows, .int .i64 m.cols, .int .i64 m.ld] : Array Value)[i]? := by intro i; rw [hW]; go_simp
      have g0 : Grew w W := by rw [hW]; exact (Grew.refl _).alloc _
      clear hW
      have hDW := hD.grew g0
      go_wp2_with (first | (go_at_call 130; ((with_reducible refine (good_any m _ _ ?_ Hw.out).mono ?_); (focus (first | (with_reducible assumption) | (with_reducible refine FS.ext ?_ _ _; with_reducible assumption) | (with_reducible refine IS.ext ?_ _ _; with_reducible assumption) | (refine hDu _ ?_; with_reducible assumption) | (refine hOu _ ?_; with_reducible assumption) | (refine hDa _ ?_; with_reducible assumption) | (refine hDb _ ?_; with_reducible assumption) | (refine hDc _ ?_; with_reducible assumption) | (refine hDd _ ?_; with_reducible assumption) | (refine FW.fs ?_ (by omega) _; with_reducible assumption) | (refine WS.fs ?_; with_reducible assumption) | (refine FW.fs ?_ (by omega) _; assumption) | omega | assumption)); rintro e w1 ⟨rfl, o1, n1, rfl⟩)))
      go_ret
      exact ⟨ret_int q.out.symm, by (show Grew _ _; repeat (first | (with_reducible exact Grew.refl _) | (with_reducible assumption) | (with_reducible refine Grew.ext ?_ _ _) | (with_reducible refine Grew.alloc ?_ _) | ((with_reducible refine Grew.setCell ?_ ?_ _); rotate_left; (focus (dsimp only; first | omega | (simp only [size_ext, World.size_alloc, Array.size_append]; omega)))) | (with_reducible refine Grew.drewN ?_ _) | (with_reducible refine Grew.drew ?_)))⟩
def resL (m : MatM) (X Y : List Nat) : List Nat := rowsTo (fun i => Y.getD i 0) (fun s a j => fsub s (fmul a (X.getD j 0))) m.num m.cols.toNat m.rows.toNat
def rebL (m : MatM) (X Y : List Nat) : List Nat := rowsTo (fun i => fabs (Y.getD i 0)) (fun s a j => fadd s (fmul (fabs a) (fabs (X.getD j 0)))) m.num m.cols.toNat m.rows.toNat
set_option maxRecDepth 100000 in
set_option maxHeartbeats 1000000 in
/-- resid.Rest that tells an error. -/
theorem rest_no (m : MatM) (D VX VY : Value) (X Y : List Nat) (w : World) (hD : FS w D m.ws) (hX : FS w VX X) (hY : FS w VY Y) (hwf : m.wf) (hne : chkE m X.length Y.length ≠ 0) :
   Calls Try.prog 94 #[.agg #[D, .int .i64 m.off, .int .i64 m.rows, .int .i64 m.cols, .int .i64 m.ld], VX, VY] w (fun e w' => e = .returned (.tuple #[.slice none 0 0, .slice none 0 0, .int .i64 (chkE m X.length Y.length)]) ∧ ∃ o n, w' = ext w o n) := by
  obtain ⟨aX, cX, rfl⟩ := hX.shape
  obtain ⟨aY, cY, rfl⟩ := hY.shape
  obtain ⟨E, hE⟩ : ∃ E, E = chkE m X.length Y.length := ⟨_, rfl⟩
  have hck : ∀ w', FS w' D m.ws → Calls Try.prog 166 #[.agg #[D, .int .i64 m.off, .int .i64 m.rows, .int .i64 m.cols, .int .i64 m.ld], .slice aX X.length cX, .slice aY Y.length cY] w' (fun e w2 => e = .returned (.int .i64 E) ∧ ∃ o n, w2 = ext w' o n) := fun w' h => by
    rw [hE]; exact rcheck_any m D aX aY _ _ cX cY w' h hwf
  rw [← hE] at hne ⊢
  have d1 : (E != 0) = true := by simpa using hne
  clear hE hne hwf
  go_enter Try.func94, Try.ntmps94
  refine seq_stop ?_
  go_wp2
  refine stop_go (fun W hW => ?_)
  have s1 : w.heap.size < W.heap.size := by rw [hW]; simp only [World.size_alloc]; omega
  have b1 : ∀ i, W.cell? ⟨w.heap.size, i, none⟩ = (#[D, .int .i64 m.off, .int .i64 m.rows, .int .i64 m.cols, .int .i64 m.ld] : Array Value)[i]? := by intro i; rw [hW]; go_simp
  have s2 : w.heap.size + 1 < W.heap.size := by rw [hW]; simp only [World.size_alloc]; omega
  have b2 : ∀ i, W.cell? ⟨w.heap.size + 1, i, none⟩ = (#[.slice aX X.length cX] : Array Value)[i]? := by intro i; rw [hW]; go_simp
  have s3 : w.heap.size + 1 + 1 < W.heap.size := by rw [hW]; simp only [World.size_alloc]; omega
  have b3 : ∀ i, W.cell? ⟨w.heap.size + 1 + 1, i, none⟩ = (#[.slice aY Y.length cY] : Array Value)[i]? := by intro i; rw [hW]; go_simp
  have g0 : Grew w W := by rw [hW]; exact (((Grew.refl _).alloc _).alloc _).alloc _
  clear hW
  have hDW := hD.grew g0
  go_wp2_with (first | (go_at_call 166; ((with_reducible refine (hck _ ?_).mono ?_); (focus (first | (with_reducible assumption) | (with_reducible refine FS.ext ?_ _ _; with_reducible assumption) | (with_reducible refine IS.ext ?_ _ _; with_reducible assumption) | (refine hDu _ ?_; with_reducible assumption) | (refine hOu _ ?_; with_reducible assumption) | (refine hDa _ ?_; with_reducible assumption) | (refine hDb _ ?_; with_reducible assumption) | (refine hDc _ ?_; with_reducible assumption) | (refine hDd _ ?_; with_reducible assumption) | (refine FW.fs ?_ (by omega) _; with_reducible assumption) | (refine WS.fs ?_; with_reducible assumption) | (refine FW.fs ?_ (by omega) _; assumption) | omega | assumption)); rintro e w1 ⟨rfl, o1, n1, rfl⟩)))
  refine bodyPost_ret (v := .tuple #[.slice none 0 0, .slice none 0 0, .int .i64 E]) (by simp [results, Try.results94, go_sem, *]) rfl ?_
  exact ⟨rfl, by (show Grew _ _; repeat (first | (with_reducible exact Grew.refl _) | (with_reducible assumption) | (with_reducible refine Grew.ext ?_ _ _) | (with_reducible refine Grew.alloc ?_ _) | ((with_reducible refine Grew.setCell ?_ ?_ _); rotate_left; (focus (dsimp only; first | omega | (simp only [size_ext, World.size_alloc, Array.size_append]; omega)))) | (with_reducible refine Grew.drewN ?_ _) | (with_reducible refine Grew.drew ?_)))⟩
set_option maxRecDepth 100000 in
set_option maxHeartbeats 2000000 in
/-- resid.Rest. -/
theorem rest_any (m : MatM) (D VX VY : Value) (X Y : List Nat) (w : World) (hD : FS w D m.ws) (hX : FS w VX X) (hY : FS w VY Y) (hm : m.good = true) (hwf : m.wf) (hl : m.ws.length ≤ 1000000) (hrc : m.rows = m.cols) (hr : m.rows ≤ 64) (hnX : (X.length : Int) = m.rows) (hnY : (Y.length : Int) = m.rows) :
   Calls Try.prog 94 #[.agg #[D, .int .i64 m.off, .int .i64 m.rows, .int .i64 m.cols, .int .i64 m.ld], VX, VY] w (fun e w' => ∃ v1 v2, e = .returned (.tuple #[v1, v2, .int .i64 0]) ∧ OwnF 22 w' w.heap.size v1 (resL m X Y) ∧ OwnF 22 w' w.heap.size v2 (rebL m X Y) ∧ ∃ o n, w' = ext w o n) := by
  obtain ⟨aX, cX, rfl⟩ := hX.shape
  obtain ⟨aY, cY, rfl⟩ := hY.shape
  have hck : ∀ w', FS w' D m.ws → Calls Try.prog 166 #[.agg #[D, .int .i64 m.off, .int .i64 m.rows, .int .i64 m.cols, .int .i64 m.ld], .slice aX X.length cX, .slice aY Y.length cY] w' (fun e w2 => e = .returned (.int .i64 0) ∧ ∃ o n, w2 = ext w' o n) := fun w' h => by
    have h2 := rcheck_any m D aX aY X.length Y.length cX cY w' h hwf
    rw [show chkE m X.length Y.length = 0 by unfold chkE; rw [if_neg (by rw [hm]; decide), if_neg (by omega)]] at h2
    exact h2
  have hra : ∀ T1 T2 w', FS w' D m.ws → FS w' (.slice aX X.length cX) X → FS w' (.slice aY Y.length cY) Y → (∀ i, w'.cell? ⟨T1, i, none⟩ = (#[.slice aX X.length cX] : Array Value)[i]?) → (∀ i, w'.cell? ⟨T2, i, none⟩ = (#[.slice aY Y.length cY] : Array Value)[i]?) → T1 < w'.heap.size → T2 < w'.heap.size →
      Calls Try.prog 171 #[.agg #[.func (.func 167) #[] #[.pointer (some ⟨T2, 0, none⟩)], .func (.func 168) #[] #[.pointer (some ⟨T1, 0, none⟩)]], .agg #[D, .int .i64 m.off, .int .i64 m.rows, .int .i64 m.cols, .int .i64 m.ld]] w' (fun e w2 => ∃ v, e = .returned v ∧ OwnF 22 w2 w'.heap.size v (resL m X Y) ∧ ∃ o n, w2 = ext w' o n) := fun T1 T2 w' h1 h2 h3 h4 h5 h6 h7 =>
    rowsA_any _ _ m D _ _ w' h1 hm hwf hl (by omega) (by omega) (fun i w2 hi hg => rc1_any i T2 _ Y w2 (fun k => (hg.cell h7).trans (h5 k)) (h3.grew hg) (by omega)) (fun s S a A j w2 hs ha hj hg => rc2_any s S a A j T1 _ X w2 hs ha (fun k => (hg.cell h6).trans (h4 k)) (h2.grew hg) (by omega))
  have hrb : ∀ T1 T2 w', FS w' D m.ws → FS w' (.slice aX X.length cX) X → FS w' (.slice aY Y.length cY) Y → (∀ i, w'.cell? ⟨T1, i, none⟩ = (#[.slice aX X.length cX] : Array Value)[i]?) → (∀ i, w'.cell? ⟨T2, i, none⟩ = (#[.slice aY Y.length cY] : Array Value)[i]?) → T1 < w'.heap.size → T2 < w'.heap.size →
      Calls Try.prog 171 #[.agg #[.func (.func 169) #[] #[.pointer (some ⟨T2, 0, none⟩)], .func (.func 170) #[] #[.pointer (some ⟨T1, 0, none⟩)]], .agg #[D, .int .i64 m.off, .int .i64 m.rows, .int .i64 m.cols, .int .i64 m.ld]] w' (fun e w2 => ∃ v, e = .returned v ∧ OwnF 22 w2 w'.heap.size v (rebL m X Y) ∧ ∃ o n, w2 = ext w' o n) := fun T1 T2 w' h1 h2 h3 h4 h5 h6 h7 =>
    rowsB_any _ _ m D _ _ w' h1 hm hwf hl (by omega) (by omega) (fun i w2 hi hg => rc3_any i T2 _ Y w2 (fun k => (hg.cell h7).trans (h5 k)) (h3.grew hg) (by omega)) (fun s S a A j w2 hs ha hj hg => rc4_any s S a A j T1 _ X w2 hs ha (fun k => (hg.cell h6).trans (h4 k)) (by have := hg.below.size; omega) (h2.grew hg) (by omega))
  clear hwf hm hrc hr hnX hnY
  have hmf := hmf
  go_enter Try.func94, Try.ntmps94
  refine seq_stop ?_
  go_wp2
  refine stop_go (fun W hW => ?_)
  have s1 : w.heap.size < W.heap.size := by rw [hW]; simp only [World.size_alloc]; omega
  have b1 : ∀ i, W.cell? ⟨w.heap.size, i, none⟩ = (#[D, .int .i64 m.off, .int .i64 m.rows, .int .i64 m.cols, .int .i64 m.ld] : Array Value)[i]? := by intro i; rw [hW]; go_simp
  have s2 : w.heap.size + 1 < W.heap.size := by rw [hW]; simp only [World.size_alloc]; omega
  have b2 : ∀ i, W.cell? ⟨w.heap.size + 1, i, none⟩ = (#[.slice aX X.length cX] : Array Value)[i]? := by intro i; rw [hW]; go_simp
  have s3 : w.heap.size + 1 + 1 < W.heap.size := by rw [hW]; simp only [World.size_alloc]; omega
  have b3 : ∀ i, W.cell? ⟨w.heap.size + 1 + 1, i, none⟩ = (#[.slice aY Y.length cY] : Array Value)[i]? := by intro i; rw [hW]; go_simp
  have g0 : Grew w W := by rw [hW]; exact (((Grew.refl _).alloc _).alloc _).alloc _
  clear hW
  have hDW := hD.grew g0
  have hXW := hX.grew g0
  have hYW := hY.grew g0
  have z0 := g0.below.size
  go_wp2_with (first | (go_at_call 166; ((with_reducible refine (hck _ ?_).mono ?_); (focus (first | (with_reducible assumption) | (with_reducible refine FS.ext ?_ _ _; with_reducible assumption) | (with_reducible refine IS.ext ?_ _ _; with_reducible assumption) | (refine hDu _ ?_; with_reducible assumption) | (refine hOu _ ?_; with_reducible assumption) | (refine hDa _ ?_; with_reducible assumption) | (refine hDb _ ?_; with_reducible assumption) | (refine hDc _ ?_; with_reducible assumption) | (refine hDd _ ?_; with_reducible assumption) | (refine FW.fs ?_ (by omega) _; with_reducible assumption) | (refine WS.fs ?_; with_reducible assumption) | (refine FW.fs ?_ (by omega) _; assumption) | omega | assumption)); rintro e w1 ⟨rfl, o1, n1, rfl⟩)))
  refine name_any (fun V hV => ?_)
  have gV : Grew W V := by rw [← hV]; (show Grew _ _; repeat (first | (with_reducible exact Grew.refl _) | (with_reducible assumption) | (with_reducible refine Grew.ext ?_ _ _) | (with_reducible refine Grew.alloc ?_ _) | ((with_reducible refine Grew.setCell ?_ ?_ _); rotate_left; (focus (dsimp only; first | omega | (simp only [size_ext, World.size_alloc, Array.size_append]; omega)))) | (with_reducible refine Grew.drewN ?_ _) | (with_reducible refine Grew.drew ?_)))
  have zV : W.heap.size + o1.size + 1 < V.heap.size := by rw [← hV]; simp only [World.size_alloc, size_ext]; omega
  have c1 : ∀ i, V.cell? ⟨W.heap.size + o1.size, i, none⟩ = (#[.func (.func 167) #[] #[.pointer (some ⟨w.heap.size + 1 + 1, 0, none⟩)], .func (.func 168) #[] #[.pointer (some ⟨w.heap.size + 1, 0, none⟩)]] : Array Value)[i]? := by subst hV; intro i; go_simp
  have c2 : ∀ i, V.cell? ⟨W.heap.size + o1.size + 1, i, none⟩ = (#[.func (.func 169) #[] #[.pointer (some ⟨w.heap.size + 1 + 1, 0, none⟩)], .func (.func 170) #[] #[.pointer (some ⟨w.heap.size + 1, 0, none⟩)]] : Array Value)[i]? := by subst hV; intro i; go_simp
  have c3 : ∀ i, V.cell? ⟨w.heap.size, i, none⟩ = (#[D, .int .i64 m.off, .int .i64 m.rows, .int .i64 m.cols, .int .i64 m.ld] : Array Value)[i]? := fun i => (gV.cell s1).trans (b1 i)
  have gw : Grew w V := Grew.trans g0 gV
  have kU : W.heap.size + o1.size < V.heap.size := by omega
  have kw : w.heap.size < V.heap.size := by omega
  have hra' : ∀ w', Grew V w' → Calls Try.prog 171 #[.agg #[.func (.func 167) #[] #[.pointer (some ⟨w.heap.size + 1 + 1, 0, none⟩)], .func (.func 168) #[] #[.pointer (some ⟨w.heap.size + 1, 0, none⟩)]], .agg #[D, .int .i64 m.off, .int .i64 m.rows, .int .i64 m.cols, .int .i64 m.ld]] w' (fun e w2 => ∃ v, e = .returned v ∧ OwnF 22 w2 w.heap.size v (resL m X Y) ∧ ∃ o n, w2 = ext w' o n) := fun w' hg => by
    have gW := Grew.trans gV hg
    have zz := (Grew.trans gw hg).below.size
    have zW := gW.below.size
    refine (hra (w.heap.size + 1) (w.heap.size + 1 + 1) w' (hDW.grew gW) (hXW.grew gW) (hYW.grew gW) (fun i => (gW.cell s2).trans (b2 i)) (fun i => (gW.cell s3).trans (b3 i)) (by omega) (by omega)).mono fun e w2 hh => ?_
    obtain ⟨v, h1, h2, h3⟩ := hh
    exact ⟨v, h1, ownF_mono h2 zz, h3⟩
  have hrb' : ∀ w', Grew V w' → Calls Try.prog 171 #[.agg #[.func (.func 169) #[] #[.pointer (some ⟨w.heap.size + 1 + 1, 0, none⟩)], .func (.func 170) #[] #[.pointer (some ⟨w.heap.size + 1, 0, none⟩)]], .agg #[D, .int .i64 m.off, .int .i64 m.rows, .int .i64 m.cols, .int .i64 m.ld]] w' (fun e w2 => ∃ v, e = .returned v ∧ OwnF 22 w2 w.heap.size v (rebL m X Y) ∧ ∃ o n, w2 = ext w' o n) := fun w' hg => by
    have gW := Grew.trans gV hg
    have zz := (Grew.trans gw hg).below.size
    have zW := gW.below.size
    refine (hrb (w.heap.size + 1) (w.heap.size + 1 + 1) w' (hDW.grew gW) (hXW.grew gW) (hYW.grew gW) (fun i => (gW.cell s2).trans (b2 i)) (fun i => (gW.cell s3).trans (b3 i)) (by omega) (by omega)).mono fun e w2 hh => ?_
    obtain ⟨v, h1, h2, h3⟩ := hh
    exact ⟨v, h1, ownF_mono h2 zz, h3⟩
  obtain ⟨U, hU⟩ : ∃ U, U = W.heap.size + o1.size := ⟨_, rfl⟩
  rw [← hU] at c1 c2 zV kU
  simp only [← hU]
  clear hra hrb hV hU b1 b2 b3 hck
  refine wp_region_R (Grew V) [] [(0,0), (0,1), (0,3), (0,4), (1,2), (1,5), (0,6), (0,7), (0,8)] (by kernel_rfl) (by kernel_rfl) (fun _ _ _ _ h _ => h) (by first | exact ⟨_, _, ext_drew⟩ | exact ⟨_, _, drew_ext0⟩ | (show Grew _ _; repeat (first | (with_reducible exact Grew.refl _) | (with_reducible assumption) | (with_reducible refine Grew.ext ?_ _ _) | (with_reducible refine Grew.alloc ?_ _) | ((with_reducible refine Grew.setCell ?_ ?_ _); rotate_left; (focus (dsimp only; first | omega | (simp only [size_ext, World.size_alloc, Array.size_append]; omega)))) | (with_reducible refine Grew.drewN ?_ _) | (with_reducible refine Grew.drew ?_)))) ?_
  go_wp2_with (first | ((with_reducible refine wpR_id ?_); first | (refine wpR_take (v := ?_) rfl rfl ?_ ?_; rotate_left; (focus (rintro w' ⟨o', n', rfl⟩; go_simp; try with_reducible rfl)); simp only [Act.put, List.setIfInBounds_toArray, List.set_cons_zero, List.set_cons_succ]) | (refine wpR_pure (v := ?_) rfl rfl ?_ ?_; rotate_left; (focus (intro w'; go_simp; try with_reducible rfl)); simp only [Act.put, List.setIfInBounds_toArray, List.set_cons_zero, List.set_cons_succ]) | (refine wpR_takeG (v := ?_) rfl rfl rfl rfl rfl ?_ ?_; rotate_left; (focus (rintro w' ⟨o', n', rfl⟩; go_simp; try with_reducible rfl)); simp only [Act.put, List.setIfInBounds_toArray, List.set_cons_zero, List.set_cons_succ]) | (refine wpR_skip rfl rfl rfl rfl rfl rfl ?_; simp only [Act.put, List.setIfInBounds_toArray, List.set_cons_zero, List.set_cons_succ]) | (refine wpR_skipU rfl rfl rfl rfl rfl ?_; simp only [Act.put, List.setIfInBounds_toArray, List.set_cons_zero, List.set_cons_succ]) | (refine wpR_do rfl rfl (fun K hK => ?_)) | (refine wpR_doG rfl rfl rfl rfl rfl (fun K hK => ?_)) | (refine wpR_last rfl rfl (fun K hK => ?_)) | (refine wpR_nil ?_)) | ((with_reducible refine wpR_go ?_ ?_); (focus (show Grew _ _; repeat (first | (with_reducible exact Grew.refl _) | (with_reducible assumption) | (with_reducible refine Grew.ext ?_ _ _) | (with_reducible refine Grew.alloc ?_ _) | ((with_reducible refine Grew.setCell ?_ ?_ _); rotate_left; (focus (dsimp only; first | omega | (simp only [size_ext, World.size_alloc, Array.size_append]; omega)))) | (with_reducible refine Grew.drewN ?_ _) | (with_reducible refine Grew.drew ?_))))) | ((with_reducible refine upon_id ?_); refine upon_fop rfl (by assumption) (by assumption) ?_; intro rr nn hr) | (go_at_call 171; ((with_reducible refine (hra' _ (by (show Grew _ _; repeat (first | (with_reducible exact Grew.refl _) | (with_reducible assumption) | (with_reducible refine Grew.ext ?_ _ _) | (with_reducible refine Grew.alloc ?_ _) | ((with_reducible refine Grew.setCell ?_ ?_ _); rotate_left; (focus (dsimp only; first | omega | (simp only [size_ext, World.size_alloc, Array.size_append]; omega)))) | (with_reducible refine Grew.drewN ?_ _) | (with_reducible refine Grew.drew ?_))))).mono ?_); rintro e w1 ⟨v1, rfl, hv1, o2, n2, rfl⟩)) | (go_at_call 171; ((with_reducible refine (hrb' _ (by (show Grew _ _; repeat (first | (with_reducible exact Grew.refl _) | (with_reducible assumption) | (with_reducible refine Grew.ext ?_ _ _) | (with_reducible refine Grew.alloc ?_ _) | ((with_reducible refine Grew.setCell ?_ ?_ _); rotate_left; (focus (dsimp only; first | omega | (simp only [size_ext, World.size_alloc, Array.size_append]; omega)))) | (with_reducible refine Grew.drewN ?_ _) | (with_reducible refine Grew.drew ?_))))).mono ?_); rintro e w1 ⟨v2, rfl, hv2, o3, n3, rfl⟩)))
  refine bodyPost_ret (v := .tuple #[v1, v2, .int .i64 0]) (by simp [results, Try.results94, go_sem, *]) rfl ?_
  have hv1' := hv1.ext o3 n3
  simp only [ext_ext] at hv1' hv2
  exact ⟨v1, v2, rfl, hv1', hv2, Grew.trans gw (by (show Grew _ _; repeat (first | (with_reducible exact Grew.refl _) | (with_reducible assumption) | (with_reducible refine Grew.ext ?_ _ _) | (with_reducible refine Grew.alloc ?_ _) | ((with_reducible refine Grew.setCell ?_ ?_ _); rotate_left; (focus (dsimp only; first | omega | (simp only [size_ext, World.size_alloc, Array.size_append]; omega)))) | (with_reducible refine Grew.drewN ?_ _) | (with_reducible refine Grew.drew ?_))))⟩
end Go.Proofs.Ytcmggfpcbijcjaa
end
section
/-
  Slices of whole numbers that a call makes itself: appends, two slices beside one another.
-/
set_option linter.unusedSimpArgs false
set_option linter.unusedVariables false
namespace Sedge
open Go Go.RowKit
/-- Their own blocks are not one. -/
def ApartV (u v : Value) : Prop := ∀ k, u.ownBlock = some k → v.ownBlock ≠ some k
section
variable {P : Program} {ops : Array Oper} {rest : List Oper} {o : Oper} {a : Act} {Q : Exit → Act → World → Prop}
theorem append1_v {t e e' : TypeId} {z0 : Value} (und : P.underlying t = some (.slice e)) (info : (P.info? e).map (fun i => (i.zero, i.size, i.bytes)) = some (some z0, 1, 8)) (hz0 : z0.cells.size = 1)
    {W w : World} (hW : Grew W w) {v y : Value} {xs : List Value} (hown : w.ownsRow W.heap.size e 1 v xs.length xs) (hy : y.oneCell' = true)
    (hlen : xs.length < 17592186044415) (s x : Operand) (hg : o.guard = none)
    (ho : o.op = .call { callee := .builtin .append, args := #[s, x], argTypes := #[t, t] }) (hs : a.eval s = v) {k : Nat} (hk : k = w.heap.size) (hx : a.eval x = .slice (some ⟨k, 0, none⟩) 1 1)
    (h : ∀ v' oo nn, (ext W oo nn).ownsRow W.heap.size e 1 v' (xs.length + 1) (xs ++ [y]) →
      (∀ e2 u n2 ys, w.ownsRow W.heap.size e2 1 u n2 ys → ApartV u v → (ext W oo nn).ownsRow W.heap.size e2 1 u n2 ys ∧ ApartV u v') → wpList P ops Q rest (a.put o.dst v') (ext W oo nn)) :
    wpList P ops Q (o :: rest) a (w.alloc (.cells #[y] e')) := by
  subst hk
  obtain ⟨i0, hi, hz⟩ := Option.map_eq_some_iff.1 info
  simp only [Prod.mk.injEq] at hz
  obtain ⟨hz1, hz2, hz3⟩ := hz
  have hgA : Grew w (w.alloc (.cells #[y] e')) := (Grew.refl w).alloc _
  have keep : ∀ e2 u n2 ys (w' : World), w.ownsRow W.heap.size e2 1 u n2 ys → (∀ k, u.ownBlock = some k → w'.heap[k]? = w.heap[k]?) → w'.ownsRow W.heap.size e2 1 u n2 ys := fun e2 u n2 ys w' hu hk => by
    obtain ⟨h1, h2⟩ := hu
    refine ⟨h1, ?_⟩
    rcases h2 with h2 | ⟨g, cap, cur, rfl, hB, hh, r⟩
    · exact .inl h2
    · exact .inr ⟨g, cap, cur, rfl, hB, by rw [hk g rfl]; exact hh, r⟩
  have hown' := keep _ _ _ _ (w.alloc (.cells #[y] e')) hown (fun k hk => hgA.below.block k (hown.lt k hk).2)
  refine wpList_append_own_at _ hg s x t ho W.heap.size e i0 z0 1 8 und hi hz1 hz2 hz3 hz0 (by decide) v xs.length xs hs hown' ⟨w.heap.size, 0, none⟩ 1 1 [y] hx rfl ?_ ?_ ?_ ?_ ?_ ?_
  · intro j u hj
    match j, hj with
    | 0, hj =>
      simp at hj; subst hj
      have e1 : (⟨w.heap.size, 0, none⟩ : Addr).add 0 = ⟨w.heap.size, 0, none⟩ := by simp [Addr.add]
      rw [e1, World.cell?_alloc_new]; rfl
  · intro u hu; simp at hu; subst hu; exact hy
  · simp [maxLen]; omega
  · omega
  · have := hW.below.size; simp; omega
  · intro v' w' ho2 hgr hnn hloc
    obtain ⟨oo, nn, rfl⟩ := grew_grown (hW.alloc (.cells #[y] e')) hgr (fun k hk => (hown.lt k hk).1)
    refine h v' oo nn ho2 fun e2 u n2 ys hu hap => ⟨keep _ _ _ _ _ hu fun k hk => ?_, fun k hk => ?_⟩
    · have hlt := (hu.lt k hk).2
      exact (hgr.block k (Nat.lt_of_lt_of_le hlt hgA.below.size) (fun e => hap k hk e.symm)).trans (hgA.below.block k hlt)
    · have hlt := (hu.lt k hk).2
      rcases hloc with h1 | h1
      · rw [h1]; exact hap k hk
      · rw [h1]; intro e; simp at e; omega
end
/-- The slice v of ours owns the whole numbers zs. -/
def OwnI (w : World) (B : Nat) (v : Value) (zs : List Int) : Prop := w.ownsRow B 3 1 v zs.length (zs.map (Value.int .i64))
theorem OwnI.nil (w : World) (B : Nat) : OwnI w B (.slice none 0 0) [] := ⟨by simp, .inl ⟨rfl, rfl⟩⟩
theorem OwnI.grew {w w' : World} {B : Nat} {v : Value} {zs : List Int} (h : OwnI w B v zs) (g : Grew w w') : OwnI w' B v zs := by
  obtain ⟨h0, h1⟩ := h
  refine ⟨h0, ?_⟩
  rcases h1 with h1 | ⟨gg, cap, cur, hv, hB, hh, r⟩
  · exact .inl h1
  · have hlt : gg < w.heap.size := by
      rcases Nat.lt_or_ge gg w.heap.size with h | h
      · exact h
      · rw [Array.getElem?_eq_none h] at hh; cases hh
    exact .inr ⟨gg, cap, cur, hv, hB, by rw [g.below.block gg hlt]; exact hh, r⟩
theorem OwnI.is {w : World} {B : Nat} {v : Value} {zs : List Int} (h : OwnI w B v zs) (hl : zs.length ≤ 9223372036854775807) : IS .i64 w v zs := by
  obtain ⟨_, h1⟩ := h
  rcases h1 with ⟨rfl, h1⟩ | ⟨g, cap, cur, rfl, _, hh, hn, hm, hsz, ht⟩
  · have : zs = [] := List.length_eq_zero_iff.1 h1
    subst this
    exact ⟨by simp, none, 0, rfl, fun i hi => by simp at hi⟩
  · refine ⟨hl, some ⟨g, 0, none⟩, cap, rfl, fun i hi => ⟨g, 0, rfl, ?_⟩⟩
    rw [Nat.mul_one] at ht
    have := take_getElem? (i := i) ht (by simpa using hi)
    simp only [World.cell?, hh, Nat.zero_add, Option.isSome_none, Bool.false_eq_true, if_false]
    rw [← Array.getElem?_toList, this]
    simp [List.getD_eq_getElem?_getD, hi]
end Sedge
end
section
/-
  Worlds that grew: arrays of new blocks, however they are bracketed.
-/
set_option linter.unusedSimpArgs false
set_option linter.unusedVariables false
namespace Sedge
open Go Go.RowKit
theorem Grew.app_r {X U : World} {o o' : Array Obj} {n : Nat} (h : Grew X (Sedge.ext U o n)) : Grew X (Sedge.ext U (o ++ o') n) := h.trans ⟨o', n, by simp⟩
end Sedge
end
