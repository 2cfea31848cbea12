/-
  Contracts: straightedgeref07.Begin, straightedgeref11.Mul.
-/
import Derived.Test.YtcmggfpcbijcjaaGemm2
import Derived.Test.YtcmggfpcbijcjaaGer3
set_option linter.unusedSimpArgs false
set_option linter.unusedVariables false
open Go Go.RowKit Sedge
namespace Go.Proofs.Ytcmggfpcbijcjaa
set_option maxRecDepth 100000 in
/-- straightedgeref07.Begin. -/
theorem rbegin_any (b z β ζ : Nat) (w : World) (hb : IsF b β) (hz : IsF z ζ) :
   Calls Try.prog 150 #[.float .f64 b, .float .f64 z] w (fun e w' => ∃ r, e = .returned (.float .f64 r) ∧ IsF r (beginF β ζ) ∧ ∃ o n, w' = ext w o n) := by
  cases h : feq0 β
  · have hz' : (FloatKind.f64.format.order b 0 == some Ordering.eq) = false := by rw [← h]; unfold feq0; rw [← hb.order isF_zero]; rfl
    have e : beginF β ζ = fmul β ζ := by unfold beginF; rw [h]; rfl
    rw [e]
    clear h
    go_enter Try.func150, Try.ntmps150
    go_wp2_with (first | (go_at_call 141; ((with_reducible refine (times_any b z β ζ _ hb hz).mono ?_); rintro e w1 ⟨r, rfl, hr, o1, n1, rfl⟩)))
    go_ret
    exact ⟨r, rfl, hr, _, _, rfl⟩
  · have hz' : (FloatKind.f64.format.order b 0 == some Ordering.eq) = true := by rw [← h]; unfold feq0; rw [← hb.order isF_zero]; rfl
    have e : beginF β ζ = 0 := by unfold beginF; rw [h]; rfl
    rw [e]
    clear h
    go_enter Try.func150, Try.ntmps150
    go_wp2
    go_ret
    exact ⟨0, rfl, isF_zero, by (show Grew _ _; repeat (first | (with_reducible exact Grew.refl _) | (with_reducible assumption) | (with_reducible refine Grew.ext ?_ _ _) | (with_reducible refine Grew.alloc ?_ _) | ((with_reducible refine Grew.setCell ?_ ?_ _); rotate_left; (focus (dsimp only; first | omega | (simp only [size_ext, World.size_alloc, Array.size_append]; omega)))) | (with_reducible refine Grew.drewN ?_ _) | (with_reducible refine Grew.drew ?_)))⟩
def mul11F (α β K : Nat) (Mx My Mz : Nat → Nat → Nat) (i j : Nat) : Nat := mulTo α Mx (fun k => My k j) (beginF β (Mz i j)) i K
set_option maxRecDepth 100000 in
set_option maxHeartbeats 4000000 in
/-- straightedgeref11.Mul. -/
theorem rmul11_any (a α b β R K C : Nat) (TX TY TZ : List Nat) (Mx My Mz : Nat → Nat → Nat) (A B D : Value) (w : World) (ha : IsF a α) (hb : IsF b β) (hA : FS w A TX) (hB' : FS w B TY) (hD : FS w D TZ) (hTX : TX.length = R * K) (hTY : TY.length = K * C) (hTZ : TZ.length = R * C)
    (hMx : ∀ i j, i < R → j < K → TX.getD (i * K + j) 0 = Mx i j) (hMy : ∀ i j, i < K → j < C → TY.getD (i * C + j) 0 = My i j) (hMz : ∀ i j, i < R → j < C → TZ.getD (i * C + j) 0 = Mz i j) (hR : R ≤ 1000) (hK : K ≤ 1000) (hC : C ≤ 1000) :
   Calls Try.prog 77 #[.float .f64 a, .agg #[.int .i64 R, .int .i64 K, A], .agg #[.int .i64 K, .int .i64 C, B], .float .f64 b, .agg #[.int .i64 R, .int .i64 C, D]] w
     (fun e w' => ∃ v t, e = .returned (.agg #[.int .i64 R, .int .i64 C, v]) ∧ WS w' w.heap.size v t ∧ Hold (fun i j => i * C + j) R C (List.replicate (R * C) 0) t (mul11F α β K Mx My Mz) ∧ ∃ o n, w' = ext w o n) := by
  have hRC : R * C ≤ 1000 * 1000 := Nat.mul_le_mul hR hC
  have hpl : Places (fun i j => i * C + j) R C (List.replicate (R * C) 0).length := by rw [List.length_replicate]; exact tabPlaces R C
  obtain ⟨aA, cA, rfl⟩ := hA.shape
  obtain ⟨aB, cB, rfl⟩ := hB'.shape
  obtain ⟨aD, cD, rfl⟩ := hD.shape
  have hatx : ∀ i j : Nat, i < R → j < K → ∀ w', FS w' (.slice aA TX.length cA) TX → Calls Try.prog 72 #[.agg #[.int .i64 R, .int .i64 K, .slice aA TX.length cA], .int .i64 i, .int .i64 j] w' (fun e w2 => ∃ b, e = .returned (.float .f64 b) ∧ IsF b (Mx i j) ∧ ∃ o n, w2 = ext w' o n) := fun i j hi hj w' h => by
    have := rat_any R K i j (.slice aA TX.length cA) TX w' h hR hK (by omega) (by omega) (by rw [hTX]; exact at_lt hi hj)
    rw [hMx i j hi hj] at this; exact this
  have haty : ∀ i j : Nat, i < K → j < C → ∀ w', FS w' (.slice aB TY.length cB) TY → Calls Try.prog 72 #[.agg #[.int .i64 K, .int .i64 C, .slice aB TY.length cB], .int .i64 i, .int .i64 j] w' (fun e w2 => ∃ b, e = .returned (.float .f64 b) ∧ IsF b (My i j) ∧ ∃ o n, w2 = ext w' o n) := fun i j hi hj w' h => by
    have := rat_any K C i j (.slice aB TY.length cB) TY w' h hK hC (by omega) (by omega) (by rw [hTY]; exact at_lt hi hj)
    rw [hMy i j hi hj] at this; exact this
  have hatz : ∀ i j : Nat, i < R → j < C → ∀ w', FS w' (.slice aD TZ.length cD) TZ → Calls Try.prog 72 #[.agg #[.int .i64 R, .int .i64 C, .slice aD TZ.length cD], .int .i64 i, .int .i64 j] w' (fun e w2 => ∃ b, e = .returned (.float .f64 b) ∧ IsF b (Mz i j) ∧ ∃ o n, w2 = ext w' o n) := fun i j hi hj w' h => by
    have := rat_any R C i j (.slice aD TZ.length cD) TZ w' h hR hC (by omega) (by omega) (by rw [hTZ]; exact at_lt hi hj)
    rw [hMz i j hi hj] at this; exact this
  have hnew : ∀ w', Calls Try.prog 68 #[.int .i64 R, .int .i64 C] w' (fun e w2 => ∃ v, e = .returned (.agg #[.int .i64 R, .int .i64 C, v]) ∧ WS w2 w'.heap.size v (List.replicate (R * C) 0) ∧ ∃ o n, w2 = ext w' o n) := fun w' => rnew_any R C w' hR hC
  clear hTX hTY hTZ hMx hMy hMz
  go_enter Try.func77, Try.ntmps77
  refine seq_stop ?_
  go_wp2
  refine stop_go (fun W hW => ?_)
  have s1 : w.heap.size < W.heap.size := by rw [hW]; simp only [World.size_alloc]; omega
  have b1 : ∀ i, W.cell? ⟨w.heap.size, i, none⟩ = (#[.int .i64 R, .int .i64 K, .slice aA TX.length cA] : Array Value)[i]? := by intro i; rw [hW]; go_simp
  have f1 : ∀ i, W.frozen? ⟨w.heap.size, i, none⟩ = false := by intro i; rw [hW]; go_simp
  have s2 : w.heap.size + 1 < W.heap.size := by rw [hW]; simp only [World.size_alloc]; omega
  have b2 : ∀ i, W.cell? ⟨w.heap.size + 1, i, none⟩ = (#[.int .i64 K, .int .i64 C, .slice aB TY.length cB] : Array Value)[i]? := by intro i; rw [hW]; go_simp
  have f2 : ∀ i, W.frozen? ⟨w.heap.size + 1, i, none⟩ = false := by intro i; rw [hW]; go_simp
  have s3 : w.heap.size + 1 + 1 < W.heap.size := by rw [hW]; simp only [World.size_alloc]; omega
  have b3 : ∀ i, W.cell? ⟨w.heap.size + 1 + 1, i, none⟩ = (#[.int .i64 R, .int .i64 C, .slice aD TZ.length cD] : Array Value)[i]? := by intro i; rw [hW]; go_simp
  have f3 : ∀ i, W.frozen? ⟨w.heap.size + 1 + 1, i, none⟩ = false := by intro i; rw [hW]; go_simp
  have s4 : w.heap.size + 1 + 1 + 1 < W.heap.size := by rw [hW]; simp only [World.size_alloc]; omega
  have b4 : ∀ i, W.cell? ⟨w.heap.size + 1 + 1 + 1, i, none⟩ = (#[.int .i64 0, .int .i64 0, .slice none 0 0] : Array Value)[i]? := by intro i; rw [hW]; go_simp
  have f4 : ∀ i, W.frozen? ⟨w.heap.size + 1 + 1 + 1, i, none⟩ = false := by intro i; rw [hW]; go_simp
  have g0 : Grew w W := by rw [hW]; exact ((((Grew.refl _).alloc _).alloc _).alloc _).alloc _
  clear hW
  have hAW := hA.grew g0
  have hBW := hB'.grew g0
  have hDW := hD.grew g0
  go_wp2_with (first | (go_at_call 68; ((with_reducible refine (hnew _).mono ?_); rintro e w1 ⟨v, rfl, ⟨g, cap, rfl, hg, hF, hgl⟩, oc, nc, rfl⟩)))
  refine name_any (fun V hV => ?_)
  have gV : Grew W V := by rw [← hV]; (show Grew _ _; repeat (first | (with_reducible exact Grew.refl _) | (with_reducible assumption) | (with_reducible refine Grew.ext ?_ _ _) | (with_reducible refine Grew.alloc ?_ _) | ((with_reducible refine Grew.setCell ?_ ?_ _); rotate_left; (focus (dsimp only; first | omega | (simp only [size_ext, World.size_alloc, Array.size_append]; omega)))) | (with_reducible refine Grew.drewN ?_ _) | (with_reducible refine Grew.drew ?_)))
  have zw := g0.below.size
  have zV := gV.below.size
  have hFV : FW V g (List.replicate (R * C) 0) := by rw [← hV]; (repeat (first | (with_reducible assumption) | ((with_reducible refine FW.ext_set ?_ ?_ ?_ _); rotate_left; (focus (simp only [size_setCell', World.size_alloc, size_ext, size_upd]; omega)); (focus (dsimp only; omega))) | ((with_reducible refine FW.setCell_ne ?_ ?_ _); rotate_left; (focus (dsimp only; omega))) | (with_reducible refine FW.ext ?_ _ _) | (with_reducible refine FW.alloc ?_ _)))
  have cT : ∀ i, V.cell? ⟨W.heap.size + oc.size, i, none⟩ = (#[.int .i64 R, .int .i64 C, .slice (some ⟨g, 0, none⟩) (R * C) cap] : Array Value)[i]? := by subst hV; intro i; go_simp
  have kT : W.heap.size + oc.size < V.heap.size := by rw [← hV]; simp only [World.size_alloc, size_ext]; omega
  have ngT : W.heap.size + oc.size ≠ g := by have := hF.lt; simp only [size_ext] at this; omega
  obtain ⟨U, hU⟩ : ∃ U, W.heap.size + oc.size = U := ⟨_, rfl⟩
  have zU : W.heap.size ≤ U := by omega
  rw [hU] at cT kT ngT
  simp only [hU]
  have hG : ∀ k ∈ [g], W.heap.size ≤ k := by intro k hk; simp at hk; omega
  have hDu := But.fs gV hAW hG
  have hOu := But.fs gV hBW hG
  have hDa := But.fs gV hDW hG
  have c1 := But.boxW gV s1 b1 hG
  have c2 := But.boxW gV s2 b2 hG
  have c3 := But.boxW gV s3 b3 hG
  have c4 := But.boxW gV s4 b4 hG
  have z4 : ∀ w', But V [g] w' → ∀ i, w'.frozen? ⟨w.heap.size + 1 + 1 + 1, i, none⟩ = false := fun w' hb i => by
    have h1 := hb.block (w.heap.size + 1 + 1 + 1) (by omega) (by simp; omega)
    have h2 := (gV.frozen s4).trans (f4 i)
    unfold World.frozen? at h2 ⊢; simp only [h1] at h2 ⊢; exact h2
  have cU : ∀ w', But V [g] w' → ∀ i, w'.cell? ⟨U, i, none⟩ = (#[.int .i64 R, .int .i64 C, .slice (some ⟨g, 0, none⟩) (R * C) cap] : Array Value)[i]? := fun w' h i => (h.cell kT (by simpa using ngT)).trans (cT i)
  have kV1 : w.heap.size < V.heap.size := by omega
  have kV2 : w.heap.size + 1 < V.heap.size := by omega
  have kV3 : w.heap.size + 1 + 1 < V.heap.size := by omega
  have kV4 : w.heap.size + 1 + 1 + 1 < V.heap.size := by omega
  clear hV hU cT b1 b2 b3 b4 f1 f2 f3 f4 hF hnew
  go_loopw [12] (fun c wr => ∃ (i : Nat) (L : List Nat), i ≤ R ∧ c = .int .i64 i ∧ But V [g] wr ∧ FW wr g L ∧ Hold (fun i j => i * C + j) R C (List.replicate (R * C) 0) L (stepR (mul11F α β K Mx My Mz) (fun _ _ => 0) i 0)) (fun c _ => R - (intOf c).toNat)
  case atStart => exact ⟨0, _, Nat.zero_le _, rfl, But.refl _ _, hFV, ⟨rfl, fun i j hi hj => by simp [stepR, List.getD_eq_getElem?_getD, List.getElem?_replicate]; split <;> rfl, fun _ _ => rfl⟩⟩
  case round =>
    obtain ⟨i, L, hi, rfl, hB, hL, hH⟩ := hrel
    have t3 := c3 _ hB
    have sB := hB.size
    have x3 : w.heap.size + 1 + 1 < wr.heap.size := by omega
    by_cases hlt : (i : Int) < R
    · have hiR : i < R := by omega
      go_wp2
      go_loopw [13] (fun c wr => ∃ (j : Nat) (L : List Nat), j ≤ C ∧ c = .int .i64 j ∧ But V [g] wr ∧ FW wr g L ∧ Hold (fun i j => i * C + j) R C (List.replicate (R * C) 0) L (stepR (mul11F α β K Mx My Mz) (fun _ _ => 0) i j)) (fun c _ => C - (intOf c).toNat)
      case atStart => exact ⟨0, L, Nat.zero_le _, rfl, hB, hL, hH⟩
      case round =>
        obtain ⟨j, L2, hj, rfl, hB2, hL2, hH2⟩ := hrel
        have t3 := c3 _ hB2
        have t1 := c1 _ hB2
        have sB := hB2.size
        have x3 : w.heap.size + 1 + 1 < wr.heap.size := by omega
        have x1 : w.heap.size < wr.heap.size := by omega
        by_cases hl2 : (j : Int) < C
        · have hjC : j < C := by omega
          have hatzij := hatz i j hiR hjC
          have hDz := hDa _ hB2
          go_wp2_with (first | (go_at_call 72; ((with_reducible refine (hatzij _ ?_).mono ?_); (focus (first | (with_reducible assumption) | (with_reducible refine FS.ext ?_ _ _; with_reducible assumption) | (with_reducible refine IS.ext ?_ _ _; with_reducible assumption) | (refine hDu _ ?_; with_reducible assumption) | (refine hOu _ ?_; with_reducible assumption) | (refine hDa _ ?_; with_reducible assumption) | (refine hDb _ ?_; with_reducible assumption) | (refine hDc _ ?_; with_reducible assumption) | (refine hDd _ ?_; with_reducible assumption) | (refine FW.fs ?_ (by omega) _; with_reducible assumption) | (refine WS.fs ?_; with_reducible assumption) | (refine FW.fs ?_ (by omega) _; assumption) | omega | assumption)); rintro e w1 ⟨bz, rfl, hbz, hw1⟩; (have B3 := hB2.grew hw1; have F3 := hL2.grew hw1))) | (go_at_call 150; ((with_reducible refine (rbegin_any b bz β _ _ hb hbz).mono ?_); rintro e w1 ⟨b0, rfl, hb0, hw2⟩; (have B4 := B3.grew hw2; have F4 := F3.grew hw2; have t1 := c1 _ B4))))
          go_loopw [14, 15] (fun s c wr => ∃ (k r : Nat), k ≤ K ∧ c = .int .i64 k ∧ s = .float .f64 r ∧ IsF r (mulTo α Mx (fun k => My k j) (beginF β (Mz i j)) i k) ∧ But V [g] wr ∧ FW wr g L2) (fun _ c _ => K - (intOf c).toNat)
          case atStart => exact ⟨0, b0, Nat.zero_le _, rfl, rfl, hb0, B4, F4⟩
          case round =>
            obtain ⟨k, r, hk, rfl, rfl, hr, hB5, hL5⟩ := hrel
            have t1 := c1 _ hB5
            have sB := hB5.size
            have x1 : w.heap.size < wr.heap.size := by omega
            by_cases hl3 : (k : Int) < K
            · have hkK : k < K := by omega
              have haty' := haty k j hkK hjC
              have hatx' := hatx i k hiR hkK
              go_wp2
              refine wp_region_R (But V [g]) [] [(0,0), (0,1), (0,2), (0,3), (0,4), (0,7), (0,8), (0,9), (1,5), (1,6), (1,10), (1,11), (1,12), (0,13)] (by kernel_rfl) (by kernel_rfl) (fun _ _ _ _ h _ => h) (hB5.grew ((Grew.refl _).drew)) ?_
              refine name_any (fun V6 hV6 => ?_)
              have hg6 : Grew wr V6 := by rw [← hV6]; (show Grew _ _; repeat (first | (with_reducible exact Grew.refl _) | (with_reducible assumption) | (with_reducible refine Grew.ext ?_ _ _) | (with_reducible refine Grew.alloc ?_ _) | ((with_reducible refine Grew.setCell ?_ ?_ _); rotate_left; (focus (dsimp only; first | omega | (simp only [size_ext, World.size_alloc, Array.size_append]; omega)))) | (with_reducible refine Grew.drewN ?_ _) | (with_reducible refine Grew.drew ?_)))
              have B6 := hB5.grew hg6
              have F6 := hL5.grew hg6
              clear hV6 hg6
              go_wp2_with (first | ((with_reducible refine wpR_id ?_); first | (refine wpR_take (v := ?_) rfl rfl ?_ ?_; rotate_left; (focus (intro w' hw'; go_simp; try with_reducible rfl)); simp only [Act.put, List.setIfInBounds_toArray, List.set_cons_zero, List.set_cons_succ]) | (refine wpR_pure (v := ?_) rfl rfl ?_ ?_; rotate_left; (focus (intro w'; go_simp; try with_reducible rfl)); simp only [Act.put, List.setIfInBounds_toArray, List.set_cons_zero, List.set_cons_succ]) | (refine wpR_takeG (v := ?_) rfl rfl rfl rfl rfl ?_ ?_; rotate_left; (focus (intro w' hw'; go_simp; try with_reducible rfl)); simp only [Act.put, List.setIfInBounds_toArray, List.set_cons_zero, List.set_cons_succ]) | (refine wpR_skip rfl rfl rfl rfl rfl rfl ?_; simp only [Act.put, List.setIfInBounds_toArray, List.set_cons_zero, List.set_cons_succ]) | (refine wpR_skipU rfl rfl rfl rfl rfl ?_; simp only [Act.put, List.setIfInBounds_toArray, List.set_cons_zero, List.set_cons_succ]) | (refine wpR_do rfl rfl (fun K hK => ?_)) | (refine wpR_doG rfl rfl rfl rfl rfl (fun K hK => ?_)) | (refine wpR_last rfl rfl (fun K hK => ?_)) | (refine wpR_nil ?_)) | ((with_reducible refine wpR_go ?_ ?_); (focus (with_reducible assumption))) | ((with_reducible refine upon_id ?_); refine upon_fop rfl (by assumption) (by assumption) ?_; intro rr nn hr) | (go_at_call 72; ((with_reducible refine (haty' _ (hOu _ (by assumption))).mono ?_); rintro e w1 ⟨ry, rfl, hry, hw1⟩; (have B7 := B6.grew hw1; have F7 := F6.grew hw1))) | (go_at_call 141; ((with_reducible refine (times_any a ry α _ _ ha hry).mono ?_); rintro e w1 ⟨r2, rfl, hr2, hw2⟩; (have B8 := B7.grew hw2; have F8 := F7.grew hw2))) | (go_at_call 72; ((with_reducible refine (hatx' _ (hDu _ (by assumption))).mono ?_); rintro e w1 ⟨rx, rfl, hrx, hw3⟩; (have B9 := B8.grew hw3; have F9 := F8.grew hw3))) | (go_at_call 141; ((with_reducible refine (times_any r2 rx _ _ _ hr2 hrx).mono ?_); rintro e w1 ⟨r3, rfl, hr3, hw4⟩; (have B10 := B9.grew hw4; have F10 := F9.grew hw4))) | (go_at_call 36; ((with_reducible refine (plus_any r r3 _ _ _ hr hr3).mono ?_); rintro e w1 ⟨r4, rfl, hr4, hw5⟩; (have B11 := B10.grew hw5; have F11 := F10.grew hw5))))
              go_roundw
              case rel => exact ⟨k + 1, r4, by omega, by go_num, rfl, hr4, B11, F11⟩
              case measure => simp [intOf]; omega
            · have e : k = K := by omega
              have tU := cU _ hB5
              have xU : U < wr.heap.size := by omega
              have hset : ∀ w', FW w' g L2 → Calls Try.prog 134 #[.agg #[.int .i64 R, .int .i64 C, .slice (some ⟨g, 0, none⟩) (R * C) cap], .int .i64 i, .int .i64 j, .float .f64 r] w' (fun e w2 => e = .returned (.tuple #[]) ∧ Wrote w' w2 g (L2.set (i * C + j) (mul11F α β K Mx My Mz i j))) := fun w' h1 =>
                rset_any R C i j g cap (R * C) r _ L2 w' h1 (by unfold mul11F; rw [← e]; exact hr) (by rw [hH2.len, List.length_replicate]) hR hC (by omega) (by omega) (by rw [hH2.len, List.length_replicate]; exact at_lt hiR hjC)
              go_wp2_with (first | (go_at_call 134; ((with_reducible refine (hset _ hL5).mono ?_); rintro e w1 ⟨rfl, hw5⟩)))
              go_roundw
              case rel =>
                refine ⟨j + 1, _, by omega, by go_num, hB5.wrote hw5 (.inl (by simp)), hw5.fw hL5, (hH2.set hpl hiR hjC).congr fun r c hr hc => ?_⟩
                unfold stepR
                by_cases hrc : r = i ∧ c = j
                · obtain ⟨rfl, rfl⟩ := hrc
                  simp
                · rw [if_neg hrc]
                  by_cases h2 : r < i ∨ (r = i ∧ c < j)
                  · rw [if_pos h2, if_pos (by omega)]
                  · rw [if_neg h2, if_neg (by omega)]
              case measure => simp [intOf]; omega
        · have e : j = C := by omega
          go_wp2
          go_roundw
          case rel =>
            refine ⟨i + 1, L2, by omega, by go_num, hB2, hL2, hH2.congr fun r c hr hc => ?_⟩
            unfold stepR
            by_cases h2 : r < i ∨ (r = i ∧ c < j)
            · rw [if_pos h2, if_pos (by omega)]
            · rw [if_neg h2, if_neg (by omega)]
          case measure => simp [intOf]; omega
    · have e : i = R := by omega
      have t4 := c4 _ hB
      have tU := cU _ hB
      have zz := z4 _ hB
      have x4 : w.heap.size + 1 + 1 + 1 < wr.heap.size := by omega
      have xU : U < wr.heap.size := by omega
      go_wp2
      refine bodyPost_ret (v := .agg #[.int .i64 R, .int .i64 C, .slice (some ⟨g, 0, none⟩) (R * C) cap]) (by simp [results, Try.results77, go_sem, *]) rfl ?_
      have gwr : Grew w wr := g0.trans (hB.grew0 gV hG)
      have hlL : L.length = R * C := by rw [hH.len, List.length_replicate]
      refine ⟨_, rfl, L, ⟨g, cap, by rw [hlL], by omega, by (repeat (first | (with_reducible assumption) | ((with_reducible refine FW.ext_set ?_ ?_ ?_ _); rotate_left; (focus (simp only [size_setCell', World.size_alloc, size_ext, size_upd]; omega)); (focus (dsimp only; omega))) | ((with_reducible refine FW.setCell_ne ?_ ?_ _); rotate_left; (focus (dsimp only; omega))) | (with_reducible refine FW.ext ?_ _ _) | (with_reducible refine FW.alloc ?_ _))), by rw [hlL]; omega⟩, hH.congr fun r c hr hc => ?_, by (show Grew _ _; repeat (first | (with_reducible exact Grew.refl _) | (with_reducible assumption) | (with_reducible refine Grew.ext ?_ _ _) | (with_reducible refine Grew.alloc ?_ _) | ((with_reducible refine Grew.setCell ?_ ?_ _); rotate_left; (focus (dsimp only; first | omega | (simp only [size_ext, World.size_alloc, Array.size_append]; omega)))) | (with_reducible refine Grew.drewN ?_ _) | (with_reducible refine Grew.drew ?_)))⟩
      unfold stepR
      rw [if_pos (by omega)]
end Go.Proofs.Ytcmggfpcbijcjaa
