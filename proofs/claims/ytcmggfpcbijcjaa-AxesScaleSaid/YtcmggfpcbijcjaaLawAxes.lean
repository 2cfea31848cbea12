/-
  The walk of the law AxesScale (layer 6).
-/
import Derived.Test.YtcmggfpcbijcjaaAw06
import Derived.Test.YtcmggfpcbijcjaaPar2
set_option linter.unusedSimpArgs false
set_option linter.unusedVariables false
open Go Go.RowKit Sedge
namespace Go.Proofs.Ytcmggfpcbijcjaa
theorem along_no {a : VecM} (h : VecM.long a = false) : a.ws.length ≤ 1000 ∧ a.n ≤ 60 := by simp [VecM.long] at h; omega
theorem list_map {x : VecM} (F : Nat → Nat → Nat) : mapTo (fun i => F i (x.list.getD i 0)) x.list.length = (List.range x.n.toNat).map fun i => F i (x.num i) := by
  unfold mapTo
  rw [VecM.list_length]
  exact List.map_congr_left fun i hi => by rw [VecM.list_get (by simp at hi; omega)]
set_option maxRecDepth 100000 in
set_option maxHeartbeats 4000000 in
theorem ax_main (a α : Nat) (x : VecM) (A O : Value) (zs : List Int) (w : World) (ha : IsF a α) (hA : FS w A x.ws) (hO : IS .i64 w O zs) (hwx : x.wf) (lx : VecM.long x = false) (lk : zs.length ≤ 100) :
   Calls Try.prog 17 #[.float .f64 a, .agg #[A, .int .i64 x.off, .int .i64 x.n, .int .i64 x.inc], O] w (fun e w' => e = .returned (.bool true) ∧ ∃ o n, w' = ext w o n) := by
  obtain ⟨aA, cA, rfl⟩ := hA.shape
  obtain ⟨aO, cO, rfl⟩ := hO.shape
  have nx := along_no lx
  have Hwx := hid hwx
  have hlx : ∀ w', FS w' (.slice aA x.ws.length cA) x.ws → Calls Try.prog 53 #[.agg #[.slice aA x.ws.length cA, .int .i64 x.off, .int .i64 x.n, .int .i64 x.inc]] w' (fun e w2 => e = .returned (.bool false) ∧ ∃ o n, w2 = ext w' o n) := fun w' h => by
    have := long_any x (.slice aA x.ws.length cA) w' h; rw [lx] at this; exact this
  have d0 : decide ((100 : Int) < (zs.length : Int)) = false := by simp; omega
  have hrr := fun w' (h : FS w' (.slice aA x.ws.length cA) x.ws) => rright_any x _ w' h hwx
  clear hwx lx
  go_enter Try.func17, Try.ntmps17
  refine seq_stop ?_
  go_wp2
  refine stop_go (fun W hW => ?_)
  have s1 : w.heap.size < W.heap.size := by rw [hW]; simp only [World.size_alloc]; omega
  have b1 : ∀ i, W.cell? ⟨w.heap.size, i, none⟩ = (#[.slice aA x.ws.length cA, .int .i64 x.off, .int .i64 x.n, .int .i64 x.inc] : Array Value)[i]? := by intro i; rw [hW]; go_simp
  have g0 : Grew w W := by rw [hW]; exact (Grew.refl _).alloc _
  clear hW
  have hAW := hA.grew g0
  have hOW := hO.grew g0
  go_wp2_with (first | (go_at_call 24; ((with_reducible refine (awake06 _).mono ?_); rintro e w1 ⟨rfl, o1, n1, rfl⟩)) | (go_at_call 53; ((with_reducible refine (hlx _ ?_).mono ?_); (focus (first | (with_reducible assumption) | (with_reducible refine FS.ext ?_ _ _; with_reducible assumption) | (with_reducible refine IS.ext ?_ _ _; with_reducible assumption) | (refine hDu _ ?_; with_reducible assumption) | (refine hOu _ ?_; with_reducible assumption) | (refine hDa _ ?_; with_reducible assumption) | (refine hDb _ ?_; with_reducible assumption) | (refine hDc _ ?_; with_reducible assumption) | (refine hDd _ ?_; with_reducible assumption) | (refine FW.fs ?_ (by omega) _; with_reducible assumption) | (refine WS.fs ?_; with_reducible assumption) | (refine FW.fs ?_ (by omega) _; assumption) | omega | assumption)); rintro e w1 ⟨rfl, o1, n1, rfl⟩)))
  refine wp_region_JJ W [.is (.agg #[.slice aA x.ws.length cA, .int .i64 x.off, .int .i64 x.n, .int .i64 x.inc]), .row (fun s => .agg #[s, .int .i64 x.off, .int .i64 x.n, .int .i64 x.inc]) (x.ws), .is (.agg #[.slice aA x.ws.length cA, .int .i64 x.off, .int .i64 x.n, .int .i64 x.inc]), .row (fun s => .agg #[s, .int .i64 x.off, .int .i64 x.n, .int .i64 x.inc]) (x.ws), .box 4, .box 4, .put 7 25 (fun s => #[s, .int .i64 x.off, .int .i64 x.n, .int .i64 x.inc]) (x.ws), .put 8 27 (fun s => #[s, .int .i64 x.off, .int .i64 x.n, .int .i64 x.inc]) (x.ws)] [24, 25, 26, 27, 7, 8] (by kernel_rfl) (by kernel_rfl) (by (show Grew _ _; repeat (first | (with_reducible exact Grew.refl _) | (with_reducible assumption) | (with_reducible refine Grew.ext ?_ _ _) | (with_reducible refine Grew.alloc ?_ _) | ((with_reducible refine Grew.setCell ?_ ?_ _); rotate_left; (focus (dsimp only; first | omega | (simp only [size_ext, World.size_alloc, Array.size_append]; omega)))) | (with_reducible refine Grew.drewN ?_ _) | (with_reducible refine Grew.drew ?_)))) ?_ (fun ρ own V gV hF => ?_)
  · refine stepsS_cons (j := 1) rfl ?_ ?_
    · intro L ρ own u hS K hK
      obtain ⟨o', n', hu⟩ := hS.grew
      subst hu
      simp only [mkA_cons, mkA_nil, List.setIfInBounds_toArray, List.set_cons_zero, List.set_cons_succ]
      go_wp2_with fail
      exact hS.is rfl rfl (by kernel_rfl) (by (show Grew _ _; repeat (first | (with_reducible exact Grew.refl _) | (with_reducible assumption) | (with_reducible refine Grew.ext ?_ _ _) | (with_reducible refine Grew.alloc ?_ _) | ((with_reducible refine Grew.setCell ?_ ?_ _); rotate_left; (focus (dsimp only; first | omega | (simp only [size_ext, World.size_alloc, Array.size_append]; omega)))) | (with_reducible refine Grew.drewN ?_ _) | (with_reducible refine Grew.drew ?_)))) (by simp only [mkA_cons, mkA_nil, List.setIfInBounds_toArray, List.set_cons_zero, List.set_cons_succ, *] )
    refine stepsS_cons (j := 2) rfl ?_ ?_
    · intro L ρ own u hS K hK
      have e0 := hS.fact 0 rfl rfl (by kernel_rfl)
      change ρ 24 = _ at e0
      obtain ⟨o', n', hu⟩ := hS.grew
      subst hu
      simp only [mkA_cons, mkA_nil, List.setIfInBounds_toArray, List.set_cons_zero, List.set_cons_succ]
      go_wp2_with (first | (go_at_call 54; ((with_reducible refine (alone_any x _ _ ?_ (by omega)).mono ?_); (focus (first | (with_reducible assumption) | (with_reducible refine FS.ext ?_ _ _; with_reducible assumption) | (with_reducible refine IS.ext ?_ _ _; with_reducible assumption) | (refine hDu _ ?_; with_reducible assumption) | (refine hOu _ ?_; with_reducible assumption) | (refine hDa _ ?_; with_reducible assumption) | (refine hDb _ ?_; with_reducible assumption) | (refine hDc _ ?_; with_reducible assumption) | (refine hDd _ ?_; with_reducible assumption) | (refine FW.fs ?_ (by omega) _; with_reducible assumption) | (refine WS.fs ?_; with_reducible assumption) | (refine FW.fs ?_ (by omega) _; assumption) | omega | assumption)); rintro e w1 ⟨v1, rfl, ⟨g1, cap1, rfl, hg1, hF1, hgl1⟩, hw1⟩)))
      exact hS.row (cap := cap1) rfl rfl (by kernel_rfl) hw1 hg1 hF1 (by simp only [mkA_cons, mkA_nil, List.setIfInBounds_toArray, List.set_cons_zero, List.set_cons_succ, *] )
    refine stepsS_cons (j := 3) rfl ?_ ?_
    · intro L ρ own u hS K hK
      obtain ⟨o', n', hu⟩ := hS.grew
      subst hu
      simp only [mkA_cons, mkA_nil, List.setIfInBounds_toArray, List.set_cons_zero, List.set_cons_succ]
      go_wp2_with fail
      exact hS.is rfl rfl (by kernel_rfl) (by (show Grew _ _; repeat (first | (with_reducible exact Grew.refl _) | (with_reducible assumption) | (with_reducible refine Grew.ext ?_ _ _) | (with_reducible refine Grew.alloc ?_ _) | ((with_reducible refine Grew.setCell ?_ ?_ _); rotate_left; (focus (dsimp only; first | omega | (simp only [size_ext, World.size_alloc, Array.size_append]; omega)))) | (with_reducible refine Grew.drewN ?_ _) | (with_reducible refine Grew.drew ?_)))) (by simp only [mkA_cons, mkA_nil, List.setIfInBounds_toArray, List.set_cons_zero, List.set_cons_succ, *] )
    refine stepsS_cons (j := 4) rfl ?_ ?_
    · intro L ρ own u hS K hK
      have e2 := hS.fact 2 rfl rfl (by kernel_rfl)
      change ρ 26 = _ at e2
      obtain ⟨o', n', hu⟩ := hS.grew
      subst hu
      simp only [mkA_cons, mkA_nil, List.setIfInBounds_toArray, List.set_cons_zero, List.set_cons_succ]
      go_wp2_with (first | (go_at_call 54; ((with_reducible refine (alone_any x _ _ ?_ (by omega)).mono ?_); (focus (first | (with_reducible assumption) | (with_reducible refine FS.ext ?_ _ _; with_reducible assumption) | (with_reducible refine IS.ext ?_ _ _; with_reducible assumption) | (refine hDu _ ?_; with_reducible assumption) | (refine hOu _ ?_; with_reducible assumption) | (refine hDa _ ?_; with_reducible assumption) | (refine hDb _ ?_; with_reducible assumption) | (refine hDc _ ?_; with_reducible assumption) | (refine hDd _ ?_; with_reducible assumption) | (refine FW.fs ?_ (by omega) _; with_reducible assumption) | (refine WS.fs ?_; with_reducible assumption) | (refine FW.fs ?_ (by omega) _; assumption) | omega | assumption)); rintro e w1 ⟨v1, rfl, ⟨g1, cap1, rfl, hg1, hF1, hgl1⟩, hw1⟩)))
      exact hS.row (cap := cap1) rfl rfl (by kernel_rfl) hw1 hg1 hF1 (by simp only [mkA_cons, mkA_nil, List.setIfInBounds_toArray, List.set_cons_zero, List.set_cons_succ, *] )
    refine stepsS_cons (j := 5) rfl ?_ ?_
    · intro L ρ own u hS K hK
      simp only [mkA_cons, mkA_nil, List.setIfInBounds_toArray, List.set_cons_zero, List.set_cons_succ]
      go_wp2_with fail
      exact hS.box rfl rfl (by kernel_rfl) rfl (by simp only [mkA_cons, mkA_nil, List.setIfInBounds_toArray, List.set_cons_zero, List.set_cons_succ, *] )
    refine stepsS_cons (j := 6) rfl ?_ ?_
    · intro L ρ own u hS K hK
      simp only [mkA_cons, mkA_nil, List.setIfInBounds_toArray, List.set_cons_zero, List.set_cons_succ]
      go_wp2_with fail
      exact hS.box rfl rfl (by kernel_rfl) rfl (by simp only [mkA_cons, mkA_nil, List.setIfInBounds_toArray, List.set_cons_zero, List.set_cons_succ, *] )
    refine stepsS_cons (j := 7) rfl ?_ ?_
    · intro L ρ own u hS K hK
      exact hS.put (kb := 4) (kr := 1) rfl rfl (by kernel_rfl) (by decide) (fun _ => rfl) rfl rfl (by kernel_rfl) rfl rfl rfl (by kernel_rfl) rfl (by kernel_rfl) rfl (by simp only [mkA_cons, mkA_nil, List.setIfInBounds_toArray, List.set_cons_zero, List.set_cons_succ]; rfl) (by simp only [mkA_cons, mkA_nil, List.setIfInBounds_toArray, List.set_cons_zero, List.set_cons_succ]; rfl) (by kernel_rfl) (fun _ _ _ => by kernel_rfl) hK
    refine stepsS_cons (j := 8) rfl ?_ ?_
    · intro L ρ own u hS K hK
      exact hS.put (kb := 5) (kr := 3) rfl rfl (by kernel_rfl) (by decide) (fun _ => rfl) rfl rfl (by kernel_rfl) rfl rfl rfl (by kernel_rfl) rfl (by kernel_rfl) rfl (by simp only [mkA_cons, mkA_nil, List.setIfInBounds_toArray, List.set_cons_zero, List.set_cons_succ]; rfl) (by simp only [mkA_cons, mkA_nil, List.setIfInBounds_toArray, List.set_cons_zero, List.set_cons_succ]; rfl) (by kernel_rfl) (fun _ _ _ => by kernel_rfl) hK
    exact stepsS_nil
  have r6 := hF 6 _ _ rfl rfl
  have r7 := hF 7 _ _ rfl rfl
  simp only [mkA_cons, mkA_nil, List.setIfInBounds_toArray, List.set_cons_zero, List.set_cons_succ]
  obtain ⟨p, g, c, ep, h9, o9, l9, hp, og, lg, F0⟩ := r6
  obtain ⟨q, h, d, eq, h10, o10, l10, hq, oh, lh, H0⟩ := r7
  have npg := ne_own o9 og (by decide)
  have nph := ne_own o9 oh (by decide)
  have nqg := ne_own o10 og (by decide)
  have nqh := ne_own o10 oh (by decide)
  have ngh := ne_own og oh (by decide)
  have nhg := ngh.symm
  have npq := ne_own o9 o10 (by decide)
  have hGW : ∀ k ∈ [g, h], W.heap.size ≤ k := by intro k hk; simp at hk; omega
  have c1 := But.boxW gV s1 b1 hGW
  have cp := But.box (G := [g, h]) hp (by simp; omega)
  have cq := But.box (G := [g, h]) hq (by simp; omega)
  have hDu := But.fs gV hAW hGW
  have hOu := But.is gV hOW hGW
  have B0 := But.refl V [g, h]
  have ltp := some_lt hp
  have ltq := some_lt hq
  simp only [h9, h10]
  clear hF hp hq hlx
  cases hx : x.right
  · rw [hx] at hrr
    have hSc : ∀ w', FW w' g x.ws → Calls Try.prog 96 #[.float .f64 a, .agg #[.slice (some ⟨g, 0, none⟩) x.ws.length c, .int .i64 x.off, .int .i64 x.n, .int .i64 x.inc]] w' (fun e w2 => e = .returned (.int .i64 1) ∧ But w' [g] w2 ∧ FW w2 g x.ws) := fun w' h1 => by
      refine (scal_no a x _ w' (h1.fs (by omega) c) hx Hwx.out).mono fun e w2 hh => ?_
      exact ⟨hh.1, (But.refl w' [g]).grew hh.2, h1.grew hh.2⟩
    have hSh : ∀ w', But V [g, h] w' → FW w' h x.ws → Calls Try.prog 85 #[.agg #[.slice (some ⟨h, 0, none⟩) x.ws.length d, .int .i64 x.off, .int .i64 x.n, .int .i64 x.inc], .slice aO zs.length cO] w' (fun e w2 => e = .returned (.int .i64 1) ∧ But w' [h] w2 ∧ FW w2 h x.ws) := fun w' hb h1 => by
      have := shift_no x _ _ zs w' (h1.fs (by omega) d) (hOu w' hb) Hwx.out (.inl hx)
      rw [if_pos hx] at this
      refine this.mono fun e w2 hh => ?_
      exact ⟨hh.1, (But.refl w' [h]).grew hh.2, h1.grew hh.2⟩
    have hSg : ∀ w', FS w' (.slice aA x.ws.length cA) x.ws → Calls Try.prog 97 #[.agg #[.slice aA x.ws.length cA, .int .i64 x.off, .int .i64 x.n, .int .i64 x.inc]] w' (fun e w2 => e = .returned (.tuple #[.slice none 0 0, .int .i64 1]) ∧ ∃ o n, w2 = ext w' o n) := fun w' h1 => sign_no x _ w' h1 hx Hwx.out
    have da : decide (x.ws = x.ws) = true := by simp
    clear hx
    go_wp2_with fail
    refine wp_region_R (But V [g, h]) [] [(0,0), (0,1), (0,3), (0,4), (1,2), (1,5), (0,6), (0,7)] (by kernel_rfl) (by kernel_rfl) (fun _ _ _ _ h _ => h) (B0.grew ((Grew.refl _).drew)) ?_
    refine name_any (fun V6 hV6 => ?_)
    have hg6 : Grew V V6 := by rw [← hV6]; (show Grew _ _; repeat (first | (with_reducible exact Grew.refl _) | (with_reducible assumption) | (with_reducible refine Grew.ext ?_ _ _) | (with_reducible refine Grew.alloc ?_ _) | ((with_reducible refine Grew.setCell ?_ ?_ _); rotate_left; (focus (dsimp only; first | omega | (simp only [size_ext, World.size_alloc, Array.size_append]; omega)))) | (with_reducible refine Grew.drewN ?_ _) | (with_reducible refine Grew.drew ?_)))
    have B6 := B0.grew hg6
    have F6 := F0.grew hg6
    have H6 := H0.grew hg6
    clear hV6 hg6 B0 F0 H0
    go_wp2_with (first | ((with_reducible refine wpR_id ?_); first | (refine wpR_take (v := ?_) rfl rfl ?_ ?_; rotate_left; (focus (intro w' hw'; go_simp; try with_reducible rfl)); simp only [Act.put, List.setIfInBounds_toArray, List.set_cons_zero, List.set_cons_succ]) | (refine wpR_pure (v := ?_) rfl rfl ?_ ?_; rotate_left; (focus (intro w'; go_simp; try with_reducible rfl)); simp only [Act.put, List.setIfInBounds_toArray, List.set_cons_zero, List.set_cons_succ]) | (refine wpR_takeG (v := ?_) rfl rfl rfl rfl rfl ?_ ?_; rotate_left; (focus (intro w' hw'; go_simp; try with_reducible rfl)); simp only [Act.put, List.setIfInBounds_toArray, List.set_cons_zero, List.set_cons_succ]) | (refine wpR_skip rfl rfl rfl rfl rfl rfl ?_; simp only [Act.put, List.setIfInBounds_toArray, List.set_cons_zero, List.set_cons_succ]) | (refine wpR_skipU rfl rfl rfl rfl rfl ?_; simp only [Act.put, List.setIfInBounds_toArray, List.set_cons_zero, List.set_cons_succ]) | (refine wpR_do rfl rfl (fun K hK => ?_)) | (refine wpR_doG rfl rfl rfl rfl rfl (fun K hK => ?_)) | (refine wpR_last rfl rfl (fun K hK => ?_)) | (refine wpR_nil ?_)) | ((with_reducible refine wpR_go ?_ ?_); (focus (with_reducible assumption))) | ((with_reducible refine upon_id ?_); refine upon_fop rfl (by assumption) (by assumption) ?_; intro rr nn hr) | (go_at_call 96; ((with_reducible refine (hSc _ (by assumption)).mono ?_); rintro e w1 ⟨rfl, hb1, F⟩; (have B1 : But V [g, h] w1 := But.trans (by assumption) hb1 (fun b hb => .inl (by simp at hb; simp [hb])); have H : FW w1 h _ := hb1.fw (by assumption) (by simpa using nhg)))) | (go_at_call 85; ((with_reducible refine (hSh _ (by assumption) (by assumption)).mono ?_); rintro e w1 ⟨rfl, hb2, H⟩; (have B1 : But V [g, h] w1 := But.trans (by assumption) hb2 (fun b hb => .inl (by simp at hb; simp [hb])); have F : FW w1 g _ := hb2.fw (by assumption) (by simpa using ngh)))) | (go_at_call 97; ((with_reducible refine (hSg _ ?_).mono ?_); (focus (first | (with_reducible assumption) | (with_reducible refine FS.ext ?_ _ _; with_reducible assumption) | (with_reducible refine IS.ext ?_ _ _; with_reducible assumption) | (refine hDu _ ?_; with_reducible assumption) | (refine hOu _ ?_; with_reducible assumption) | (refine hDa _ ?_; with_reducible assumption) | (refine hDb _ ?_; with_reducible assumption) | (refine hDc _ ?_; with_reducible assumption) | (refine hDd _ ?_; with_reducible assumption) | (refine FW.fs ?_ (by omega) _; with_reducible assumption) | (refine WS.fs ?_; with_reducible assumption) | (refine FW.fs ?_ (by omega) _; assumption) | omega | assumption)); rintro e w1 ⟨rfl, hw1⟩; (have B1 : But V [g, h] w1 := But.grew (by assumption) hw1; have F : FW w1 g _ := FW.grew (by assumption) hw1; have H : FW w1 h _ := FW.grew (by assumption) hw1))) | (go_at_call 56; ((with_reducible refine (hrr _ ?_).mono ?_); (focus (first | (with_reducible assumption) | (with_reducible refine FS.ext ?_ _ _; with_reducible assumption) | (with_reducible refine IS.ext ?_ _ _; with_reducible assumption) | (refine hDu _ ?_; with_reducible assumption) | (refine hOu _ ?_; with_reducible assumption) | (refine hDa _ ?_; with_reducible assumption) | (refine hDb _ ?_; with_reducible assumption) | (refine hDc _ ?_; with_reducible assumption) | (refine hDd _ ?_; with_reducible assumption) | (refine FW.fs ?_ (by omega) _; with_reducible assumption) | (refine WS.fs ?_; with_reducible assumption) | (refine FW.fs ?_ (by omega) _; assumption) | omega | assumption)); rintro e w1 ⟨rfl, hw1⟩; (have B1 : But V [g, h] w1 := But.grew (by assumption) hw1; have F : FW w1 g _ := FW.grew (by assumption) hw1; have H : FW w1 h _ := FW.grew (by assumption) hw1))) | (go_at_call 47; ((with_reducible refine (all_any (.slice (some ⟨g, 0, none⟩) x.ws.length c) (.slice aA x.ws.length cA) x.ws x.ws _ ?_ ?_).mono ?_); (focus (first | (with_reducible assumption) | (with_reducible refine FS.ext ?_ _ _; with_reducible assumption) | (with_reducible refine IS.ext ?_ _ _; with_reducible assumption) | (refine hDu _ ?_; with_reducible assumption) | (refine hOu _ ?_; with_reducible assumption) | (refine hDa _ ?_; with_reducible assumption) | (refine hDb _ ?_; with_reducible assumption) | (refine hDc _ ?_; with_reducible assumption) | (refine hDd _ ?_; with_reducible assumption) | (refine FW.fs ?_ (by omega) _; with_reducible assumption) | (refine WS.fs ?_; with_reducible assumption) | (refine FW.fs ?_ (by omega) _; assumption) | omega | assumption)); (focus (first | (with_reducible assumption) | (with_reducible refine FS.ext ?_ _ _; with_reducible assumption) | (with_reducible refine IS.ext ?_ _ _; with_reducible assumption) | (refine hDu _ ?_; with_reducible assumption) | (refine hOu _ ?_; with_reducible assumption) | (refine hDa _ ?_; with_reducible assumption) | (refine hDb _ ?_; with_reducible assumption) | (refine hDc _ ?_; with_reducible assumption) | (refine hDd _ ?_; with_reducible assumption) | (refine FW.fs ?_ (by omega) _; with_reducible assumption) | (refine WS.fs ?_; with_reducible assumption) | (refine FW.fs ?_ (by omega) _; assumption) | omega | assumption)); rintro e w1 ⟨rfl, hw1⟩; (have B1 : But V [g, h] w1 := But.grew (by assumption) hw1; have F : FW w1 g _ := FW.grew (by assumption) hw1; have H : FW w1 h _ := FW.grew (by assumption) hw1))) | (go_at_call 47; ((with_reducible refine (all_any (.slice (some ⟨h, 0, none⟩) x.ws.length d) (.slice aA x.ws.length cA) x.ws x.ws _ ?_ ?_).mono ?_); (focus (first | (with_reducible assumption) | (with_reducible refine FS.ext ?_ _ _; with_reducible assumption) | (with_reducible refine IS.ext ?_ _ _; with_reducible assumption) | (refine hDu _ ?_; with_reducible assumption) | (refine hOu _ ?_; with_reducible assumption) | (refine hDa _ ?_; with_reducible assumption) | (refine hDb _ ?_; with_reducible assumption) | (refine hDc _ ?_; with_reducible assumption) | (refine hDd _ ?_; with_reducible assumption) | (refine FW.fs ?_ (by omega) _; with_reducible assumption) | (refine WS.fs ?_; with_reducible assumption) | (refine FW.fs ?_ (by omega) _; assumption) | omega | assumption)); (focus (first | (with_reducible assumption) | (with_reducible refine FS.ext ?_ _ _; with_reducible assumption) | (with_reducible refine IS.ext ?_ _ _; with_reducible assumption) | (refine hDu _ ?_; with_reducible assumption) | (refine hOu _ ?_; with_reducible assumption) | (refine hDa _ ?_; with_reducible assumption) | (refine hDb _ ?_; with_reducible assumption) | (refine hDc _ ?_; with_reducible assumption) | (refine hDd _ ?_; with_reducible assumption) | (refine FW.fs ?_ (by omega) _; with_reducible assumption) | (refine WS.fs ?_; with_reducible assumption) | (refine FW.fs ?_ (by omega) _; assumption) | omega | assumption)); rintro e w1 ⟨rfl, hw1⟩; (have B1 : But V [g, h] w1 := But.grew (by assumption) hw1; have F : FW w1 g _ := FW.grew (by assumption) hw1; have H : FW w1 h _ := FW.grew (by assumption) hw1))) | (go_at_call 24; ((with_reducible refine (awake06 _).mono ?_); rintro e w1 ⟨rfl, hw1⟩; (have B1 : But V [g, h] w1 := But.grew (by assumption) hw1; have F : FW w1 g _ := FW.grew (by assumption) hw1; have H : FW w1 h _ := FW.grew (by assumption) hw1))))
    go_ret
    exact ⟨rfl, g0.trans (B1.grew0 gV hGW)⟩
  · rw [hx] at hrr
    obtain ⟨X1, hX1⟩ : ∃ X1, Hid (X1 = axL (fun _ z => fmul α z) x) := ⟨_, hid rfl⟩
    obtain ⟨S, hS⟩ : ∃ S, Hid (S = sgTo x x.n.toNat) := ⟨_, hid rfl⟩
    have hlist : ∀ w', FS w' (.slice aA x.ws.length cA) x.ws → Calls Try.prog 61 #[.agg #[.slice aA x.ws.length cA, .int .i64 x.off, .int .i64 x.n, .int .i64 x.inc]] w' (fun e w2 => ∃ v, e = .returned v ∧ FS w2 v x.list ∧ ∃ o n, w2 = ext w' o n) := fun w' h1 => list_any x _ w' h1 hx Hwx.out (by omega)
    have hnl := VecM.right_nle hx (by omega)
    have hll : x.list.length ≤ 1000000 := by rw [VecM.list_length]; omega
    have axlen : ∀ F, (axL F x).length = x.ws.length := fun F => by simp [axL, VecMwrite, VecMwriteTo]
    have hSc : ∀ w', FW w' g x.ws → Calls Try.prog 96 #[.float .f64 a, .agg #[.slice (some ⟨g, 0, none⟩) x.ws.length c, .int .i64 x.off, .int .i64 x.n, .int .i64 x.inc]] w' (fun e w2 => e = .returned (.int .i64 0) ∧ But w' [g] w2 ∧ FW w2 g X1) := fun w' h1 => by
      rw [hX1.out]; exact scal_any a α x g c w' ha h1 hx Hwx.out (by omega)
    have hSg : ∀ w', FS w' (.slice aA x.ws.length cA) x.ws → Calls Try.prog 97 #[.agg #[.slice aA x.ws.length cA, .int .i64 x.off, .int .i64 x.n, .int .i64 x.inc]] w' (fun e w2 => ∃ v, e = .returned (.tuple #[v, .int .i64 0]) ∧ FS w2 v S ∧ ∃ o n, w2 = ext w' o n) := fun w' h1 => by
      rw [hS.out]; exact sign_any x _ w' h1 hx Hwx.out (by omega)
    have hRs : ∀ v w', FS w' v x.list → Calls Try.prog 98 #[.float .f64 a, v] w' (fun e w2 => ∃ v2, e = .returned v2 ∧ FS w2 v2 (mapTo (fun i => fmul α (x.list.getD i 0)) x.list.length) ∧ ∃ o n, w2 = ext w' o n) := fun v w' h1 => rscal_any a α v x.list w' ha h1 hll
    have hRg : ∀ v w', FS w' v x.list → Calls Try.prog 99 #[v] w' (fun e w2 => ∃ v2, e = .returned v2 ∧ FS w2 v2 S ∧ ∃ o n, w2 = ext w' o n) := fun v w' h1 => by
      rw [hS.out]
      have := rsign_any v x.list w' h1 hll
      rw [list_map (fun _ z => sgF z)] at this
      exact this
    have hWr : ∀ (F : Nat → Nat → Nat) (v : Value) w', FS w' (.slice aA x.ws.length cA) x.ws → FS w' v (mapTo (fun i => F i (x.list.getD i 0)) x.list.length) → Calls Try.prog 66 #[.agg #[.slice aA x.ws.length cA, .int .i64 x.off, .int .i64 x.n, .int .i64 x.inc], v] w' (fun e w2 => ∃ v2, e = .returned v2 ∧ FS w2 v2 (axL F x) ∧ ∃ o n, w2 = ext w' o n) := fun F v w' h1 h2 => by
      refine (rwrite_any x _ v _ w' h1 h2 hx Hwx.out (by omega)).mono fun e w2 hh => ?_
      obtain ⟨v2, e1, e2, e3⟩ := hh
      refine ⟨v2, e1, ?_, e3⟩
      have := e2.fs
      rw [list_map F] at this
      exact this
    have hW1 : ∀ v w', FS w' (.slice aA x.ws.length cA) x.ws → FS w' v (mapTo (fun i => fmul α (x.list.getD i 0)) x.list.length) → Calls Try.prog 66 #[.agg #[.slice aA x.ws.length cA, .int .i64 x.off, .int .i64 x.n, .int .i64 x.inc], v] w' (fun e w2 => ∃ v2, e = .returned v2 ∧ FS w2 v2 X1 ∧ ∃ o n, w2 = ext w' o n) := fun v w' h1 h2 => by
      rw [hX1.out]; exact hWr (fun _ z => fmul α z) v w' h1 h2
    have fX : ∀ w', FW w' g X1 → FS w' (.slice (some ⟨g, 0, none⟩) x.ws.length c) X1 := fun w' h1 => by
      have := h1.fs (by rw [hX1.out, axlen]; omega) c; rwa [show X1.length = x.ws.length by rw [hX1.out, axlen]] at this
    have da : decide (x.ws = x.ws) = true := by simp
    have db : decide (X1 = X1) = true := by simp
    have dc : decide (S = S) = true := by simp
    by_cases hk : (zs.length : Int) = x.n
    · obtain ⟨X2, hX2⟩ : ∃ X2, Hid (X2 = axL (fun i z => fscale z (zs.getD i 0)) x) := ⟨_, hid rfl⟩
      have hSh : ∀ w', But V [g, h] w' → FW w' h x.ws → Calls Try.prog 85 #[.agg #[.slice (some ⟨h, 0, none⟩) x.ws.length d, .int .i64 x.off, .int .i64 x.n, .int .i64 x.inc], .slice aO zs.length cO] w' (fun e w2 => e = .returned (.int .i64 0) ∧ But w' [h] w2 ∧ FW w2 h X2) := fun w' hb h1 => by
        rw [hX2.out]
        exact shift_any x h d _ zs w' h1 (hOu w' hb) hx Hwx.out (by omega) hk (fun w2 hb2 => hOu w2 (hb.trans hb2 (fun b hb => .inl (by simp at hb; simp [hb]))))
      have hRh : ∀ v w', FS w' v x.list → IS .i64 w' (.slice aO zs.length cO) zs → Calls Try.prog 100 #[v, .slice aO zs.length cO] w' (fun e w2 => ∃ v2, e = .returned v2 ∧ FS w2 v2 (mapTo (fun i => fscale (x.list.getD i 0) (zs.getD i 0)) x.list.length) ∧ ∃ o n, w2 = ext w' o n) := fun v w' h1 h2 => rshift_any v _ x.list zs w' h1 h2 hll (by rw [VecM.list_length]; omega)
      have hW2 : ∀ v w', FS w' (.slice aA x.ws.length cA) x.ws → FS w' v (mapTo (fun i => fscale (x.list.getD i 0) (zs.getD i 0)) x.list.length) → Calls Try.prog 66 #[.agg #[.slice aA x.ws.length cA, .int .i64 x.off, .int .i64 x.n, .int .i64 x.inc], v] w' (fun e w2 => ∃ v2, e = .returned v2 ∧ FS w2 v2 X2 ∧ ∃ o n, w2 = ext w' o n) := fun v w' h1 h2 => by
        rw [hX2.out]; exact hWr (fun i z => fscale z (zs.getD i 0)) v w' h1 h2
      have fY : ∀ w', FW w' h X2 → FS w' (.slice (some ⟨h, 0, none⟩) x.ws.length d) X2 := fun w' h1 => by
        have := h1.fs (by rw [hX2.out, axlen]; omega) d; rwa [show X2.length = x.ws.length by rw [hX2.out, axlen]] at this
      have dd : decide (X2 = X2) = true := by simp
      have d1 : ((zs.length : Int) != x.n) = false := by simpa using hk
      clear hk hx hWr axlen
      go_wp2_with fail
      refine wp_region_R (But V [g, h]) [] [(0,0), (0,1), (0,3), (0,4), (1,2), (1,5), (0,6), (0,7)] (by kernel_rfl) (by kernel_rfl) (fun _ _ _ _ h _ => h) (B0.grew ((Grew.refl _).drew)) ?_
      refine name_any (fun V6 hV6 => ?_)
      have hg6 : Grew V V6 := by rw [← hV6]; (show Grew _ _; repeat (first | (with_reducible exact Grew.refl _) | (with_reducible assumption) | (with_reducible refine Grew.ext ?_ _ _) | (with_reducible refine Grew.alloc ?_ _) | ((with_reducible refine Grew.setCell ?_ ?_ _); rotate_left; (focus (dsimp only; first | omega | (simp only [size_ext, World.size_alloc, Array.size_append]; omega)))) | (with_reducible refine Grew.drewN ?_ _) | (with_reducible refine Grew.drew ?_)))
      have B6 := B0.grew hg6
      have F6 := F0.grew hg6
      have H6 := H0.grew hg6
      clear hV6 hg6 B0 F0 H0
      go_wp2_with (first | ((with_reducible refine wpR_id ?_); first | (refine wpR_take (v := ?_) rfl rfl ?_ ?_; rotate_left; (focus (intro w' hw'; go_simp; try with_reducible rfl)); simp only [Act.put, List.setIfInBounds_toArray, List.set_cons_zero, List.set_cons_succ]) | (refine wpR_pure (v := ?_) rfl rfl ?_ ?_; rotate_left; (focus (intro w'; go_simp; try with_reducible rfl)); simp only [Act.put, List.setIfInBounds_toArray, List.set_cons_zero, List.set_cons_succ]) | (refine wpR_takeG (v := ?_) rfl rfl rfl rfl rfl ?_ ?_; rotate_left; (focus (intro w' hw'; go_simp; try with_reducible rfl)); simp only [Act.put, List.setIfInBounds_toArray, List.set_cons_zero, List.set_cons_succ]) | (refine wpR_skip rfl rfl rfl rfl rfl rfl ?_; simp only [Act.put, List.setIfInBounds_toArray, List.set_cons_zero, List.set_cons_succ]) | (refine wpR_skipU rfl rfl rfl rfl rfl ?_; simp only [Act.put, List.setIfInBounds_toArray, List.set_cons_zero, List.set_cons_succ]) | (refine wpR_do rfl rfl (fun K hK => ?_)) | (refine wpR_doG rfl rfl rfl rfl rfl (fun K hK => ?_)) | (refine wpR_last rfl rfl (fun K hK => ?_)) | (refine wpR_nil ?_)) | ((with_reducible refine wpR_go ?_ ?_); (focus (with_reducible assumption))) | ((with_reducible refine upon_id ?_); refine upon_fop rfl (by assumption) (by assumption) ?_; intro rr nn hr) | (go_at_call 96; ((with_reducible refine (hSc _ (by assumption)).mono ?_); rintro e w1 ⟨rfl, hb1, F⟩; (have B1 : But V [g, h] w1 := But.trans (by assumption) hb1 (fun b hb => .inl (by simp at hb; simp [hb])); have H : FW w1 h _ := hb1.fw (by assumption) (by simpa using nhg)))) | (go_at_call 85; ((with_reducible refine (hSh _ (by assumption) (by assumption)).mono ?_); rintro e w1 ⟨rfl, hb2, H⟩; (have B1 : But V [g, h] w1 := But.trans (by assumption) hb2 (fun b hb => .inl (by simp at hb; simp [hb])); have F : FW w1 g _ := hb2.fw (by assumption) (by simpa using ngh)))) | (go_at_call 97; ((with_reducible refine (hSg _ ?_).mono ?_); (focus (first | (with_reducible assumption) | (with_reducible refine FS.ext ?_ _ _; with_reducible assumption) | (with_reducible refine IS.ext ?_ _ _; with_reducible assumption) | (refine hDu _ ?_; with_reducible assumption) | (refine hOu _ ?_; with_reducible assumption) | (refine hDa _ ?_; with_reducible assumption) | (refine hDb _ ?_; with_reducible assumption) | (refine hDc _ ?_; with_reducible assumption) | (refine hDd _ ?_; with_reducible assumption) | (refine FW.fs ?_ (by omega) _; with_reducible assumption) | (refine WS.fs ?_; with_reducible assumption) | (refine FW.fs ?_ (by omega) _; assumption) | omega | assumption)); rintro e w1 ⟨vs, rfl, hvs, hw1⟩; (have B1 : But V [g, h] w1 := But.grew (by assumption) hw1; have F : FW w1 g _ := FW.grew (by assumption) hw1; have H : FW w1 h _ := FW.grew (by assumption) hw1))) | ((go_at_call 56; ((with_reducible refine (hrr _ ?_).mono ?_); (focus (first | (with_reducible assumption) | (with_reducible refine FS.ext ?_ _ _; with_reducible assumption) | (with_reducible refine IS.ext ?_ _ _; with_reducible assumption) | (refine hDu _ ?_; with_reducible assumption) | (refine hOu _ ?_; with_reducible assumption) | (refine hDa _ ?_; with_reducible assumption) | (refine hDb _ ?_; with_reducible assumption) | (refine hDc _ ?_; with_reducible assumption) | (refine hDd _ ?_; with_reducible assumption) | (refine FW.fs ?_ (by omega) _; with_reducible assumption) | (refine WS.fs ?_; with_reducible assumption) | (refine FW.fs ?_ (by omega) _; assumption) | omega | assumption)); rintro e w1 ⟨rfl, hw1⟩; (have B1 : But V [g, h] w1 := But.grew (by assumption) hw1; have F : FW w1 g _ := FW.grew (by assumption) hw1; have H : FW w1 h _ := FW.grew (by assumption) hw1))); have hvs := hvs.grew hw1) | (go_at_call 61; ((with_reducible refine (hlist _ ?_).mono ?_); (focus (first | (with_reducible assumption) | (with_reducible refine FS.ext ?_ _ _; with_reducible assumption) | (with_reducible refine IS.ext ?_ _ _; with_reducible assumption) | (refine hDu _ ?_; with_reducible assumption) | (refine hOu _ ?_; with_reducible assumption) | (refine hDa _ ?_; with_reducible assumption) | (refine hDb _ ?_; with_reducible assumption) | (refine hDc _ ?_; with_reducible assumption) | (refine hDd _ ?_; with_reducible assumption) | (refine FW.fs ?_ (by omega) _; with_reducible assumption) | (refine WS.fs ?_; with_reducible assumption) | (refine FW.fs ?_ (by omega) _; assumption) | omega | assumption)); rintro e w1 ⟨vl, rfl, hvl, hw1⟩; (have B1 : But V [g, h] w1 := But.grew (by assumption) hw1; have F : FW w1 g _ := FW.grew (by assumption) hw1; have H : FW w1 h _ := FW.grew (by assumption) hw1); (have hvs := hvs.grew hw1))))
      refine wp_region_R (But V [g, h]) [] [(0,0), (0,1), (0,2), (0,3), (0,4), (0,5), (0,6), (0,7), (0,8), (0,9), (0,10), (0,11), (1,12), (1,13), (1,14), (0,15), (0,16), (0,17), (0,18), (0,19), (1,20), (1,21), (0,22), (0,23)] (by kernel_rfl) (by kernel_rfl) (fun _ _ _ _ h _ => h) (B1.grew ((Grew.refl _).drew)) ?_
      refine name_any (fun V7 hV7 => ?_)
      have hg7 : Grew w1 V7 := by rw [← hV7]; (show Grew _ _; repeat (first | (with_reducible exact Grew.refl _) | (with_reducible assumption) | (with_reducible refine Grew.ext ?_ _ _) | (with_reducible refine Grew.alloc ?_ _) | ((with_reducible refine Grew.setCell ?_ ?_ _); rotate_left; (focus (dsimp only; first | omega | (simp only [size_ext, World.size_alloc, Array.size_append]; omega)))) | (with_reducible refine Grew.drewN ?_ _) | (with_reducible refine Grew.drew ?_)))
      have B7 := B1.grew hg7
      have F7 := F.grew hg7
      have H7 := H.grew hg7
      have hvs := hvs.grew hg7
      have hvl := hvl.grew hg7
      clear hV7 hg7 B1 F H
      go_wp2_with (first | ((with_reducible refine wpR_id ?_); first | (refine wpR_take (v := ?_) rfl rfl ?_ ?_; rotate_left; (focus (intro w' hw'; go_simp; try with_reducible rfl)); simp only [Act.put, List.setIfInBounds_toArray, List.set_cons_zero, List.set_cons_succ]) | (refine wpR_pure (v := ?_) rfl rfl ?_ ?_; rotate_left; (focus (intro w'; go_simp; try with_reducible rfl)); simp only [Act.put, List.setIfInBounds_toArray, List.set_cons_zero, List.set_cons_succ]) | (refine wpR_takeG (v := ?_) rfl rfl rfl rfl rfl ?_ ?_; rotate_left; (focus (intro w' hw'; go_simp; try with_reducible rfl)); simp only [Act.put, List.setIfInBounds_toArray, List.set_cons_zero, List.set_cons_succ]) | (refine wpR_skip rfl rfl rfl rfl rfl rfl ?_; simp only [Act.put, List.setIfInBounds_toArray, List.set_cons_zero, List.set_cons_succ]) | (refine wpR_skipU rfl rfl rfl rfl rfl ?_; simp only [Act.put, List.setIfInBounds_toArray, List.set_cons_zero, List.set_cons_succ]) | (refine wpR_do rfl rfl (fun K hK => ?_)) | (refine wpR_doG rfl rfl rfl rfl rfl (fun K hK => ?_)) | (refine wpR_last rfl rfl (fun K hK => ?_)) | (refine wpR_nil ?_)) | ((with_reducible refine wpR_go ?_ ?_); (focus (with_reducible assumption))) | ((with_reducible refine upon_id ?_); refine upon_fop rfl (by assumption) (by assumption) ?_; intro rr nn hr) | (go_at_call 98; ((with_reducible refine (hRs _ _ hvl).mono ?_); rintro e w1 ⟨v2, rfl, hv2, hw1⟩; (have B1 : But V [g, h] w1 := But.grew (by assumption) hw1; have F : FW w1 g _ := FW.grew (by assumption) hw1; have H : FW w1 h _ := FW.grew (by assumption) hw1); (have hvs := hvs.grew hw1; have hvl := hvl.grew hw1))) | (go_at_call 66; ((with_reducible refine (hW1 v2 _ (hDu _ (by assumption)) hv2).mono ?_); rintro e w1 ⟨v3, rfl, hv3, hw1⟩; (have B1 : But V [g, h] w1 := But.grew (by assumption) hw1; have F : FW w1 g _ := FW.grew (by assumption) hw1; have H : FW w1 h _ := FW.grew (by assumption) hw1); (have hvs := hvs.grew hw1; have hvl := hvl.grew hw1))) | (go_at_call 47; ((with_reducible refine (all_any (.slice (some ⟨g, 0, none⟩) x.ws.length c) v3 X1 X1 _ (fX _ (by assumption)) hv3).mono ?_); rintro e w1 ⟨rfl, hw1⟩; (have B1 : But V [g, h] w1 := But.grew (by assumption) hw1; have F : FW w1 g _ := FW.grew (by assumption) hw1; have H : FW w1 h _ := FW.grew (by assumption) hw1); (have hvs := hvs.grew hw1; have hvl := hvl.grew hw1))) | (go_at_call 99; ((with_reducible refine (hRg _ _ hvl).mono ?_); rintro e w1 ⟨v4, rfl, hv4, hw1⟩; (have B1 : But V [g, h] w1 := But.grew (by assumption) hw1; have F : FW w1 g _ := FW.grew (by assumption) hw1; have H : FW w1 h _ := FW.grew (by assumption) hw1); (have hvs := hvs.grew hw1; have hvl := hvl.grew hw1))) | (go_at_call 47; ((with_reducible refine (all_any vs v4 S S _ hvs hv4).mono ?_); rintro e w1 ⟨rfl, hw1⟩; (have B1 : But V [g, h] w1 := But.grew (by assumption) hw1; have F : FW w1 g _ := FW.grew (by assumption) hw1; have H : FW w1 h _ := FW.grew (by assumption) hw1); (have hvl := hvl.grew hw1))))
      refine wp_region_R (But V [g, h]) [] [(0,0), (0,1), (0,2), (0,3), (0,4), (0,5), (0,6), (0,7), (1,8), (1,9), (1,10), (0,11), (0,12), (1,13), (0,14), (0,15)] (by kernel_rfl) (by kernel_rfl) (fun _ _ _ _ h _ => h) (B1.grew ((Grew.refl _).drew)) ?_
      refine name_any (fun V8 hV8 => ?_)
      have hg8 : Grew w1 V8 := by rw [← hV8]; (show Grew _ _; repeat (first | (with_reducible exact Grew.refl _) | (with_reducible assumption) | (with_reducible refine Grew.ext ?_ _ _) | (with_reducible refine Grew.alloc ?_ _) | ((with_reducible refine Grew.setCell ?_ ?_ _); rotate_left; (focus (dsimp only; first | omega | (simp only [size_ext, World.size_alloc, Array.size_append]; omega)))) | (with_reducible refine Grew.drewN ?_ _) | (with_reducible refine Grew.drew ?_)))
      have B8 := B1.grew hg8
      have F8 := F.grew hg8
      have H8 := H.grew hg8
      have hvl := hvl.grew hg8
      clear hV8 hg8 B1 F H hv2 hv3
      go_wp2_with (first | ((with_reducible refine wpR_id ?_); first | (refine wpR_take (v := ?_) rfl rfl ?_ ?_; rotate_left; (focus (intro w' hw'; go_simp; try with_reducible rfl)); simp only [Act.put, List.setIfInBounds_toArray, List.set_cons_zero, List.set_cons_succ]) | (refine wpR_pure (v := ?_) rfl rfl ?_ ?_; rotate_left; (focus (intro w'; go_simp; try with_reducible rfl)); simp only [Act.put, List.setIfInBounds_toArray, List.set_cons_zero, List.set_cons_succ]) | (refine wpR_takeG (v := ?_) rfl rfl rfl rfl rfl ?_ ?_; rotate_left; (focus (intro w' hw'; go_simp; try with_reducible rfl)); simp only [Act.put, List.setIfInBounds_toArray, List.set_cons_zero, List.set_cons_succ]) | (refine wpR_skip rfl rfl rfl rfl rfl rfl ?_; simp only [Act.put, List.setIfInBounds_toArray, List.set_cons_zero, List.set_cons_succ]) | (refine wpR_skipU rfl rfl rfl rfl rfl ?_; simp only [Act.put, List.setIfInBounds_toArray, List.set_cons_zero, List.set_cons_succ]) | (refine wpR_do rfl rfl (fun K hK => ?_)) | (refine wpR_doG rfl rfl rfl rfl rfl (fun K hK => ?_)) | (refine wpR_last rfl rfl (fun K hK => ?_)) | (refine wpR_nil ?_)) | ((with_reducible refine wpR_go ?_ ?_); (focus (with_reducible assumption))) | ((with_reducible refine upon_id ?_); refine upon_fop rfl (by assumption) (by assumption) ?_; intro rr nn hr) | (go_at_call 100; ((with_reducible refine (hRh _ _ hvl (hOu _ (by assumption))).mono ?_); rintro e w1 ⟨v5, rfl, hv5, hw1⟩; (have B1 : But V [g, h] w1 := But.grew (by assumption) hw1; have F : FW w1 g _ := FW.grew (by assumption) hw1; have H : FW w1 h _ := FW.grew (by assumption) hw1))) | (go_at_call 66; ((with_reducible refine (hW2 v5 _ (hDu _ (by assumption)) hv5).mono ?_); rintro e w1 ⟨v6, rfl, hv6, hw1⟩; (have B1 : But V [g, h] w1 := But.grew (by assumption) hw1; have F : FW w1 g _ := FW.grew (by assumption) hw1; have H : FW w1 h _ := FW.grew (by assumption) hw1))) | (go_at_call 47; ((with_reducible refine (all_any (.slice (some ⟨h, 0, none⟩) x.ws.length d) v6 X2 X2 _ (fY _ (by assumption)) hv6).mono ?_); rintro e w1 ⟨rfl, hw1⟩; (have B1 : But V [g, h] w1 := But.grew (by assumption) hw1; have F : FW w1 g _ := FW.grew (by assumption) hw1; have H : FW w1 h _ := FW.grew (by assumption) hw1))) | (go_at_call 24; ((with_reducible refine (awake06 _).mono ?_); rintro e w1 ⟨rfl, hw1⟩; (have B1 : But V [g, h] w1 := But.grew (by assumption) hw1; have F : FW w1 g _ := FW.grew (by assumption) hw1; have H : FW w1 h _ := FW.grew (by assumption) hw1))))
      go_ret
      exact ⟨rfl, g0.trans (B1.grew0 gV hGW)⟩
    · have hSh : ∀ w', But V [g, h] w' → FW w' h x.ws → Calls Try.prog 85 #[.agg #[.slice (some ⟨h, 0, none⟩) x.ws.length d, .int .i64 x.off, .int .i64 x.n, .int .i64 x.inc], .slice aO zs.length cO] w' (fun e w2 => e = .returned (.int .i64 3) ∧ But w' [h] w2 ∧ FW w2 h x.ws) := fun w' hb h1 => by
        have := shift_no x _ _ zs w' (h1.fs (by omega) d) (hOu w' hb) Hwx.out (.inr hk)
        rw [if_neg (by rw [hx]; decide)] at this
        refine this.mono fun e w2 hh => ?_
        exact ⟨hh.1, (But.refl w' [h]).grew hh.2, h1.grew hh.2⟩
      have d1 : ((zs.length : Int) != x.n) = true := by simpa using hk
      clear hk hx hWr axlen
      go_wp2_with fail
      refine wp_region_R (But V [g, h]) [] [(0,0), (0,1), (0,3), (0,4), (1,2), (1,5), (0,6), (0,7)] (by kernel_rfl) (by kernel_rfl) (fun _ _ _ _ h _ => h) (B0.grew ((Grew.refl _).drew)) ?_
      refine name_any (fun V6 hV6 => ?_)
      have hg6 : Grew V V6 := by rw [← hV6]; (show Grew _ _; repeat (first | (with_reducible exact Grew.refl _) | (with_reducible assumption) | (with_reducible refine Grew.ext ?_ _ _) | (with_reducible refine Grew.alloc ?_ _) | ((with_reducible refine Grew.setCell ?_ ?_ _); rotate_left; (focus (dsimp only; first | omega | (simp only [size_ext, World.size_alloc, Array.size_append]; omega)))) | (with_reducible refine Grew.drewN ?_ _) | (with_reducible refine Grew.drew ?_)))
      have B6 := B0.grew hg6
      have F6 := F0.grew hg6
      have H6 := H0.grew hg6
      clear hV6 hg6 B0 F0 H0
      go_wp2_with (first | ((with_reducible refine wpR_id ?_); first | (refine wpR_take (v := ?_) rfl rfl ?_ ?_; rotate_left; (focus (intro w' hw'; go_simp; try with_reducible rfl)); simp only [Act.put, List.setIfInBounds_toArray, List.set_cons_zero, List.set_cons_succ]) | (refine wpR_pure (v := ?_) rfl rfl ?_ ?_; rotate_left; (focus (intro w'; go_simp; try with_reducible rfl)); simp only [Act.put, List.setIfInBounds_toArray, List.set_cons_zero, List.set_cons_succ]) | (refine wpR_takeG (v := ?_) rfl rfl rfl rfl rfl ?_ ?_; rotate_left; (focus (intro w' hw'; go_simp; try with_reducible rfl)); simp only [Act.put, List.setIfInBounds_toArray, List.set_cons_zero, List.set_cons_succ]) | (refine wpR_skip rfl rfl rfl rfl rfl rfl ?_; simp only [Act.put, List.setIfInBounds_toArray, List.set_cons_zero, List.set_cons_succ]) | (refine wpR_skipU rfl rfl rfl rfl rfl ?_; simp only [Act.put, List.setIfInBounds_toArray, List.set_cons_zero, List.set_cons_succ]) | (refine wpR_do rfl rfl (fun K hK => ?_)) | (refine wpR_doG rfl rfl rfl rfl rfl (fun K hK => ?_)) | (refine wpR_last rfl rfl (fun K hK => ?_)) | (refine wpR_nil ?_)) | ((with_reducible refine wpR_go ?_ ?_); (focus (with_reducible assumption))) | ((with_reducible refine upon_id ?_); refine upon_fop rfl (by assumption) (by assumption) ?_; intro rr nn hr) | (go_at_call 96; ((with_reducible refine (hSc _ (by assumption)).mono ?_); rintro e w1 ⟨rfl, hb1, F⟩; (have B1 : But V [g, h] w1 := But.trans (by assumption) hb1 (fun b hb => .inl (by simp at hb; simp [hb])); have H : FW w1 h _ := hb1.fw (by assumption) (by simpa using nhg)))) | (go_at_call 85; ((with_reducible refine (hSh _ (by assumption) (by assumption)).mono ?_); rintro e w1 ⟨rfl, hb2, H⟩; (have B1 : But V [g, h] w1 := But.trans (by assumption) hb2 (fun b hb => .inl (by simp at hb; simp [hb])); have F : FW w1 g _ := hb2.fw (by assumption) (by simpa using ngh)))) | (go_at_call 97; ((with_reducible refine (hSg _ ?_).mono ?_); (focus (first | (with_reducible assumption) | (with_reducible refine FS.ext ?_ _ _; with_reducible assumption) | (with_reducible refine IS.ext ?_ _ _; with_reducible assumption) | (refine hDu _ ?_; with_reducible assumption) | (refine hOu _ ?_; with_reducible assumption) | (refine hDa _ ?_; with_reducible assumption) | (refine hDb _ ?_; with_reducible assumption) | (refine hDc _ ?_; with_reducible assumption) | (refine hDd _ ?_; with_reducible assumption) | (refine FW.fs ?_ (by omega) _; with_reducible assumption) | (refine WS.fs ?_; with_reducible assumption) | (refine FW.fs ?_ (by omega) _; assumption) | omega | assumption)); rintro e w1 ⟨vs, rfl, hvs, hw1⟩; (have B1 : But V [g, h] w1 := But.grew (by assumption) hw1; have F : FW w1 g _ := FW.grew (by assumption) hw1; have H : FW w1 h _ := FW.grew (by assumption) hw1))) | ((go_at_call 56; ((with_reducible refine (hrr _ ?_).mono ?_); (focus (first | (with_reducible assumption) | (with_reducible refine FS.ext ?_ _ _; with_reducible assumption) | (with_reducible refine IS.ext ?_ _ _; with_reducible assumption) | (refine hDu _ ?_; with_reducible assumption) | (refine hOu _ ?_; with_reducible assumption) | (refine hDa _ ?_; with_reducible assumption) | (refine hDb _ ?_; with_reducible assumption) | (refine hDc _ ?_; with_reducible assumption) | (refine hDd _ ?_; with_reducible assumption) | (refine FW.fs ?_ (by omega) _; with_reducible assumption) | (refine WS.fs ?_; with_reducible assumption) | (refine FW.fs ?_ (by omega) _; assumption) | omega | assumption)); rintro e w1 ⟨rfl, hw1⟩; (have B1 : But V [g, h] w1 := But.grew (by assumption) hw1; have F : FW w1 g _ := FW.grew (by assumption) hw1; have H : FW w1 h _ := FW.grew (by assumption) hw1))); have hvs := hvs.grew hw1) | (go_at_call 61; ((with_reducible refine (hlist _ ?_).mono ?_); (focus (first | (with_reducible assumption) | (with_reducible refine FS.ext ?_ _ _; with_reducible assumption) | (with_reducible refine IS.ext ?_ _ _; with_reducible assumption) | (refine hDu _ ?_; with_reducible assumption) | (refine hOu _ ?_; with_reducible assumption) | (refine hDa _ ?_; with_reducible assumption) | (refine hDb _ ?_; with_reducible assumption) | (refine hDc _ ?_; with_reducible assumption) | (refine hDd _ ?_; with_reducible assumption) | (refine FW.fs ?_ (by omega) _; with_reducible assumption) | (refine WS.fs ?_; with_reducible assumption) | (refine FW.fs ?_ (by omega) _; assumption) | omega | assumption)); rintro e w1 ⟨vl, rfl, hvl, hw1⟩; (have B1 : But V [g, h] w1 := But.grew (by assumption) hw1; have F : FW w1 g _ := FW.grew (by assumption) hw1; have H : FW w1 h _ := FW.grew (by assumption) hw1); (have hvs := hvs.grew hw1))))
      refine wp_region_R (But V [g, h]) [] [(0,0), (0,1), (0,2), (0,3), (0,4), (0,5), (0,6), (0,7), (0,8), (0,9), (0,10), (0,11), (1,12), (1,13), (1,14), (0,15), (0,16), (0,17), (0,18), (0,19), (1,20), (1,21), (0,22), (0,23)] (by kernel_rfl) (by kernel_rfl) (fun _ _ _ _ h _ => h) (B1.grew ((Grew.refl _).drew)) ?_
      refine name_any (fun V7 hV7 => ?_)
      have hg7 : Grew w1 V7 := by rw [← hV7]; (show Grew _ _; repeat (first | (with_reducible exact Grew.refl _) | (with_reducible assumption) | (with_reducible refine Grew.ext ?_ _ _) | (with_reducible refine Grew.alloc ?_ _) | ((with_reducible refine Grew.setCell ?_ ?_ _); rotate_left; (focus (dsimp only; first | omega | (simp only [size_ext, World.size_alloc, Array.size_append]; omega)))) | (with_reducible refine Grew.drewN ?_ _) | (with_reducible refine Grew.drew ?_)))
      have B7 := B1.grew hg7
      have F7 := F.grew hg7
      have H7 := H.grew hg7
      have hvs := hvs.grew hg7
      have hvl := hvl.grew hg7
      clear hV7 hg7 B1 F H
      go_wp2_with (first | ((with_reducible refine wpR_id ?_); first | (refine wpR_take (v := ?_) rfl rfl ?_ ?_; rotate_left; (focus (intro w' hw'; go_simp; try with_reducible rfl)); simp only [Act.put, List.setIfInBounds_toArray, List.set_cons_zero, List.set_cons_succ]) | (refine wpR_pure (v := ?_) rfl rfl ?_ ?_; rotate_left; (focus (intro w'; go_simp; try with_reducible rfl)); simp only [Act.put, List.setIfInBounds_toArray, List.set_cons_zero, List.set_cons_succ]) | (refine wpR_takeG (v := ?_) rfl rfl rfl rfl rfl ?_ ?_; rotate_left; (focus (intro w' hw'; go_simp; try with_reducible rfl)); simp only [Act.put, List.setIfInBounds_toArray, List.set_cons_zero, List.set_cons_succ]) | (refine wpR_skip rfl rfl rfl rfl rfl rfl ?_; simp only [Act.put, List.setIfInBounds_toArray, List.set_cons_zero, List.set_cons_succ]) | (refine wpR_skipU rfl rfl rfl rfl rfl ?_; simp only [Act.put, List.setIfInBounds_toArray, List.set_cons_zero, List.set_cons_succ]) | (refine wpR_do rfl rfl (fun K hK => ?_)) | (refine wpR_doG rfl rfl rfl rfl rfl (fun K hK => ?_)) | (refine wpR_last rfl rfl (fun K hK => ?_)) | (refine wpR_nil ?_)) | ((with_reducible refine wpR_go ?_ ?_); (focus (with_reducible assumption))) | ((with_reducible refine upon_id ?_); refine upon_fop rfl (by assumption) (by assumption) ?_; intro rr nn hr) | (go_at_call 98; ((with_reducible refine (hRs _ _ hvl).mono ?_); rintro e w1 ⟨v2, rfl, hv2, hw1⟩; (have B1 : But V [g, h] w1 := But.grew (by assumption) hw1; have F : FW w1 g _ := FW.grew (by assumption) hw1; have H : FW w1 h _ := FW.grew (by assumption) hw1); (have hvs := hvs.grew hw1; have hvl := hvl.grew hw1))) | (go_at_call 66; ((with_reducible refine (hW1 v2 _ (hDu _ (by assumption)) hv2).mono ?_); rintro e w1 ⟨v3, rfl, hv3, hw1⟩; (have B1 : But V [g, h] w1 := But.grew (by assumption) hw1; have F : FW w1 g _ := FW.grew (by assumption) hw1; have H : FW w1 h _ := FW.grew (by assumption) hw1); (have hvs := hvs.grew hw1; have hvl := hvl.grew hw1))) | (go_at_call 47; ((with_reducible refine (all_any (.slice (some ⟨g, 0, none⟩) x.ws.length c) v3 X1 X1 _ (fX _ (by assumption)) hv3).mono ?_); rintro e w1 ⟨rfl, hw1⟩; (have B1 : But V [g, h] w1 := But.grew (by assumption) hw1; have F : FW w1 g _ := FW.grew (by assumption) hw1; have H : FW w1 h _ := FW.grew (by assumption) hw1); (have hvs := hvs.grew hw1; have hvl := hvl.grew hw1))) | (go_at_call 99; ((with_reducible refine (hRg _ _ hvl).mono ?_); rintro e w1 ⟨v4, rfl, hv4, hw1⟩; (have B1 : But V [g, h] w1 := But.grew (by assumption) hw1; have F : FW w1 g _ := FW.grew (by assumption) hw1; have H : FW w1 h _ := FW.grew (by assumption) hw1); (have hvs := hvs.grew hw1; have hvl := hvl.grew hw1))) | (go_at_call 47; ((with_reducible refine (all_any vs v4 S S _ hvs hv4).mono ?_); rintro e w1 ⟨rfl, hw1⟩; (have B1 : But V [g, h] w1 := But.grew (by assumption) hw1; have F : FW w1 g _ := FW.grew (by assumption) hw1; have H : FW w1 h _ := FW.grew (by assumption) hw1); (have hvl := hvl.grew hw1))) | (go_at_call 47; ((with_reducible refine (all_any (.slice (some ⟨h, 0, none⟩) x.ws.length d) (.slice aA x.ws.length cA) x.ws x.ws _ ?_ ?_).mono ?_); (focus (first | (with_reducible assumption) | (with_reducible refine FS.ext ?_ _ _; with_reducible assumption) | (with_reducible refine IS.ext ?_ _ _; with_reducible assumption) | (refine hDu _ ?_; with_reducible assumption) | (refine hOu _ ?_; with_reducible assumption) | (refine hDa _ ?_; with_reducible assumption) | (refine hDb _ ?_; with_reducible assumption) | (refine hDc _ ?_; with_reducible assumption) | (refine hDd _ ?_; with_reducible assumption) | (refine FW.fs ?_ (by omega) _; with_reducible assumption) | (refine WS.fs ?_; with_reducible assumption) | (refine FW.fs ?_ (by omega) _; assumption) | omega | assumption)); (focus (first | (with_reducible assumption) | (with_reducible refine FS.ext ?_ _ _; with_reducible assumption) | (with_reducible refine IS.ext ?_ _ _; with_reducible assumption) | (refine hDu _ ?_; with_reducible assumption) | (refine hOu _ ?_; with_reducible assumption) | (refine hDa _ ?_; with_reducible assumption) | (refine hDb _ ?_; with_reducible assumption) | (refine hDc _ ?_; with_reducible assumption) | (refine hDd _ ?_; with_reducible assumption) | (refine FW.fs ?_ (by omega) _; with_reducible assumption) | (refine WS.fs ?_; with_reducible assumption) | (refine FW.fs ?_ (by omega) _; assumption) | omega | assumption)); rintro e w1 ⟨rfl, hw1⟩; (have B1 : But V [g, h] w1 := But.grew (by assumption) hw1; have F : FW w1 g _ := FW.grew (by assumption) hw1; have H : FW w1 h _ := FW.grew (by assumption) hw1))) | (go_at_call 24; ((with_reducible refine (awake06 _).mono ?_); rintro e w1 ⟨rfl, hw1⟩; (have B1 : But V [g, h] w1 := But.grew (by assumption) hw1; have F : FW w1 g _ := FW.grew (by assumption) hw1; have H : FW w1 h _ := FW.grew (by assumption) hw1))))
      go_ret
      exact ⟨rfl, g0.trans (B1.grew0 gV hGW)⟩
set_option maxRecDepth 100000 in
set_option maxHeartbeats 4000000 in
theorem axesScale_any (a α : Nat) (x : VecM) (A : Value) (O : Value) (zs : List Int) (w : World) (ha : IsF a α) (hA : FS w A x.ws) (hwx : x.wf) (hO : IS .i64 w O zs) (hz : ∀ z ∈ zs, IntKind.min .i64 ≤ z ∧ z ≤ IntKind.max .i64) :
   Calls Try.prog 17 #[.float .f64 a, .agg #[A, .int .i64 x.off, .int .i64 x.n, .int .i64 x.inc], O] w (fun e w' => e = .returned (.bool true) ∧ ∃ o n, w' = ext w o n) := by
  clear hz
  cases lx : VecM.long x
  · by_cases lk : zs.length ≤ 100
    · exact ax_main a α x A O zs w ha hA hO hwx lx lk
    · obtain ⟨aA, cA, rfl⟩ := hA.shape
      obtain ⟨aO, cO, rfl⟩ := hO.shape
      have hlx : ∀ w', FS w' (.slice aA x.ws.length cA) x.ws → Calls Try.prog 53 #[.agg #[.slice aA x.ws.length cA, .int .i64 x.off, .int .i64 x.n, .int .i64 x.inc]] w' (fun e w2 => e = .returned (.bool false) ∧ ∃ o n, w2 = ext w' o n) := fun w' h => by
        have := long_any x (.slice aA x.ws.length cA) w' h; rw [lx] at this; exact this
      have d0 : decide ((100 : Int) < (zs.length : Int)) = true := by simp; omega
      clear hwx lx lk
      go_enter Try.func17, Try.ntmps17
      refine seq_stop ?_
      go_wp2
      refine stop_go (fun W hW => ?_)
      have s1 : w.heap.size < W.heap.size := by rw [hW]; simp only [World.size_alloc]; omega
      have b1 : ∀ i, W.cell? ⟨w.heap.size, i, none⟩ = (#[.slice aA x.ws.length cA, .int .i64 x.off, .int .i64 x.n, .int .i64 x.inc] : Array Value)[i]? := by intro i; rw [hW]; go_simp
      have g0 : Grew w W := by rw [hW]; exact (Grew.refl _).alloc _
      clear hW
      have hAW := hA.grew g0
      go_wp2_with (first | (go_at_call 24; ((with_reducible refine (awake06 _).mono ?_); rintro e w1 ⟨rfl, o1, n1, rfl⟩)) | (go_at_call 53; ((with_reducible refine (hlx _ ?_).mono ?_); (focus (first | (with_reducible assumption) | (with_reducible refine FS.ext ?_ _ _; with_reducible assumption) | (with_reducible refine IS.ext ?_ _ _; with_reducible assumption) | (refine hDu _ ?_; with_reducible assumption) | (refine hOu _ ?_; with_reducible assumption) | (refine hDa _ ?_; with_reducible assumption) | (refine hDb _ ?_; with_reducible assumption) | (refine hDc _ ?_; with_reducible assumption) | (refine hDd _ ?_; with_reducible assumption) | (refine FW.fs ?_ (by omega) _; with_reducible assumption) | (refine WS.fs ?_; with_reducible assumption) | (refine FW.fs ?_ (by omega) _; assumption) | omega | assumption)); rintro e w1 ⟨rfl, o1, n1, rfl⟩)))
      go_ret
      exact ⟨rfl, by (show Grew _ _; repeat (first | (with_reducible exact Grew.refl _) | (with_reducible assumption) | (with_reducible refine Grew.ext ?_ _ _) | (with_reducible refine Grew.alloc ?_ _) | ((with_reducible refine Grew.setCell ?_ ?_ _); rotate_left; (focus (dsimp only; first | omega | (simp only [size_ext, World.size_alloc, Array.size_append]; omega)))) | (with_reducible refine Grew.drewN ?_ _) | (with_reducible refine Grew.drew ?_)))⟩
  · obtain ⟨aA, cA, rfl⟩ := hA.shape
    obtain ⟨aO, cO, rfl⟩ := hO.shape
    have hlx : ∀ w', FS w' (.slice aA x.ws.length cA) x.ws → Calls Try.prog 53 #[.agg #[.slice aA x.ws.length cA, .int .i64 x.off, .int .i64 x.n, .int .i64 x.inc]] w' (fun e w2 => e = .returned (.bool true) ∧ ∃ o n, w2 = ext w' o n) := fun w' h => by
      have := long_any x (.slice aA x.ws.length cA) w' h; rw [lx] at this; exact this
    clear hwx lx
    go_enter Try.func17, Try.ntmps17
    refine seq_stop ?_
    go_wp2
    refine stop_go (fun W hW => ?_)
    have s1 : w.heap.size < W.heap.size := by rw [hW]; simp only [World.size_alloc]; omega
    have b1 : ∀ i, W.cell? ⟨w.heap.size, i, none⟩ = (#[.slice aA x.ws.length cA, .int .i64 x.off, .int .i64 x.n, .int .i64 x.inc] : Array Value)[i]? := by intro i; rw [hW]; go_simp
    have g0 : Grew w W := by rw [hW]; exact (Grew.refl _).alloc _
    clear hW
    have hAW := hA.grew g0
    go_wp2_with (first | (go_at_call 24; ((with_reducible refine (awake06 _).mono ?_); rintro e w1 ⟨rfl, o1, n1, rfl⟩)) | (go_at_call 53; ((with_reducible refine (hlx _ ?_).mono ?_); (focus (first | (with_reducible assumption) | (with_reducible refine FS.ext ?_ _ _; with_reducible assumption) | (with_reducible refine IS.ext ?_ _ _; with_reducible assumption) | (refine hDu _ ?_; with_reducible assumption) | (refine hOu _ ?_; with_reducible assumption) | (refine hDa _ ?_; with_reducible assumption) | (refine hDb _ ?_; with_reducible assumption) | (refine hDc _ ?_; with_reducible assumption) | (refine hDd _ ?_; with_reducible assumption) | (refine FW.fs ?_ (by omega) _; with_reducible assumption) | (refine WS.fs ?_; with_reducible assumption) | (refine FW.fs ?_ (by omega) _; assumption) | omega | assumption)); rintro e w1 ⟨rfl, o1, n1, rfl⟩)))
    go_ret
    exact ⟨rfl, by (show Grew _ _; repeat (first | (with_reducible exact Grew.refl _) | (with_reducible assumption) | (with_reducible refine Grew.ext ?_ _ _) | (with_reducible refine Grew.alloc ?_ _) | ((with_reducible refine Grew.setCell ?_ ?_ _); rotate_left; (focus (dsimp only; first | omega | (simp only [size_ext, World.size_alloc, Array.size_append]; omega)))) | (with_reducible refine Grew.drewN ?_ _) | (with_reducible refine Grew.drew ?_)))⟩
end Go.Proofs.Ytcmggfpcbijcjaa
