/-
  The law MoveRows: its walk.
-/
import Derived.Deep.RegionWith
import Derived.Deep.CutRange
import Derived.Test.YtcmggfpcbijcjaaAw04
import Derived.Test.YtcmggfpcbijcjaaTabsI
import Derived.Test.YtcmggfpcbijcjaaPar2
import Derived.Test.YtcmggfpcbijcjaaSeg
open Go Go.RowKit Sedge
namespace Go.Proofs.Ytcmggfpcbijcjaa
theorem hw20 (r c : Int) (h1 : r ≤ 20) (h2 : c ≤ 20) : r.toNat * c.toNat ≤ 400 :=
  Nat.mul_le_mul (show r.toNat ≤ 20 by omega) (show c.toNat ≤ 20 by omega)
set_option maxRecDepth 100000 in
set_option maxHeartbeats 4000000 in
theorem moveRows_any (x : MatM) (D : Value) (i k : Int) (O : Value) (zs : List Int) (w : World) (hD : FS w D x.ws) (hwf : x.wf) (hi : I64 i) (hk : I64 k) (hO : IS .i64 w O zs) (hz : ∀ z ∈ zs, IntKind.min .i64 ≤ z ∧ z ≤ IntKind.max .i64) :
   Calls Try.prog 5 #[.agg #[D, .int .i64 x.off, .int .i64 x.rows, .int .i64 x.cols, .int .i64 x.ld], .int .i64 i, .int .i64 k, O] w (fun e w' => e = .returned (.bool true) ∧ ∃ o n, w' = ext w o n) := by
  obtain ⟨aO, capO, rfl⟩ := hO.shape
  have Hw := hid hwf
  have HO := hid hO
  have Hz := hid hz
  clear hwf hO hz
  cases hg : MatM.great x
  · by_cases hlen : (100 : Int) < zs.length
    · have d1 : decide ((100 : Int) < (zs.length : Int)) = true := by simpa using hlen
      have Hg := hid hg
      have hgr : ∀ w', FS w' D x.ws → Calls Try.prog 42 #[.agg #[D, .int .i64 x.off, .int .i64 x.rows, .int .i64 x.cols, .int .i64 x.ld]] w' (fun e w2 => e = .returned (.bool false) ∧ ∃ o n, w2 = ext w' o n) := fun w' h => by
        have := great_any x D w' h; rw [Hg.out] at this; exact this
      clear hg
      go_enter Try.func5, Try.ntmps5
      refine seq_stop ?_
      go_wp2
      refine stop_go (fun W hW => ?_)
      have s1 : w.heap.size < W.heap.size := by rw [hW]; simp only [World.size_alloc]; omega
      have b1 : ∀ i, W.cell? ⟨w.heap.size, i, none⟩ = (#[D, .int .i64 x.off, .int .i64 x.rows, .int .i64 x.cols, .int .i64 x.ld] : Array Value)[i]? := by intro i; rw [hW]; go_simp
      have g0 : Grew w W := by rw [hW]; exact (Grew.refl _).alloc _
      clear hW
      have hDW := hD.grew g0
      go_wp2_with (first | (go_at_call 41; ((with_reducible refine (awake04 _).mono ?_); rintro e w1 ⟨rfl, o1, n1, rfl⟩)) | (go_at_call 42; ((with_reducible refine (hgr _ ?_).mono ?_); (focus (first | assumption | (refine FS.ext ?_ _ _; assumption) | (refine IS.ext ?_ _ _; assumption) | (refine hDu _ ?_; assumption) | (refine hOu _ ?_; assumption) | (refine FW.fs ?_ (by omega) _; assumption) | (refine WS.fs ?_; assumption) | omega)); rintro e w1 ⟨rfl, o1, n1, rfl⟩)))
      go_ret
      exact ⟨rfl, by (show Grew _ _; repeat (first | (with_reducible exact Grew.refl _) | (with_reducible assumption) | (with_reducible refine Grew.ext ?_ _ _) | (with_reducible refine Grew.alloc ?_ _) | ((with_reducible refine Grew.setCell ?_ ?_ _); rotate_left; (focus (dsimp only; omega))) | (with_reducible refine Grew.drewN ?_ _) | (with_reducible refine Grew.drew ?_)))⟩
    · have d1 : decide ((100 : Int) < (zs.length : Int)) = false := by simpa using hlen
      have Hg := hid hg
      have hgr : ∀ w', FS w' D x.ws → Calls Try.prog 42 #[.agg #[D, .int .i64 x.off, .int .i64 x.rows, .int .i64 x.cols, .int .i64 x.ld]] w' (fun e w2 => e = .returned (.bool false) ∧ ∃ o n, w2 = ext w' o n) := fun w' h => by
        have := great_any x D w' h; rw [Hg.out] at this; exact this
      have hl : x.ws.length ≤ 1000 := by simp [MatM.great] at hg; omega
      clear hg
      go_enter Try.func5, Try.ntmps5
      refine seq_stop ?_
      go_wp2
      refine stop_go (fun W hW => ?_)
      have s1 : w.heap.size < W.heap.size := by rw [hW]; simp only [World.size_alloc]; omega
      have b1 : ∀ i, W.cell? ⟨w.heap.size, i, none⟩ = (#[D, .int .i64 x.off, .int .i64 x.rows, .int .i64 x.cols, .int .i64 x.ld] : Array Value)[i]? := by intro i; rw [hW]; go_simp
      have g0 : Grew w W := by rw [hW]; exact (Grew.refl _).alloc _
      clear hW
      have hDW := hD.grew g0
      go_wp2_with (first | (go_at_call 41; ((with_reducible refine (awake04 _).mono ?_); rintro e w1 ⟨rfl, o1, n1, rfl⟩)) | (go_at_call 42; ((with_reducible refine (hgr _ ?_).mono ?_); (focus (first | assumption | (refine FS.ext ?_ _ _; assumption) | (refine IS.ext ?_ _ _; assumption) | (refine hDu _ ?_; assumption) | (refine hOu _ ?_; assumption) | (refine FW.fs ?_ (by omega) _; assumption) | (refine WS.fs ?_; assumption) | omega)); rintro e w1 ⟨rfl, o1, n1, rfl⟩)))
      refine wp_region_JJ W [.is (.agg #[D, .int .i64 x.off, .int .i64 x.rows, .int .i64 x.cols, .int .i64 x.ld]), .row (fun s => .agg #[s, .int .i64 x.off, .int .i64 x.rows, .int .i64 x.cols, .int .i64 x.ld]) (x.ws), .is (.agg #[D, .int .i64 x.off, .int .i64 x.rows, .int .i64 x.cols, .int .i64 x.ld]), .row (fun s => .agg #[s, .int .i64 x.off, .int .i64 x.rows, .int .i64 x.cols, .int .i64 x.ld]) (x.ws), .box 5, .box 5, .put 9 28 (fun s => #[s, .int .i64 x.off, .int .i64 x.rows, .int .i64 x.cols, .int .i64 x.ld]) (x.ws), .put 10 30 (fun s => #[s, .int .i64 x.off, .int .i64 x.rows, .int .i64 x.cols, .int .i64 x.ld]) (x.ws)] [27, 28, 29, 30, 9, 10] (by kernel_rfl) (by kernel_rfl) (by (show Grew _ _; repeat (first | (with_reducible exact Grew.refl _) | (with_reducible assumption) | (with_reducible refine Grew.ext ?_ _ _) | (with_reducible refine Grew.alloc ?_ _) | ((with_reducible refine Grew.setCell ?_ ?_ _); rotate_left; (focus (dsimp only; omega))) | (with_reducible refine Grew.drewN ?_ _) | (with_reducible refine Grew.drew ?_)))) ?_ (fun ρ own V gV hF => ?_)
      · refine stepsS_cons (j := 1) rfl ?_ ?_
        · intro L ρ own u hS K hK
          obtain ⟨o', n', hu⟩ := hS.grew
          subst hu
          simp only [mkA_cons, mkA_nil, List.setIfInBounds_toArray, List.set_cons_zero, List.set_cons_succ]
          go_wp2_with fail
          exact hS.is rfl rfl (by kernel_rfl) (by (show Grew _ _; repeat (first | (with_reducible exact Grew.refl _) | (with_reducible assumption) | (with_reducible refine Grew.ext ?_ _ _) | (with_reducible refine Grew.alloc ?_ _) | ((with_reducible refine Grew.setCell ?_ ?_ _); rotate_left; (focus (dsimp only; omega))) | (with_reducible refine Grew.drewN ?_ _) | (with_reducible refine Grew.drew ?_)))) (by simp only [mkA_cons, mkA_nil, List.setIfInBounds_toArray, List.set_cons_zero, List.set_cons_succ, *] )
        refine stepsS_cons (j := 2) rfl ?_ ?_
        · intro L ρ own u hS K hK
          have e0 := hS.fact 0 rfl rfl (by kernel_rfl)
          change ρ 27 = _ at e0
          obtain ⟨o', n', hu⟩ := hS.grew
          subst hu
          simp only [mkA_cons, mkA_nil, List.setIfInBounds_toArray, List.set_cons_zero, List.set_cons_succ]
          go_wp2_with (first | (go_at_call 43; ((with_reducible refine (apart_any x _ _ ?_ (by omega)).mono ?_); (focus (first | assumption | (refine FS.ext ?_ _ _; assumption) | (refine IS.ext ?_ _ _; assumption) | (refine hDu _ ?_; assumption) | (refine hOu _ ?_; assumption) | (refine FW.fs ?_ (by omega) _; assumption) | (refine WS.fs ?_; assumption) | omega)); rintro e w1 ⟨v1, rfl, ⟨g1, cap1, rfl, hg1, hF1, hgl1⟩, hw1⟩)))
          exact hS.row (cap := cap1) rfl rfl (by kernel_rfl) hw1 hg1 hF1 (by simp only [mkA_cons, mkA_nil, List.setIfInBounds_toArray, List.set_cons_zero, List.set_cons_succ, *] )
        refine stepsS_cons (j := 3) rfl ?_ ?_
        · intro L ρ own u hS K hK
          obtain ⟨o', n', hu⟩ := hS.grew
          subst hu
          simp only [mkA_cons, mkA_nil, List.setIfInBounds_toArray, List.set_cons_zero, List.set_cons_succ]
          go_wp2_with fail
          exact hS.is rfl rfl (by kernel_rfl) (by (show Grew _ _; repeat (first | (with_reducible exact Grew.refl _) | (with_reducible assumption) | (with_reducible refine Grew.ext ?_ _ _) | (with_reducible refine Grew.alloc ?_ _) | ((with_reducible refine Grew.setCell ?_ ?_ _); rotate_left; (focus (dsimp only; omega))) | (with_reducible refine Grew.drewN ?_ _) | (with_reducible refine Grew.drew ?_)))) (by simp only [mkA_cons, mkA_nil, List.setIfInBounds_toArray, List.set_cons_zero, List.set_cons_succ, *] )
        refine stepsS_cons (j := 4) rfl ?_ ?_
        · intro L ρ own u hS K hK
          have e2 := hS.fact 2 rfl rfl (by kernel_rfl)
          change ρ 29 = _ at e2
          obtain ⟨o', n', hu⟩ := hS.grew
          subst hu
          simp only [mkA_cons, mkA_nil, List.setIfInBounds_toArray, List.set_cons_zero, List.set_cons_succ]
          go_wp2_with (first | (go_at_call 43; ((with_reducible refine (apart_any x _ _ ?_ (by omega)).mono ?_); (focus (first | assumption | (refine FS.ext ?_ _ _; assumption) | (refine IS.ext ?_ _ _; assumption) | (refine hDu _ ?_; assumption) | (refine hOu _ ?_; assumption) | (refine FW.fs ?_ (by omega) _; assumption) | (refine WS.fs ?_; assumption) | omega)); rintro e w1 ⟨v1, rfl, ⟨g1, cap1, rfl, hg1, hF1, hgl1⟩, hw1⟩)))
          exact hS.row (cap := cap1) rfl rfl (by kernel_rfl) hw1 hg1 hF1 (by simp only [mkA_cons, mkA_nil, List.setIfInBounds_toArray, List.set_cons_zero, List.set_cons_succ, *] )
        refine stepsS_cons (j := 5) rfl ?_ ?_
        · intro L ρ own u hS K hK
          simp only [mkA_cons, mkA_nil, List.setIfInBounds_toArray, List.set_cons_zero, List.set_cons_succ]
          go_wp2_with fail
          exact hS.box rfl rfl (by kernel_rfl) rfl (by simp only [mkA_cons, mkA_nil, List.setIfInBounds_toArray, List.set_cons_zero, List.set_cons_succ, *] )
        refine stepsS_cons (j := 6) rfl ?_ ?_
        · intro L ρ own u hS K hK
          simp only [mkA_cons, mkA_nil, List.setIfInBounds_toArray, List.set_cons_zero, List.set_cons_succ]
          go_wp2_with fail
          exact hS.box rfl rfl (by kernel_rfl) rfl (by simp only [mkA_cons, mkA_nil, List.setIfInBounds_toArray, List.set_cons_zero, List.set_cons_succ, *] )
        refine stepsS_cons (j := 7) rfl ?_ ?_
        · intro L ρ own u hS K hK
          exact hS.put (kb := 4) (kr := 1) rfl rfl (by kernel_rfl) (by decide) (fun _ => rfl) rfl rfl (by kernel_rfl) rfl rfl rfl (by kernel_rfl) rfl (by kernel_rfl) rfl (by simp only [mkA_cons, mkA_nil, List.setIfInBounds_toArray, List.set_cons_zero, List.set_cons_succ]; rfl) (by simp only [mkA_cons, mkA_nil, List.setIfInBounds_toArray, List.set_cons_zero, List.set_cons_succ]; rfl) (by kernel_rfl) (fun _ _ _ => by kernel_rfl) hK
        refine stepsS_cons (j := 8) rfl ?_ ?_
        · intro L ρ own u hS K hK
          exact hS.put (kb := 5) (kr := 3) rfl rfl (by kernel_rfl) (by decide) (fun _ => rfl) rfl rfl (by kernel_rfl) rfl rfl rfl (by kernel_rfl) rfl (by kernel_rfl) rfl (by simp only [mkA_cons, mkA_nil, List.setIfInBounds_toArray, List.set_cons_zero, List.set_cons_succ]; rfl) (by simp only [mkA_cons, mkA_nil, List.setIfInBounds_toArray, List.set_cons_zero, List.set_cons_succ]; rfl) (by kernel_rfl) (fun _ _ _ => by kernel_rfl) hK
        exact stepsS_nil
      have r6 := hF 6 _ _ rfl rfl
      have r7 := hF 7 _ _ rfl rfl
      simp only [mkA_cons, mkA_nil, List.setIfInBounds_toArray, List.set_cons_zero, List.set_cons_succ]
      obtain ⟨p, g, c, ep, h9, o9, l9, hp, og, lg, F0⟩ := r6
      obtain ⟨q, h, d, eq, h10, o10, l10, hq, oh, lh, H0⟩ := r7
      have npg := ne_own o9 og (by decide)
      have nph := ne_own o9 oh (by decide)
      have nqg := ne_own o10 og (by decide)
      have nqh := ne_own o10 oh (by decide)
      have ngh := ne_own og oh (by decide)
      have nhg := ngh.symm
      have npq := ne_own o9 o10 (by decide)
      have hGW : ∀ k ∈ [g, h], W.heap.size ≤ k := by intro k hk; simp at hk; omega
      have c1 := But.boxW gV s1 b1 hGW
      have cp := But.box (G := [g, h]) hp (by simp; omega)
      have cq := But.box (G := [g, h]) hq (by simp; omega)
      have hDu := But.fs gV hDW hGW
      have hOu := But.is gV (HO.out.grew g0) hGW
      have B0 := But.refl V [g, h]
      simp only [h9, h10]
      have ltp := some_lt hp
      have ltq := some_lt hq
      clear hF hp hq hgr
      have hOg : ∀ b, W.heap.size ≤ b → ∀ a l c, 0 < zs.length → Value.slice aO zs.length capO = .slice (some a) l c → a.block < b := by
        intro b hb a l c hpos e
        obtain ⟨blk, o, h1, h2, _⟩ := (HO.out.grew g0).at.2 hpos
        cases e; cases h1; simp only; omega
      go_wp2_with fail
      cases hgd : x.good
      · have e1 : rowsE x i k = 1 := by unfold rowsE rowsOk; simp [hgd]
        have e2 : rowsL x i k = x.ws := by unfold rowsL rowsOk; simp [hgd]
        have e3 : mtakeE x zs = 1 := by unfold mtakeE; simp [hgd]
        have e4 : mtakeL x zs = x.ws := by unfold mtakeL; simp [e3]
        refine wp_region_R (But V [g, h]) [] [(0,0), (0,1), (0,2), (0,4), (0,5), (1,3), (1,6), (0,7), (0,8)] (by kernel_rfl) (by kernel_rfl) (fun _ _ _ _ h _ => h) (B0.grew ((Grew.refl _).drew)) ?_
        refine name_any (fun V1 hV1 => ?_)
        have B1 : But V [g, h] V1 := by rw [← hV1]; exact B0.grew ((Grew.refl _).drew)
        have F1 : FW V1 g x.ws := by rw [← hV1]; exact F0.grew ((Grew.refl _).drew)
        have H1 : FW V1 h x.ws := by rw [← hV1]; exact H0.grew ((Grew.refl _).drew)
        clear hV1
        go_wp2_with (first | ((with_reducible refine wpR_id ?_); first | (refine wpR_take (v := ?_) rfl rfl ?_ ?_; rotate_left; (focus (intro w' hw'; go_simp; try with_reducible rfl)); simp only [Act.put, List.setIfInBounds_toArray, List.set_cons_zero, List.set_cons_succ]) | (refine wpR_pure (v := ?_) rfl rfl ?_ ?_; rotate_left; (focus (intro w'; go_simp; try with_reducible rfl)); simp only [Act.put, List.setIfInBounds_toArray, List.set_cons_zero, List.set_cons_succ]) | (refine wpR_takeG (v := ?_) rfl rfl rfl rfl rfl ?_ ?_; rotate_left; (focus (intro w' hw'; go_simp; try with_reducible rfl)); simp only [Act.put, List.setIfInBounds_toArray, List.set_cons_zero, List.set_cons_succ]) | (refine wpR_skip rfl rfl rfl rfl rfl rfl ?_; simp only [Act.put, List.setIfInBounds_toArray, List.set_cons_zero, List.set_cons_succ]) | (refine wpR_skipU rfl rfl rfl rfl rfl ?_; simp only [Act.put, List.setIfInBounds_toArray, List.set_cons_zero, List.set_cons_succ]) | (refine wpR_do rfl rfl (fun K hK => ?_)) | (refine wpR_doG rfl rfl rfl rfl rfl (fun K hK => ?_)) | (refine wpR_last rfl rfl (fun K hK => ?_)) | (refine wpR_nil ?_)) | ((with_reducible refine wpR_go ?_ ?_); (focus (with_reducible assumption))) | ((with_reducible refine upon_id ?_); refine upon_fop rfl (by assumption) (by assumption) ?_; intro rr nn hr) | (go_at_call 44; ((with_reducible refine (rows_any x g c i k V1 F1 Hw.out (by omega) hi hk).mono ?_); rintro e w1 ⟨rfl, hw1⟩; (rw [e2] at hw1; have B2 := B1.wrote hw1 (.inl (by simp)); have F2 := hw1.fw F1; have H2 := hw1.fw_ne H1 nhg; have hO2 := hOu _ B2))) | (go_at_call 45; ((with_reducible refine (take_any x h d _ zs _ H2 hO2 (hOg h lh) Hw.out (by omega)).mono ?_); rintro e w1 ⟨rfl, hw2⟩; (rw [e4] at hw2; have B3 := B2.wrote hw2 (.inl (by simp)); have F3 := hw2.fw_ne F2 ngh; have H3 := hw2.fw H2))))
        go_wp2_with (first | (go_at_call 46; ((with_reducible refine (rgood_any x D _ ?_ Hw.out).mono ?_); (focus (first | assumption | (refine FS.ext ?_ _ _; assumption) | (refine IS.ext ?_ _ _; assumption) | (refine hDu _ ?_; assumption) | (refine hOu _ ?_; assumption) | (refine FW.fs ?_ (by omega) _; assumption) | (refine WS.fs ?_; assumption) | omega)); rintro e w1 ⟨rfl, hw1⟩; (have B : But V [g, h] w1 := But.grew (by assumption) hw1; have F : FW w1 g x.ws := FW.grew (by assumption) hw1; have H : FW w1 h x.ws := FW.grew (by assumption) hw1))) | (go_at_call 47; ((with_reducible refine (all_any (.slice (some ⟨g, 0, none⟩) x.ws.length c) D x.ws x.ws _ ?_ ?_).mono ?_); (focus (first | assumption | (refine FS.ext ?_ _ _; assumption) | (refine IS.ext ?_ _ _; assumption) | (refine hDu _ ?_; assumption) | (refine hOu _ ?_; assumption) | (refine FW.fs ?_ (by omega) _; assumption) | (refine WS.fs ?_; assumption) | omega)); (focus (first | assumption | (refine FS.ext ?_ _ _; assumption) | (refine IS.ext ?_ _ _; assumption) | (refine hDu _ ?_; assumption) | (refine hOu _ ?_; assumption) | (refine FW.fs ?_ (by omega) _; assumption) | (refine WS.fs ?_; assumption) | omega)); rintro e w1 ⟨rfl, hw1⟩; (have B : But V [g, h] w1 := But.grew (by assumption) hw1; have F : FW w1 g x.ws := FW.grew (by assumption) hw1; have H : FW w1 h x.ws := FW.grew (by assumption) hw1))) | (go_at_call 47; ((with_reducible refine (all_any (.slice (some ⟨h, 0, none⟩) x.ws.length d) D x.ws x.ws _ ?_ ?_).mono ?_); (focus (first | assumption | (refine FS.ext ?_ _ _; assumption) | (refine IS.ext ?_ _ _; assumption) | (refine hDu _ ?_; assumption) | (refine hOu _ ?_; assumption) | (refine FW.fs ?_ (by omega) _; assumption) | (refine WS.fs ?_; assumption) | omega)); (focus (first | assumption | (refine FS.ext ?_ _ _; assumption) | (refine IS.ext ?_ _ _; assumption) | (refine hDu _ ?_; assumption) | (refine hOu _ ?_; assumption) | (refine FW.fs ?_ (by omega) _; assumption) | (refine WS.fs ?_; assumption) | omega)); rintro e w1 ⟨rfl, hw1⟩; (have B : But V [g, h] w1 := But.grew (by assumption) hw1; have F : FW w1 g x.ws := FW.grew (by assumption) hw1; have H : FW w1 h x.ws := FW.grew (by assumption) hw1))) | (go_at_call 41; ((with_reducible refine (awake04 _).mono ?_); rintro e w1 ⟨rfl, hw1⟩; (have B : But V [g, h] w1 := But.grew (by assumption) hw1; have F : FW w1 g x.ws := FW.grew (by assumption) hw1; have H : FW w1 h x.ws := FW.grew (by assumption) hw1))))
        go_ret
        exact ⟨rfl, g0.trans (B.grew0 gV hGW)⟩
      · have hn := x.good_n hgd
        have hsz : x.rows ≤ 20 ∧ x.cols ≤ 20 := by have := Hg.out; simp [MatM.great] at this; omega
        have tk := take_into hgd zs
        have e3 := hid tk.1
        have e4 := tk.2
        obtain ⟨L4, hL4⟩ : ∃ L, Hid (L = mtakeL x zs) := ⟨_, hid rfl⟩
        obtain ⟨L2, hL2⟩ : ∃ L, Hid (L = rowsL x i k) := ⟨_, hid rfl⟩
        have n4 : L4.length = x.ws.length := by rw [hL4.out]; unfold mtakeL; split <;> simp
        have n2 : L2.length = x.ws.length := by rw [hL2.out]; simp
        rw [← hL4.out] at e4
        replace e4 := hid e4
        clear tk
        obtain ⟨E, hE⟩ : ∃ E, Hid (E = rowsE x i k) := ⟨_, hid rfl⟩
        have hrowsC : ∀ V1, FW V1 g x.ws → Calls Try.prog 44 #[.agg #[.slice (some ⟨g, 0, none⟩) x.ws.length c, .int .i64 x.off, .int .i64 x.rows, .int .i64 x.cols, .int .i64 x.ld], .int .i64 i, .int .i64 k] V1
           (fun e w' => e = .returned (.int .i64 E) ∧ Wrote V1 w' g L2) := fun V1 hF => by
          rw [hE.out, hL2.out]; exact rows_any x g c i k V1 hF Hw.out (by omega) hi hk
        have htakeC : ∀ V1, FW V1 h x.ws → IS .i64 V1 (.slice aO zs.length capO) zs → Calls Try.prog 45 #[.agg #[.slice (some ⟨h, 0, none⟩) x.ws.length d, .int .i64 x.off, .int .i64 x.rows, .int .i64 x.cols, .int .i64 x.ld], .slice aO zs.length capO] V1
           (fun e w' => e = .returned (.int .i64 (takeE x.rows zs)) ∧ Wrote V1 w' h L4) := fun V1 hF hO => by
          rw [← e3.out, hL4.out]; exact take_any x h d _ zs V1 hF hO (hOg h lh) Hw.out (by omega)
        refine wp_region_R (But V [g, h]) [] [(0,0), (0,1), (0,2), (0,4), (0,5), (1,3), (1,6), (0,7), (0,8)] (by kernel_rfl) (by kernel_rfl) (fun _ _ _ _ h _ => h) (B0.grew ((Grew.refl _).drew)) ?_
        refine name_any (fun V1 hV1 => ?_)
        have B1 : But V [g, h] V1 := by rw [← hV1]; exact B0.grew ((Grew.refl _).drew)
        have F1 : FW V1 g x.ws := by rw [← hV1]; exact F0.grew ((Grew.refl _).drew)
        have H1 : FW V1 h x.ws := by rw [← hV1]; exact H0.grew ((Grew.refl _).drew)
        clear hV1
        go_wp2_with (first | ((with_reducible refine wpR_id ?_); first | (refine wpR_take (v := ?_) rfl rfl ?_ ?_; rotate_left; (focus (intro w' hw'; go_simp; try with_reducible rfl)); simp only [Act.put, List.setIfInBounds_toArray, List.set_cons_zero, List.set_cons_succ]) | (refine wpR_pure (v := ?_) rfl rfl ?_ ?_; rotate_left; (focus (intro w'; go_simp; try with_reducible rfl)); simp only [Act.put, List.setIfInBounds_toArray, List.set_cons_zero, List.set_cons_succ]) | (refine wpR_takeG (v := ?_) rfl rfl rfl rfl rfl ?_ ?_; rotate_left; (focus (intro w' hw'; go_simp; try with_reducible rfl)); simp only [Act.put, List.setIfInBounds_toArray, List.set_cons_zero, List.set_cons_succ]) | (refine wpR_skip rfl rfl rfl rfl rfl rfl ?_; simp only [Act.put, List.setIfInBounds_toArray, List.set_cons_zero, List.set_cons_succ]) | (refine wpR_skipU rfl rfl rfl rfl rfl ?_; simp only [Act.put, List.setIfInBounds_toArray, List.set_cons_zero, List.set_cons_succ]) | (refine wpR_do rfl rfl (fun K hK => ?_)) | (refine wpR_doG rfl rfl rfl rfl rfl (fun K hK => ?_)) | (refine wpR_last rfl rfl (fun K hK => ?_)) | (refine wpR_nil ?_)) | ((with_reducible refine wpR_go ?_ ?_); (focus (with_reducible assumption))) | ((with_reducible refine upon_id ?_); refine upon_fop rfl (by assumption) (by assumption) ?_; intro rr nn hr) | (go_at_call 44; ((with_reducible refine (hrowsC V1 F1).mono ?_); rintro e w1 ⟨rfl, hw1⟩; (have B2 := B1.wrote hw1 (.inl (by simp)); have F2 := hw1.fw F1; have H2 := hw1.fw_ne H1 nhg; have hO2 := hOu _ B2))) | (go_at_call 45; ((with_reducible refine (htakeC _ H2 hO2).mono ?_); rintro e w1 ⟨rfl, hw2⟩; (have B3 := B2.wrote hw2 (.inl (by simp)); have F3 := hw2.fw_ne F2 ngh; have H3 := hw2.fw H2))))
        go_wp2_with (first | (go_at_call 46; ((with_reducible refine (rgood_any x D _ ?_ Hw.out).mono ?_); (focus (first | assumption | (refine FS.ext ?_ _ _; assumption) | (refine IS.ext ?_ _ _; assumption) | (refine hDu _ ?_; assumption) | (refine hOu _ ?_; assumption) | (refine FW.fs ?_ (by omega) _; assumption) | (refine WS.fs ?_; assumption) | omega)); rintro e w1 ⟨rfl, hw1⟩; (have B : But V [g, h] w1 := But.grew (by assumption) hw1; have F : FW w1 g L2 := FW.grew (by assumption) hw1; have H : FW w1 h L4 := FW.grew (by assumption) hw1))))
        refine name_any (fun V2 hV2 => ?_)
        subst hV2
        have hD2 := hDu _ B
        have t1 := c1 _ B
        have gW1 := B.grew0 gV hGW
        have sz1 : w.heap.size < w1.heap.size := Nat.lt_of_lt_of_le s1 gW1.below.size
        obtain ⟨ts, hts⟩ : ∃ ts, Hid (ts = x.tab) := ⟨_, hid rfl⟩
        have nts := hid (show ts.length = x.rows.toNat * x.cols.toNat by rw [hts.out]; simp)
        have hof : ∀ w', FS w' D x.ws → Calls Try.prog 48 #[.agg #[D, .int .i64 x.off, .int .i64 x.rows, .int .i64 x.cols, .int .i64 x.ld]] w' (fun e w2 => ∃ v, e = .returned (.agg #[.int .i64 x.rows, .int .i64 x.cols, v]) ∧ WS w2 w'.heap.size v ts ∧ ∃ o n, w2 = ext w' o n) := fun w' h => by
          rw [hts.out]; exact rof_any x D w' h hgd (by omega) (by omega) (by omega) Hw.out
        clear F1 H1 B1 F2 H2 B2 hO2 F3 H3 B3 hw2 hrowsC htakeC
        refine wp_region_JJ w1 [.is (.agg #[D, .int .i64 x.off, .int .i64 x.rows, .int .i64 x.cols, .int .i64 x.ld]), .row (fun s => .agg #[.int .i64 x.rows, .int .i64 x.cols, s]) (ts), .is (.agg #[D, .int .i64 x.off, .int .i64 x.rows, .int .i64 x.cols, .int .i64 x.ld]), .row (fun s => .agg #[.int .i64 x.rows, .int .i64 x.cols, s]) (ts), .box 3, .box 3, .put 13 65 (fun s => #[.int .i64 x.rows, .int .i64 x.cols, s]) (ts), .put 14 67 (fun s => #[.int .i64 x.rows, .int .i64 x.cols, s]) (ts)] [64, 65, 66, 67, 13, 14] (by kernel_rfl) (by kernel_rfl) (by (show Grew _ _; repeat (first | (with_reducible exact Grew.refl _) | (with_reducible assumption) | (with_reducible refine Grew.ext ?_ _ _) | (with_reducible refine Grew.alloc ?_ _) | ((with_reducible refine Grew.setCell ?_ ?_ _); rotate_left; (focus (dsimp only; omega))) | (with_reducible refine Grew.drewN ?_ _) | (with_reducible refine Grew.drew ?_)))) ?_ (fun ρ own V gV hF => ?_)
        · refine stepsS_cons (j := 1) rfl ?_ ?_
          · intro L ρ own u hS K hK
            obtain ⟨o', n', hu⟩ := hS.grew
            subst hu
            simp only [mkA_cons, mkA_nil, List.setIfInBounds_toArray, List.set_cons_zero, List.set_cons_succ]
            go_wp2_with fail
            exact hS.is rfl rfl (by kernel_rfl) (by (show Grew _ _; repeat (first | (with_reducible exact Grew.refl _) | (with_reducible assumption) | (with_reducible refine Grew.ext ?_ _ _) | (with_reducible refine Grew.alloc ?_ _) | ((with_reducible refine Grew.setCell ?_ ?_ _); rotate_left; (focus (dsimp only; omega))) | (with_reducible refine Grew.drewN ?_ _) | (with_reducible refine Grew.drew ?_)))) (by simp only [mkA_cons, mkA_nil, List.setIfInBounds_toArray, List.set_cons_zero, List.set_cons_succ, *] )
          refine stepsS_cons (j := 2) rfl ?_ ?_
          · intro L ρ own u hS K hK
            have e0 := hS.fact 0 rfl rfl (by kernel_rfl)
            change ρ 64 = _ at e0
            obtain ⟨o', n', hu⟩ := hS.grew
            subst hu
            simp only [mkA_cons, mkA_nil, List.setIfInBounds_toArray, List.set_cons_zero, List.set_cons_succ]
            go_wp2_with (first | (go_at_call 48; ((with_reducible refine (hof _ ?_).mono ?_); (focus (first | assumption | (refine FS.ext ?_ _ _; assumption) | (refine IS.ext ?_ _ _; assumption) | (refine hDu _ ?_; assumption) | (refine hOu _ ?_; assumption) | (refine FW.fs ?_ (by omega) _; assumption) | (refine WS.fs ?_; assumption) | omega)); rintro e w1 ⟨v1, rfl, ⟨g1, cap1, rfl, hg1, hF1, hgl1⟩, hw1⟩)))
            exact hS.row (cap := cap1) rfl rfl (by kernel_rfl) hw1 hg1 hF1 (by simp only [mkA_cons, mkA_nil, List.setIfInBounds_toArray, List.set_cons_zero, List.set_cons_succ, *] )
          refine stepsS_cons (j := 3) rfl ?_ ?_
          · intro L ρ own u hS K hK
            obtain ⟨o', n', hu⟩ := hS.grew
            subst hu
            simp only [mkA_cons, mkA_nil, List.setIfInBounds_toArray, List.set_cons_zero, List.set_cons_succ]
            go_wp2_with fail
            exact hS.is rfl rfl (by kernel_rfl) (by (show Grew _ _; repeat (first | (with_reducible exact Grew.refl _) | (with_reducible assumption) | (with_reducible refine Grew.ext ?_ _ _) | (with_reducible refine Grew.alloc ?_ _) | ((with_reducible refine Grew.setCell ?_ ?_ _); rotate_left; (focus (dsimp only; omega))) | (with_reducible refine Grew.drewN ?_ _) | (with_reducible refine Grew.drew ?_)))) (by simp only [mkA_cons, mkA_nil, List.setIfInBounds_toArray, List.set_cons_zero, List.set_cons_succ, *] )
          refine stepsS_cons (j := 4) rfl ?_ ?_
          · intro L ρ own u hS K hK
            have e2 := hS.fact 2 rfl rfl (by kernel_rfl)
            change ρ 66 = _ at e2
            obtain ⟨o', n', hu⟩ := hS.grew
            subst hu
            simp only [mkA_cons, mkA_nil, List.setIfInBounds_toArray, List.set_cons_zero, List.set_cons_succ]
            go_wp2_with (first | (go_at_call 48; ((with_reducible refine (hof _ ?_).mono ?_); (focus (first | assumption | (refine FS.ext ?_ _ _; assumption) | (refine IS.ext ?_ _ _; assumption) | (refine hDu _ ?_; assumption) | (refine hOu _ ?_; assumption) | (refine FW.fs ?_ (by omega) _; assumption) | (refine WS.fs ?_; assumption) | omega)); rintro e w1 ⟨v1, rfl, ⟨g1, cap1, rfl, hg1, hF1, hgl1⟩, hw1⟩)))
            exact hS.row (cap := cap1) rfl rfl (by kernel_rfl) hw1 hg1 hF1 (by simp only [mkA_cons, mkA_nil, List.setIfInBounds_toArray, List.set_cons_zero, List.set_cons_succ, *] )
          refine stepsS_cons (j := 5) rfl ?_ ?_
          · intro L ρ own u hS K hK
            simp only [mkA_cons, mkA_nil, List.setIfInBounds_toArray, List.set_cons_zero, List.set_cons_succ]
            go_wp2_with fail
            exact hS.box rfl rfl (by kernel_rfl) rfl (by simp only [mkA_cons, mkA_nil, List.setIfInBounds_toArray, List.set_cons_zero, List.set_cons_succ, *] )
          refine stepsS_cons (j := 6) rfl ?_ ?_
          · intro L ρ own u hS K hK
            simp only [mkA_cons, mkA_nil, List.setIfInBounds_toArray, List.set_cons_zero, List.set_cons_succ]
            go_wp2_with fail
            exact hS.box rfl rfl (by kernel_rfl) rfl (by simp only [mkA_cons, mkA_nil, List.setIfInBounds_toArray, List.set_cons_zero, List.set_cons_succ, *] )
          refine stepsS_cons (j := 7) rfl ?_ ?_
          · intro L ρ own u hS K hK
            exact hS.put (kb := 4) (kr := 1) rfl rfl (by kernel_rfl) (by decide) (fun _ => rfl) rfl rfl (by kernel_rfl) rfl rfl rfl (by kernel_rfl) rfl (by kernel_rfl) rfl (by simp only [mkA_cons, mkA_nil, List.setIfInBounds_toArray, List.set_cons_zero, List.set_cons_succ]; rfl) (by simp only [mkA_cons, mkA_nil, List.setIfInBounds_toArray, List.set_cons_zero, List.set_cons_succ]; rfl) (by kernel_rfl) (fun _ _ _ => by kernel_rfl) hK
          refine stepsS_cons (j := 8) rfl ?_ ?_
          · intro L ρ own u hS K hK
            exact hS.put (kb := 5) (kr := 3) rfl rfl (by kernel_rfl) (by decide) (fun _ => rfl) rfl rfl (by kernel_rfl) rfl rfl rfl (by kernel_rfl) rfl (by kernel_rfl) rfl (by simp only [mkA_cons, mkA_nil, List.setIfInBounds_toArray, List.set_cons_zero, List.set_cons_succ]; rfl) (by simp only [mkA_cons, mkA_nil, List.setIfInBounds_toArray, List.set_cons_zero, List.set_cons_succ]; rfl) (by kernel_rfl) (fun _ _ _ => by kernel_rfl) hK
          exact stepsS_nil
        have r6 := hF 6 _ _ rfl rfl
        have r7 := hF 7 _ _ rfl rfl
        simp only [mkA_cons, mkA_nil, List.setIfInBounds_toArray, List.set_cons_zero, List.set_cons_succ]
        obtain ⟨p2, g2, k2, ep2, h13, o13, l13, hp2, og2, lg2, A0⟩ := r6
        obtain ⟨q2, h2, k3, eq2, h14, o14, l14, hq2, oh2, lh2, C0⟩ := r7
        have npg2 := ne_own o13 og2 (by decide)
        have nph2 := ne_own o13 oh2 (by decide)
        have nqg2 := ne_own o14 og2 (by decide)
        have nqh2 := ne_own o14 oh2 (by decide)
        have ngh2 := ne_own og2 oh2 (by decide)
        have nhg2 := ngh2.symm
        have szW := gW1.below.size
        have szB := B.size
        have gWV := gW1.trans gV
        have hG2 : ∀ k ∈ [g2, h2], W.heap.size ≤ k := by intro k hk; simp at hk; omega
        have hG1 : ∀ k ∈ [g2, h2], w1.heap.size ≤ k := by intro k hk; simp at hk; omega
        have d1 := But.boxW gWV s1 b1 hG2
        have dp := But.boxW gV (by omega) (cp _ B) hG1
        have dq := But.boxW gV (by omega) (cq _ B) hG1
        have dp2 := But.box (G := [g2, h2]) hp2 (by simp; omega)
        have dq2 := But.box (G := [g2, h2]) hq2 (by simp; omega)
        have ltg := F.lt
        have lth := H.lt
        have hFs : ∀ w', But V [g2, h2] w' → FS w' (.slice (some ⟨g, 0, none⟩) x.ws.length c) L2 := fun w' hb => by
          have := (hb.fw (F.grew gV) (by simp; omega)).fs (by omega) c
          rwa [n2] at this
        have hHs : ∀ w', But V [g2, h2] w' → FS w' (.slice (some ⟨h, 0, none⟩) x.ws.length d) L4 := fun w' hb => by
          have := (hb.fw (H.grew gV) (by simp; omega)).fs (by omega) d
          rwa [n4] at this
        have eDu := But.fs gWV hDW hG2
        have eOu := But.is gWV (HO.out.grew g0) hG2
        have B0' := But.refl V [g2, h2]
        simp only [h13, h14]
        clear hF hp2 hq2 hDu hOu c1 cp cq B F H t1 hD2 hof
        have hDu := eDu
        have hOu := eOu
        have B := B0'
        clear eDu eOu B0' B0 F0 H0
        have hU : (rtakeL x.rows.toNat x.cols.toNat ts zs).length = ts.length := by unfold rtakeL; split <;> simp
        obtain ⟨U, hU2⟩ : ∃ U, Hid (U = rtakeL x.rows.toNat x.cols.toNat ts zs) := ⟨_, hid rfl⟩
        have nU : U.length = ts.length := by rw [hU2.out]; exact hU
        have htk : ∀ w', FW w' h2 ts → IS .i64 w' (.slice aO zs.length capO) zs → Calls Try.prog 50 #[.agg #[.int .i64 x.rows, .int .i64 x.cols, .slice (some ⟨h2, 0, none⟩) ts.length k3], .slice aO zs.length capO] w'
            (fun e w2 => e = .returned (.int .i64 (takeE x.rows zs)) ∧ Wrote w' w2 h2 U) := fun w' hF hO => by
          rw [hU2.out]; exact rtake_i x h2 k3 ts _ zs w' hF hO (hOg h2 (by omega)) nts.out hgd (by omega) (by omega)
        have hL4' : L4 = x.into x.rows.toNat x.cols.toNat U := by rw [e4.out, hU2.out, hts.out]
        clear hU
        by_cases hok : rowsOk x i k = true
        · have hr : 0 ≤ i ∧ 0 ≤ k ∧ i < x.rows ∧ k < x.rows := by
            unfold rowsOk at hok; simp only [Bool.and_eq_true, decide_eq_true_eq] at hok; omega
          obtain rfl : E = 0 := by rw [hE.out]; unfold rowsE; rw [if_pos hok]
          obtain ⟨i', rfl⟩ := Int.eq_ofNat_of_zero_le hr.1
          obtain ⟨k', rfl⟩ := Int.eq_ofNat_of_zero_le hr.2.1
          obtain ⟨T, hT⟩ : ∃ T, Hid (T = rrowsL x.cols.toNat ts i' k') := ⟨_, hid rfl⟩
          have nT : T.length = ts.length := by rw [hT.out]; simp
          have hL2' : L2 = x.into x.rows.toNat x.cols.toNat T := by rw [hL2.out, hT.out, hts.out]; exact rows_into hgd hr.2.2.1 hr.2.2.2
          have hrw : ∀ w', FW w' g2 ts → Calls Try.prog 49 #[.agg #[.int .i64 x.rows, .int .i64 x.cols, .slice (some ⟨g2, 0, none⟩) ts.length k2], .int .i64 i', .int .i64 k'] w'
              (fun e w2 => e = .returned (.tuple #[]) ∧ Wrote w' w2 g2 T) := fun w' hF => by
            rw [hT.out]; exact rrows_i x i' k' g2 k2 ts w' hF nts.out hgd (by omega) (by omega) hr.2.2.1 hr.2.2.2
          have f1 := hr.1
          have f2 := hr.2.1
          have f3 := hr.2.2.1
          have f4 := hr.2.2.2
          clear hok hr
          go_wp2_with (first | (go_at_call 49; ((with_reducible refine (hrw _ A0).mono ?_); rintro e w1 ⟨rfl, hw1⟩; (have B1 := B.wrote hw1 (.inl (by simp)); have A1 := hw1.fw A0; have C1 := hw1.fw_ne C0 nhg2; have hO2 := hOu _ B1))) | (go_at_call 50; ((with_reducible refine (htk _ C1 hO2).mono ?_); rintro e w1 ⟨rfl, hw2⟩; (have B2 := B1.wrote hw2 (.inl (by simp)); have A2 := hw2.fw_ne A1 ngh2; have C2 := hw2.fw C1))))
          refine wp_region_R (But V [g2, h2]) [] [(0,0), (0,1), (0,2), (0,3), (0,4), (0,5), (0,6), (0,7), (0,8), (0,9), (0,10), (0,11), (0,12), (1,13), (1,14), (0,15), (0,16), (0,17), (0,18), (0,19), (0,20), (1,21), (1,22), (0,23), (0,24), (1,25), (0,26), (0,27)] (by kernel_rfl) (by kernel_rfl) (fun _ _ _ _ h _ => h) (B2.grew ((Grew.refl _).drew)) ?_
          refine name_any (fun V5 hV5 => ?_)
          have B : But V [g2, h2] V5 := by rw [← hV5]; exact B2.grew ((Grew.refl _).drew)
          have A : FW V5 g2 T := by rw [← hV5]; exact A2.grew ((Grew.refl _).drew)
          have C : FW V5 h2 U := by rw [← hV5]; exact C2.grew ((Grew.refl _).drew)
          clear hV5 B1 A1 C1 hO2 B2 A2 C2 hw1 hw2 A0 C0 hrw htk
          have hTs : ∀ w', FW w' g2 T → FS w' (.slice (some ⟨g2, 0, none⟩) ts.length k2) T := fun w' hF => by
            have := hF.fs (by rw [nT, nts.out]; have := hw20 x.rows x.cols hsz.1 hsz.2; omega) k2
            rwa [nT] at this
          have hUs : ∀ w', FW w' h2 U → FS w' (.slice (some ⟨h2, 0, none⟩) ts.length k3) U := fun w' hF => by
            have := hF.fs (by rw [nU, nts.out]; have := hw20 x.rows x.cols hsz.1 hsz.2; omega) k3
            rwa [nU] at this
          have nT' := nT.trans nts.out
          have nU' := nU.trans nts.out
          go_wp2_with (first | ((with_reducible refine wpR_id ?_); first | (refine wpR_take (v := ?_) rfl rfl ?_ ?_; rotate_left; (focus (intro w' hw'; go_simp; try with_reducible rfl)); simp only [Act.put, List.setIfInBounds_toArray, List.set_cons_zero, List.set_cons_succ]) | (refine wpR_pure (v := ?_) rfl rfl ?_ ?_; rotate_left; (focus (intro w'; go_simp; try with_reducible rfl)); simp only [Act.put, List.setIfInBounds_toArray, List.set_cons_zero, List.set_cons_succ]) | (refine wpR_takeG (v := ?_) rfl rfl rfl rfl rfl ?_ ?_; rotate_left; (focus (intro w' hw'; go_simp; try with_reducible rfl)); simp only [Act.put, List.setIfInBounds_toArray, List.set_cons_zero, List.set_cons_succ]) | (refine wpR_skip rfl rfl rfl rfl rfl rfl ?_; simp only [Act.put, List.setIfInBounds_toArray, List.set_cons_zero, List.set_cons_succ]) | (refine wpR_skipU rfl rfl rfl rfl rfl ?_; simp only [Act.put, List.setIfInBounds_toArray, List.set_cons_zero, List.set_cons_succ]) | (refine wpR_do rfl rfl (fun K hK => ?_)) | (refine wpR_doG rfl rfl rfl rfl rfl (fun K hK => ?_)) | (refine wpR_last rfl rfl (fun K hK => ?_)) | (refine wpR_nil ?_)) | ((with_reducible refine wpR_go ?_ ?_); (focus (with_reducible assumption))) | ((with_reducible refine upon_id ?_); refine upon_fop rfl (by assumption) (by assumption) ?_; intro rr nn hr) | (go_at_call 51; ((with_reducible refine (rinto_i x D (.slice (some ⟨g2, 0, none⟩) ts.length k2) T _ ?_ (hTs _ (by assumption)) hgd (by omega) (by omega) (by omega) nT').mono ?_); (focus (first | assumption | (refine FS.ext ?_ _ _; assumption) | (refine IS.ext ?_ _ _; assumption) | (refine hDu _ ?_; assumption) | (refine hOu _ ?_; assumption) | (refine FW.fs ?_ (by omega) _; assumption) | (refine WS.fs ?_; assumption) | omega)); rintro e w1 ⟨v1, rfl, hv1, hw1⟩; (have B : But V [g2, h2] w1 := But.grew (by assumption) hw1; have A : FW w1 g2 T := FW.grew (by assumption) hw1; have C : FW w1 h2 U := FW.grew (by assumption) hw1))) | (go_at_call 51; ((with_reducible refine (rinto_i x D (.slice (some ⟨h2, 0, none⟩) ts.length k3) U _ ?_ (hUs _ (by assumption)) hgd (by omega) (by omega) (by omega) nU').mono ?_); (focus (first | assumption | (refine FS.ext ?_ _ _; assumption) | (refine IS.ext ?_ _ _; assumption) | (refine hDu _ ?_; assumption) | (refine hOu _ ?_; assumption) | (refine FW.fs ?_ (by omega) _; assumption) | (refine WS.fs ?_; assumption) | omega)); rintro e w1 ⟨v1, rfl, hv1, hw1⟩; (have B : But V [g2, h2] w1 := But.grew (by assumption) hw1; have A : FW w1 g2 T := FW.grew (by assumption) hw1; have C : FW w1 h2 U := FW.grew (by assumption) hw1))) | (go_at_call 47; ((with_reducible refine (all_any (.slice (some ⟨g, 0, none⟩) x.ws.length c) v1 L2 (x.into x.rows.toNat x.cols.toNat T) _ (hFs _ (by assumption)) hv1.fs).mono ?_); rintro e w1 ⟨rfl, hw1⟩; (have B : But V [g2, h2] w1 := But.grew (by assumption) hw1; have A : FW w1 g2 T := FW.grew (by assumption) hw1; have C : FW w1 h2 U := FW.grew (by assumption) hw1))) | (go_at_call 47; ((with_reducible refine (all_any (.slice (some ⟨h, 0, none⟩) x.ws.length d) v1 L4 (x.into x.rows.toNat x.cols.toNat U) _ (hHs _ (by assumption)) hv1.fs).mono ?_); rintro e w1 ⟨rfl, hw1⟩; (have B : But V [g2, h2] w1 := But.grew (by assumption) hw1; have A : FW w1 g2 T := FW.grew (by assumption) hw1; have C : FW w1 h2 U := FW.grew (by assumption) hw1))) | (go_at_call 41; ((with_reducible refine (awake04 _).mono ?_); rintro e w1 ⟨rfl, hw1⟩; (have B : But V [g2, h2] w1 := But.grew (by assumption) hw1; have A : FW w1 g2 T := FW.grew (by assumption) hw1; have C : FW w1 h2 U := FW.grew (by assumption) hw1))))
          go_ret
          exact ⟨rfl, g0.trans (B.grew0 gWV hG2)⟩
        · obtain rfl : E = 1 := by rw [hE.out]; unfold rowsE; rw [if_neg hok]
          obtain ⟨T, hT⟩ : ∃ T, Hid (T = ts) := ⟨_, hid rfl⟩
          have nT : T.length = ts.length := by rw [hT.out]
          have hL2' : L2 = x.into x.rows.toNat x.cols.toNat T := by rw [hL2.out, hT.out, hts.out]; unfold rowsL; rw [if_neg (fun h => hok h.1)]; exact same_into hgd
          have A0 : FW V g2 T := by rw [hT.out]; exact A0
          have hcase : (¬ 0 ≤ i) ∨ (0 ≤ i ∧ ¬ 0 ≤ k) ∨ (0 ≤ i ∧ 0 ≤ k ∧ ¬ i < x.rows) ∨ (0 ≤ i ∧ 0 ≤ k ∧ i < x.rows ∧ ¬ k < x.rows) := by
            unfold rowsOk at hok; simp only [hgd, Bool.true_and, Bool.and_eq_true, decide_eq_true_eq] at hok; omega
          have hO2 := hOu _ B
          clear hok
          rcases hcase with f1 | ⟨f1, f2⟩ | ⟨f1, f2, f3⟩ | ⟨f1, f2, f3, f4⟩
          · have d1 : decide (0 ≤ i) = false := by simp only [f1, decide_false]
            go_wp2_with (first | (go_at_call 50; ((with_reducible refine (htk _ C0 hO2).mono ?_); rintro e w1 ⟨rfl, hw2⟩; (have B2 := B.wrote hw2 (.inl (by simp)); have A2 := hw2.fw_ne A0 ngh2; have C2 := hw2.fw C0))))
            refine wp_region_R (But V [g2, h2]) [] [(0,0), (0,1), (0,2), (0,3), (0,4), (0,5), (0,6), (0,7), (0,8), (0,9), (0,10), (0,11), (0,12), (1,13), (1,14), (0,15), (0,16), (0,17), (0,18), (0,19), (0,20), (1,21), (1,22), (0,23), (0,24), (1,25), (0,26), (0,27)] (by kernel_rfl) (by kernel_rfl) (fun _ _ _ _ h _ => h) (B2.grew ((Grew.refl _).drew)) ?_
            refine name_any (fun V5 hV5 => ?_)
            have B : But V [g2, h2] V5 := by rw [← hV5]; exact B2.grew ((Grew.refl _).drew)
            have A : FW V5 g2 T := by rw [← hV5]; exact A2.grew ((Grew.refl _).drew)
            have C : FW V5 h2 U := by rw [← hV5]; exact C2.grew ((Grew.refl _).drew)
            clear hV5 hO2 B2 A2 C2 hw2 A0 C0 htk
            have hTs : ∀ w', FW w' g2 T → FS w' (.slice (some ⟨g2, 0, none⟩) ts.length k2) T := fun w' hF => by
              have := hF.fs (by rw [nT, nts.out]; have := hw20 x.rows x.cols hsz.1 hsz.2; omega) k2
              rwa [nT] at this
            have hUs : ∀ w', FW w' h2 U → FS w' (.slice (some ⟨h2, 0, none⟩) ts.length k3) U := fun w' hF => by
              have := hF.fs (by rw [nU, nts.out]; have := hw20 x.rows x.cols hsz.1 hsz.2; omega) k3
              rwa [nU] at this
            have nT' := nT.trans nts.out
            have nU' := nU.trans nts.out
            go_wp2_with (first | ((with_reducible refine wpR_id ?_); first | (refine wpR_take (v := ?_) rfl rfl ?_ ?_; rotate_left; (focus (intro w' hw'; go_simp; try with_reducible rfl)); simp only [Act.put, List.setIfInBounds_toArray, List.set_cons_zero, List.set_cons_succ]) | (refine wpR_pure (v := ?_) rfl rfl ?_ ?_; rotate_left; (focus (intro w'; go_simp; try with_reducible rfl)); simp only [Act.put, List.setIfInBounds_toArray, List.set_cons_zero, List.set_cons_succ]) | (refine wpR_takeG (v := ?_) rfl rfl rfl rfl rfl ?_ ?_; rotate_left; (focus (intro w' hw'; go_simp; try with_reducible rfl)); simp only [Act.put, List.setIfInBounds_toArray, List.set_cons_zero, List.set_cons_succ]) | (refine wpR_skip rfl rfl rfl rfl rfl rfl ?_; simp only [Act.put, List.setIfInBounds_toArray, List.set_cons_zero, List.set_cons_succ]) | (refine wpR_skipU rfl rfl rfl rfl rfl ?_; simp only [Act.put, List.setIfInBounds_toArray, List.set_cons_zero, List.set_cons_succ]) | (refine wpR_do rfl rfl (fun K hK => ?_)) | (refine wpR_doG rfl rfl rfl rfl rfl (fun K hK => ?_)) | (refine wpR_last rfl rfl (fun K hK => ?_)) | (refine wpR_nil ?_)) | ((with_reducible refine wpR_go ?_ ?_); (focus (with_reducible assumption))) | ((with_reducible refine upon_id ?_); refine upon_fop rfl (by assumption) (by assumption) ?_; intro rr nn hr) | (go_at_call 51; ((with_reducible refine (rinto_i x D (.slice (some ⟨g2, 0, none⟩) ts.length k2) T _ ?_ (hTs _ (by assumption)) hgd (by omega) (by omega) (by omega) nT').mono ?_); (focus (first | assumption | (refine FS.ext ?_ _ _; assumption) | (refine IS.ext ?_ _ _; assumption) | (refine hDu _ ?_; assumption) | (refine hOu _ ?_; assumption) | (refine FW.fs ?_ (by omega) _; assumption) | (refine WS.fs ?_; assumption) | omega)); rintro e w1 ⟨v1, rfl, hv1, hw1⟩; (have B : But V [g2, h2] w1 := But.grew (by assumption) hw1; have A : FW w1 g2 T := FW.grew (by assumption) hw1; have C : FW w1 h2 U := FW.grew (by assumption) hw1))) | (go_at_call 51; ((with_reducible refine (rinto_i x D (.slice (some ⟨h2, 0, none⟩) ts.length k3) U _ ?_ (hUs _ (by assumption)) hgd (by omega) (by omega) (by omega) nU').mono ?_); (focus (first | assumption | (refine FS.ext ?_ _ _; assumption) | (refine IS.ext ?_ _ _; assumption) | (refine hDu _ ?_; assumption) | (refine hOu _ ?_; assumption) | (refine FW.fs ?_ (by omega) _; assumption) | (refine WS.fs ?_; assumption) | omega)); rintro e w1 ⟨v1, rfl, hv1, hw1⟩; (have B : But V [g2, h2] w1 := But.grew (by assumption) hw1; have A : FW w1 g2 T := FW.grew (by assumption) hw1; have C : FW w1 h2 U := FW.grew (by assumption) hw1))) | (go_at_call 47; ((with_reducible refine (all_any (.slice (some ⟨g, 0, none⟩) x.ws.length c) v1 L2 (x.into x.rows.toNat x.cols.toNat T) _ (hFs _ (by assumption)) hv1.fs).mono ?_); rintro e w1 ⟨rfl, hw1⟩; (have B : But V [g2, h2] w1 := But.grew (by assumption) hw1; have A : FW w1 g2 T := FW.grew (by assumption) hw1; have C : FW w1 h2 U := FW.grew (by assumption) hw1))) | (go_at_call 47; ((with_reducible refine (all_any (.slice (some ⟨h, 0, none⟩) x.ws.length d) v1 L4 (x.into x.rows.toNat x.cols.toNat U) _ (hHs _ (by assumption)) hv1.fs).mono ?_); rintro e w1 ⟨rfl, hw1⟩; (have B : But V [g2, h2] w1 := But.grew (by assumption) hw1; have A : FW w1 g2 T := FW.grew (by assumption) hw1; have C : FW w1 h2 U := FW.grew (by assumption) hw1))) | (go_at_call 41; ((with_reducible refine (awake04 _).mono ?_); rintro e w1 ⟨rfl, hw1⟩; (have B : But V [g2, h2] w1 := But.grew (by assumption) hw1; have A : FW w1 g2 T := FW.grew (by assumption) hw1; have C : FW w1 h2 U := FW.grew (by assumption) hw1))))
            go_ret
            exact ⟨rfl, g0.trans (B.grew0 gWV hG2)⟩
          · have d2 : decide (0 ≤ k) = false := by simp only [f2, decide_false]
            go_wp2_with (first | (go_at_call 50; ((with_reducible refine (htk _ C0 hO2).mono ?_); rintro e w1 ⟨rfl, hw2⟩; (have B2 := B.wrote hw2 (.inl (by simp)); have A2 := hw2.fw_ne A0 ngh2; have C2 := hw2.fw C0))))
            refine wp_region_R (But V [g2, h2]) [] [(0,0), (0,1), (0,2), (0,3), (0,4), (0,5), (0,6), (0,7), (0,8), (0,9), (0,10), (0,11), (0,12), (1,13), (1,14), (0,15), (0,16), (0,17), (0,18), (0,19), (0,20), (1,21), (1,22), (0,23), (0,24), (1,25), (0,26), (0,27)] (by kernel_rfl) (by kernel_rfl) (fun _ _ _ _ h _ => h) (B2.grew ((Grew.refl _).drew)) ?_
            refine name_any (fun V5 hV5 => ?_)
            have B : But V [g2, h2] V5 := by rw [← hV5]; exact B2.grew ((Grew.refl _).drew)
            have A : FW V5 g2 T := by rw [← hV5]; exact A2.grew ((Grew.refl _).drew)
            have C : FW V5 h2 U := by rw [← hV5]; exact C2.grew ((Grew.refl _).drew)
            clear hV5 hO2 B2 A2 C2 hw2 A0 C0 htk
            have hTs : ∀ w', FW w' g2 T → FS w' (.slice (some ⟨g2, 0, none⟩) ts.length k2) T := fun w' hF => by
              have := hF.fs (by rw [nT, nts.out]; have := hw20 x.rows x.cols hsz.1 hsz.2; omega) k2
              rwa [nT] at this
            have hUs : ∀ w', FW w' h2 U → FS w' (.slice (some ⟨h2, 0, none⟩) ts.length k3) U := fun w' hF => by
              have := hF.fs (by rw [nU, nts.out]; have := hw20 x.rows x.cols hsz.1 hsz.2; omega) k3
              rwa [nU] at this
            have nT' := nT.trans nts.out
            have nU' := nU.trans nts.out
            go_wp2_with (first | ((with_reducible refine wpR_id ?_); first | (refine wpR_take (v := ?_) rfl rfl ?_ ?_; rotate_left; (focus (intro w' hw'; go_simp; try with_reducible rfl)); simp only [Act.put, List.setIfInBounds_toArray, List.set_cons_zero, List.set_cons_succ]) | (refine wpR_pure (v := ?_) rfl rfl ?_ ?_; rotate_left; (focus (intro w'; go_simp; try with_reducible rfl)); simp only [Act.put, List.setIfInBounds_toArray, List.set_cons_zero, List.set_cons_succ]) | (refine wpR_takeG (v := ?_) rfl rfl rfl rfl rfl ?_ ?_; rotate_left; (focus (intro w' hw'; go_simp; try with_reducible rfl)); simp only [Act.put, List.setIfInBounds_toArray, List.set_cons_zero, List.set_cons_succ]) | (refine wpR_skip rfl rfl rfl rfl rfl rfl ?_; simp only [Act.put, List.setIfInBounds_toArray, List.set_cons_zero, List.set_cons_succ]) | (refine wpR_skipU rfl rfl rfl rfl rfl ?_; simp only [Act.put, List.setIfInBounds_toArray, List.set_cons_zero, List.set_cons_succ]) | (refine wpR_do rfl rfl (fun K hK => ?_)) | (refine wpR_doG rfl rfl rfl rfl rfl (fun K hK => ?_)) | (refine wpR_last rfl rfl (fun K hK => ?_)) | (refine wpR_nil ?_)) | ((with_reducible refine wpR_go ?_ ?_); (focus (with_reducible assumption))) | ((with_reducible refine upon_id ?_); refine upon_fop rfl (by assumption) (by assumption) ?_; intro rr nn hr) | (go_at_call 51; ((with_reducible refine (rinto_i x D (.slice (some ⟨g2, 0, none⟩) ts.length k2) T _ ?_ (hTs _ (by assumption)) hgd (by omega) (by omega) (by omega) nT').mono ?_); (focus (first | assumption | (refine FS.ext ?_ _ _; assumption) | (refine IS.ext ?_ _ _; assumption) | (refine hDu _ ?_; assumption) | (refine hOu _ ?_; assumption) | (refine FW.fs ?_ (by omega) _; assumption) | (refine WS.fs ?_; assumption) | omega)); rintro e w1 ⟨v1, rfl, hv1, hw1⟩; (have B : But V [g2, h2] w1 := But.grew (by assumption) hw1; have A : FW w1 g2 T := FW.grew (by assumption) hw1; have C : FW w1 h2 U := FW.grew (by assumption) hw1))) | (go_at_call 51; ((with_reducible refine (rinto_i x D (.slice (some ⟨h2, 0, none⟩) ts.length k3) U _ ?_ (hUs _ (by assumption)) hgd (by omega) (by omega) (by omega) nU').mono ?_); (focus (first | assumption | (refine FS.ext ?_ _ _; assumption) | (refine IS.ext ?_ _ _; assumption) | (refine hDu _ ?_; assumption) | (refine hOu _ ?_; assumption) | (refine FW.fs ?_ (by omega) _; assumption) | (refine WS.fs ?_; assumption) | omega)); rintro e w1 ⟨v1, rfl, hv1, hw1⟩; (have B : But V [g2, h2] w1 := But.grew (by assumption) hw1; have A : FW w1 g2 T := FW.grew (by assumption) hw1; have C : FW w1 h2 U := FW.grew (by assumption) hw1))) | (go_at_call 47; ((with_reducible refine (all_any (.slice (some ⟨g, 0, none⟩) x.ws.length c) v1 L2 (x.into x.rows.toNat x.cols.toNat T) _ (hFs _ (by assumption)) hv1.fs).mono ?_); rintro e w1 ⟨rfl, hw1⟩; (have B : But V [g2, h2] w1 := But.grew (by assumption) hw1; have A : FW w1 g2 T := FW.grew (by assumption) hw1; have C : FW w1 h2 U := FW.grew (by assumption) hw1))) | (go_at_call 47; ((with_reducible refine (all_any (.slice (some ⟨h, 0, none⟩) x.ws.length d) v1 L4 (x.into x.rows.toNat x.cols.toNat U) _ (hHs _ (by assumption)) hv1.fs).mono ?_); rintro e w1 ⟨rfl, hw1⟩; (have B : But V [g2, h2] w1 := But.grew (by assumption) hw1; have A : FW w1 g2 T := FW.grew (by assumption) hw1; have C : FW w1 h2 U := FW.grew (by assumption) hw1))) | (go_at_call 41; ((with_reducible refine (awake04 _).mono ?_); rintro e w1 ⟨rfl, hw1⟩; (have B : But V [g2, h2] w1 := But.grew (by assumption) hw1; have A : FW w1 g2 T := FW.grew (by assumption) hw1; have C : FW w1 h2 U := FW.grew (by assumption) hw1))))
            go_ret
            exact ⟨rfl, g0.trans (B.grew0 gWV hG2)⟩
          · have d3 : decide (i < x.rows) = false := by simp only [f3, decide_false]
            go_wp2_with (first | (go_at_call 50; ((with_reducible refine (htk _ C0 hO2).mono ?_); rintro e w1 ⟨rfl, hw2⟩; (have B2 := B.wrote hw2 (.inl (by simp)); have A2 := hw2.fw_ne A0 ngh2; have C2 := hw2.fw C0))))
            refine wp_region_R (But V [g2, h2]) [] [(0,0), (0,1), (0,2), (0,3), (0,4), (0,5), (0,6), (0,7), (0,8), (0,9), (0,10), (0,11), (0,12), (1,13), (1,14), (0,15), (0,16), (0,17), (0,18), (0,19), (0,20), (1,21), (1,22), (0,23), (0,24), (1,25), (0,26), (0,27)] (by kernel_rfl) (by kernel_rfl) (fun _ _ _ _ h _ => h) (B2.grew ((Grew.refl _).drew)) ?_
            refine name_any (fun V5 hV5 => ?_)
            have B : But V [g2, h2] V5 := by rw [← hV5]; exact B2.grew ((Grew.refl _).drew)
            have A : FW V5 g2 T := by rw [← hV5]; exact A2.grew ((Grew.refl _).drew)
            have C : FW V5 h2 U := by rw [← hV5]; exact C2.grew ((Grew.refl _).drew)
            clear hV5 hO2 B2 A2 C2 hw2 A0 C0 htk
            have hTs : ∀ w', FW w' g2 T → FS w' (.slice (some ⟨g2, 0, none⟩) ts.length k2) T := fun w' hF => by
              have := hF.fs (by rw [nT, nts.out]; have := hw20 x.rows x.cols hsz.1 hsz.2; omega) k2
              rwa [nT] at this
            have hUs : ∀ w', FW w' h2 U → FS w' (.slice (some ⟨h2, 0, none⟩) ts.length k3) U := fun w' hF => by
              have := hF.fs (by rw [nU, nts.out]; have := hw20 x.rows x.cols hsz.1 hsz.2; omega) k3
              rwa [nU] at this
            have nT' := nT.trans nts.out
            have nU' := nU.trans nts.out
            go_wp2_with (first | ((with_reducible refine wpR_id ?_); first | (refine wpR_take (v := ?_) rfl rfl ?_ ?_; rotate_left; (focus (intro w' hw'; go_simp; try with_reducible rfl)); simp only [Act.put, List.setIfInBounds_toArray, List.set_cons_zero, List.set_cons_succ]) | (refine wpR_pure (v := ?_) rfl rfl ?_ ?_; rotate_left; (focus (intro w'; go_simp; try with_reducible rfl)); simp only [Act.put, List.setIfInBounds_toArray, List.set_cons_zero, List.set_cons_succ]) | (refine wpR_takeG (v := ?_) rfl rfl rfl rfl rfl ?_ ?_; rotate_left; (focus (intro w' hw'; go_simp; try with_reducible rfl)); simp only [Act.put, List.setIfInBounds_toArray, List.set_cons_zero, List.set_cons_succ]) | (refine wpR_skip rfl rfl rfl rfl rfl rfl ?_; simp only [Act.put, List.setIfInBounds_toArray, List.set_cons_zero, List.set_cons_succ]) | (refine wpR_skipU rfl rfl rfl rfl rfl ?_; simp only [Act.put, List.setIfInBounds_toArray, List.set_cons_zero, List.set_cons_succ]) | (refine wpR_do rfl rfl (fun K hK => ?_)) | (refine wpR_doG rfl rfl rfl rfl rfl (fun K hK => ?_)) | (refine wpR_last rfl rfl (fun K hK => ?_)) | (refine wpR_nil ?_)) | ((with_reducible refine wpR_go ?_ ?_); (focus (with_reducible assumption))) | ((with_reducible refine upon_id ?_); refine upon_fop rfl (by assumption) (by assumption) ?_; intro rr nn hr) | (go_at_call 51; ((with_reducible refine (rinto_i x D (.slice (some ⟨g2, 0, none⟩) ts.length k2) T _ ?_ (hTs _ (by assumption)) hgd (by omega) (by omega) (by omega) nT').mono ?_); (focus (first | assumption | (refine FS.ext ?_ _ _; assumption) | (refine IS.ext ?_ _ _; assumption) | (refine hDu _ ?_; assumption) | (refine hOu _ ?_; assumption) | (refine FW.fs ?_ (by omega) _; assumption) | (refine WS.fs ?_; assumption) | omega)); rintro e w1 ⟨v1, rfl, hv1, hw1⟩; (have B : But V [g2, h2] w1 := But.grew (by assumption) hw1; have A : FW w1 g2 T := FW.grew (by assumption) hw1; have C : FW w1 h2 U := FW.grew (by assumption) hw1))) | (go_at_call 51; ((with_reducible refine (rinto_i x D (.slice (some ⟨h2, 0, none⟩) ts.length k3) U _ ?_ (hUs _ (by assumption)) hgd (by omega) (by omega) (by omega) nU').mono ?_); (focus (first | assumption | (refine FS.ext ?_ _ _; assumption) | (refine IS.ext ?_ _ _; assumption) | (refine hDu _ ?_; assumption) | (refine hOu _ ?_; assumption) | (refine FW.fs ?_ (by omega) _; assumption) | (refine WS.fs ?_; assumption) | omega)); rintro e w1 ⟨v1, rfl, hv1, hw1⟩; (have B : But V [g2, h2] w1 := But.grew (by assumption) hw1; have A : FW w1 g2 T := FW.grew (by assumption) hw1; have C : FW w1 h2 U := FW.grew (by assumption) hw1))) | (go_at_call 47; ((with_reducible refine (all_any (.slice (some ⟨g, 0, none⟩) x.ws.length c) v1 L2 (x.into x.rows.toNat x.cols.toNat T) _ (hFs _ (by assumption)) hv1.fs).mono ?_); rintro e w1 ⟨rfl, hw1⟩; (have B : But V [g2, h2] w1 := But.grew (by assumption) hw1; have A : FW w1 g2 T := FW.grew (by assumption) hw1; have C : FW w1 h2 U := FW.grew (by assumption) hw1))) | (go_at_call 47; ((with_reducible refine (all_any (.slice (some ⟨h, 0, none⟩) x.ws.length d) v1 L4 (x.into x.rows.toNat x.cols.toNat U) _ (hHs _ (by assumption)) hv1.fs).mono ?_); rintro e w1 ⟨rfl, hw1⟩; (have B : But V [g2, h2] w1 := But.grew (by assumption) hw1; have A : FW w1 g2 T := FW.grew (by assumption) hw1; have C : FW w1 h2 U := FW.grew (by assumption) hw1))) | (go_at_call 41; ((with_reducible refine (awake04 _).mono ?_); rintro e w1 ⟨rfl, hw1⟩; (have B : But V [g2, h2] w1 := But.grew (by assumption) hw1; have A : FW w1 g2 T := FW.grew (by assumption) hw1; have C : FW w1 h2 U := FW.grew (by assumption) hw1))))
            go_ret
            exact ⟨rfl, g0.trans (B.grew0 gWV hG2)⟩
          · have d4 : decide (k < x.rows) = false := by simp only [f4, decide_false]
            go_wp2_with (first | (go_at_call 50; ((with_reducible refine (htk _ C0 hO2).mono ?_); rintro e w1 ⟨rfl, hw2⟩; (have B2 := B.wrote hw2 (.inl (by simp)); have A2 := hw2.fw_ne A0 ngh2; have C2 := hw2.fw C0))))
            refine wp_region_R (But V [g2, h2]) [] [(0,0), (0,1), (0,2), (0,3), (0,4), (0,5), (0,6), (0,7), (0,8), (0,9), (0,10), (0,11), (0,12), (1,13), (1,14), (0,15), (0,16), (0,17), (0,18), (0,19), (0,20), (1,21), (1,22), (0,23), (0,24), (1,25), (0,26), (0,27)] (by kernel_rfl) (by kernel_rfl) (fun _ _ _ _ h _ => h) (B2.grew ((Grew.refl _).drew)) ?_
            refine name_any (fun V5 hV5 => ?_)
            have B : But V [g2, h2] V5 := by rw [← hV5]; exact B2.grew ((Grew.refl _).drew)
            have A : FW V5 g2 T := by rw [← hV5]; exact A2.grew ((Grew.refl _).drew)
            have C : FW V5 h2 U := by rw [← hV5]; exact C2.grew ((Grew.refl _).drew)
            clear hV5 hO2 B2 A2 C2 hw2 A0 C0 htk
            have hTs : ∀ w', FW w' g2 T → FS w' (.slice (some ⟨g2, 0, none⟩) ts.length k2) T := fun w' hF => by
              have := hF.fs (by rw [nT, nts.out]; have := hw20 x.rows x.cols hsz.1 hsz.2; omega) k2
              rwa [nT] at this
            have hUs : ∀ w', FW w' h2 U → FS w' (.slice (some ⟨h2, 0, none⟩) ts.length k3) U := fun w' hF => by
              have := hF.fs (by rw [nU, nts.out]; have := hw20 x.rows x.cols hsz.1 hsz.2; omega) k3
              rwa [nU] at this
            have nT' := nT.trans nts.out
            have nU' := nU.trans nts.out
            go_wp2_with (first | ((with_reducible refine wpR_id ?_); first | (refine wpR_take (v := ?_) rfl rfl ?_ ?_; rotate_left; (focus (intro w' hw'; go_simp; try with_reducible rfl)); simp only [Act.put, List.setIfInBounds_toArray, List.set_cons_zero, List.set_cons_succ]) | (refine wpR_pure (v := ?_) rfl rfl ?_ ?_; rotate_left; (focus (intro w'; go_simp; try with_reducible rfl)); simp only [Act.put, List.setIfInBounds_toArray, List.set_cons_zero, List.set_cons_succ]) | (refine wpR_takeG (v := ?_) rfl rfl rfl rfl rfl ?_ ?_; rotate_left; (focus (intro w' hw'; go_simp; try with_reducible rfl)); simp only [Act.put, List.setIfInBounds_toArray, List.set_cons_zero, List.set_cons_succ]) | (refine wpR_skip rfl rfl rfl rfl rfl rfl ?_; simp only [Act.put, List.setIfInBounds_toArray, List.set_cons_zero, List.set_cons_succ]) | (refine wpR_skipU rfl rfl rfl rfl rfl ?_; simp only [Act.put, List.setIfInBounds_toArray, List.set_cons_zero, List.set_cons_succ]) | (refine wpR_do rfl rfl (fun K hK => ?_)) | (refine wpR_doG rfl rfl rfl rfl rfl (fun K hK => ?_)) | (refine wpR_last rfl rfl (fun K hK => ?_)) | (refine wpR_nil ?_)) | ((with_reducible refine wpR_go ?_ ?_); (focus (with_reducible assumption))) | ((with_reducible refine upon_id ?_); refine upon_fop rfl (by assumption) (by assumption) ?_; intro rr nn hr) | (go_at_call 51; ((with_reducible refine (rinto_i x D (.slice (some ⟨g2, 0, none⟩) ts.length k2) T _ ?_ (hTs _ (by assumption)) hgd (by omega) (by omega) (by omega) nT').mono ?_); (focus (first | assumption | (refine FS.ext ?_ _ _; assumption) | (refine IS.ext ?_ _ _; assumption) | (refine hDu _ ?_; assumption) | (refine hOu _ ?_; assumption) | (refine FW.fs ?_ (by omega) _; assumption) | (refine WS.fs ?_; assumption) | omega)); rintro e w1 ⟨v1, rfl, hv1, hw1⟩; (have B : But V [g2, h2] w1 := But.grew (by assumption) hw1; have A : FW w1 g2 T := FW.grew (by assumption) hw1; have C : FW w1 h2 U := FW.grew (by assumption) hw1))) | (go_at_call 51; ((with_reducible refine (rinto_i x D (.slice (some ⟨h2, 0, none⟩) ts.length k3) U _ ?_ (hUs _ (by assumption)) hgd (by omega) (by omega) (by omega) nU').mono ?_); (focus (first | assumption | (refine FS.ext ?_ _ _; assumption) | (refine IS.ext ?_ _ _; assumption) | (refine hDu _ ?_; assumption) | (refine hOu _ ?_; assumption) | (refine FW.fs ?_ (by omega) _; assumption) | (refine WS.fs ?_; assumption) | omega)); rintro e w1 ⟨v1, rfl, hv1, hw1⟩; (have B : But V [g2, h2] w1 := But.grew (by assumption) hw1; have A : FW w1 g2 T := FW.grew (by assumption) hw1; have C : FW w1 h2 U := FW.grew (by assumption) hw1))) | (go_at_call 47; ((with_reducible refine (all_any (.slice (some ⟨g, 0, none⟩) x.ws.length c) v1 L2 (x.into x.rows.toNat x.cols.toNat T) _ (hFs _ (by assumption)) hv1.fs).mono ?_); rintro e w1 ⟨rfl, hw1⟩; (have B : But V [g2, h2] w1 := But.grew (by assumption) hw1; have A : FW w1 g2 T := FW.grew (by assumption) hw1; have C : FW w1 h2 U := FW.grew (by assumption) hw1))) | (go_at_call 47; ((with_reducible refine (all_any (.slice (some ⟨h, 0, none⟩) x.ws.length d) v1 L4 (x.into x.rows.toNat x.cols.toNat U) _ (hHs _ (by assumption)) hv1.fs).mono ?_); rintro e w1 ⟨rfl, hw1⟩; (have B : But V [g2, h2] w1 := But.grew (by assumption) hw1; have A : FW w1 g2 T := FW.grew (by assumption) hw1; have C : FW w1 h2 U := FW.grew (by assumption) hw1))) | (go_at_call 41; ((with_reducible refine (awake04 _).mono ?_); rintro e w1 ⟨rfl, hw1⟩; (have B : But V [g2, h2] w1 := But.grew (by assumption) hw1; have A : FW w1 g2 T := FW.grew (by assumption) hw1; have C : FW w1 h2 U := FW.grew (by assumption) hw1))))
            go_ret
            exact ⟨rfl, g0.trans (B.grew0 gWV hG2)⟩
  · have Hg := hid hg
    have hgr : ∀ w', FS w' D x.ws → Calls Try.prog 42 #[.agg #[D, .int .i64 x.off, .int .i64 x.rows, .int .i64 x.cols, .int .i64 x.ld]] w' (fun e w2 => e = .returned (.bool true) ∧ ∃ o n, w2 = ext w' o n) := fun w' h => by
      have := great_any x D w' h; rw [Hg.out] at this; exact this
    clear hg
    go_enter Try.func5, Try.ntmps5
    refine seq_stop ?_
    go_wp2
    refine stop_go (fun W hW => ?_)
    have s1 : w.heap.size < W.heap.size := by rw [hW]; simp only [World.size_alloc]; omega
    have b1 : ∀ i, W.cell? ⟨w.heap.size, i, none⟩ = (#[D, .int .i64 x.off, .int .i64 x.rows, .int .i64 x.cols, .int .i64 x.ld] : Array Value)[i]? := by intro i; rw [hW]; go_simp
    have g0 : Grew w W := by rw [hW]; exact (Grew.refl _).alloc _
    clear hW
    have hDW := hD.grew g0
    go_wp2_with (first | (go_at_call 41; ((with_reducible refine (awake04 _).mono ?_); rintro e w1 ⟨rfl, o1, n1, rfl⟩)) | (go_at_call 42; ((with_reducible refine (hgr _ ?_).mono ?_); (focus (first | assumption | (refine FS.ext ?_ _ _; assumption) | (refine IS.ext ?_ _ _; assumption) | (refine hDu _ ?_; assumption) | (refine hOu _ ?_; assumption) | (refine FW.fs ?_ (by omega) _; assumption) | (refine WS.fs ?_; assumption) | omega)); rintro e w1 ⟨rfl, o1, n1, rfl⟩)))
    go_ret
    exact ⟨rfl, by (show Grew _ _; repeat (first | (with_reducible exact Grew.refl _) | (with_reducible assumption) | (with_reducible refine Grew.ext ?_ _ _) | (with_reducible refine Grew.alloc ?_ _) | ((with_reducible refine Grew.setCell ?_ ?_ _); rotate_left; (focus (dsimp only; omega))) | (with_reducible refine Grew.drewN ?_ _) | (with_reducible refine Grew.drew ?_)))⟩
end Go.Proofs.Ytcmggfpcbijcjaa
