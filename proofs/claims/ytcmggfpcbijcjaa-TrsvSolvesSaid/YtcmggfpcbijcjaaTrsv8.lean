/-
  Contract: trsv.Solve, all its ways out.
-/
import Derived.Test.YtcmggfpcbijcjaaTrsv4
import Derived.Test.YtcmggfpcbijcjaaTrsv5
import Derived.Test.YtcmggfpcbijcjaaTrsv6
import Derived.Test.YtcmggfpcbijcjaaTrsv7
set_option linter.unusedSimpArgs false
set_option linter.unusedVariables false
open Go Go.RowKit Sedge
namespace Go.Proofs.Ytcmggfpcbijcjaa
def tsolveE (k : Int) (m : MatM) (x : VecM) (one : Bool) : Int :=
  if x.right = false then 1 else if sqE k m x.n ≠ 0 then sqE k m x.n else if meetM (rowM x) m one = true then 2 else if zeroTo k m m.rows.toNat = true then 4 else 0
def tsolveL (k : Int) (m : MatM) (x : VecM) (one : Bool) : List Nat := if tsolveE k m x one = 0 then VecMwrite x ((List.range x.n.toNat).map (solveF m.num x.n.toNat k x.num)) else x.ws
theorem sqE_zero {k : Int} {m : MatM} {n : Int} (h : sqE k m n = 0) : 1 ≤ k ∧ k ≤ 4 ∧ m.good = true ∧ m.rows = m.cols ∧ m.rows = n := by
  unfold sqE at h
  split at h
  · cases h
  · rename_i h1
    simp only [not_or, Bool.not_eq_false] at h1
    split at h
    · rename_i h2
      exact ⟨by omega, by omega, h1.2.2, h2.1, h2.2⟩
    · cases h
theorem tsolveE_zero {k : Int} {m : MatM} {x : VecM} {one : Bool} (h : tsolveE k m x one = 0) : x.right = true ∧ sqE k m x.n = 0 ∧ meetM (rowM x) m one = false ∧ zeroTo k m m.rows.toNat = false := by
  unfold tsolveE at h
  split at h
  · cases h
  · rename_i h1
    split at h
    · rename_i h2; exact absurd h h2
    · rename_i h2
      split at h
      · cases h
      · rename_i h3
        split at h
        · cases h
        · rename_i h4
          simp only [Bool.not_eq_false, Bool.not_eq_true, Decidable.not_not, ne_eq] at h1 h2 h3 h4
          exact ⟨h1, h2, h3, h4⟩
theorem meet_no {x : VecM} {m : MatM} (hx : x.right = true) (hm : m.good = true) (h : meetM (rowM x) m true = false) {r i j : Nat} (hr : (r : Int) < x.n) (hi : (i : Int) < m.rows) (hj : (j : Int) < m.cols) : x.place r ≠ m.place i j := by
  intro e
  have f1 : MatM.full (rowM x) = true := by unfold MatM.full; rw [rowM_good hx]; simp [rowM]; omega
  have f2 : MatM.full m = true := by unfold MatM.full; rw [hm]; simp; omega
  have px := VecM.right_place hx hr
  have pm := MatM.good_place hm hi hj
  have hn := VecM.right_n hx
  have hmn := m.good_n hm
  unfold VecM.place MatM.place at e
  have e' : x.off + r * x.inc = m.off + i + j * m.ld := by omega
  have k1 : (r : Int) * x.inc ≤ (x.n - 1) * x.inc := Int.mul_le_mul_of_nonneg_right (by omega) (by omega)
  have k2 : (j : Int) * m.ld ≤ (m.cols - 1) * m.ld := Int.mul_le_mul_of_nonneg_right (by omega) (by omega)
  unfold meetM spanLo spanHi at h
  rw [f1, f2] at h
  simp [rowM] at h
  omega
theorem _root_.Sedge.But.fs_ne {w w' : World} {a g c n : Nat} {ws : List Nat} (hb : But w [g] w') (h : FS w (.slice (some ⟨a, 0, none⟩) n c) ws) (hne : a ≠ g) : FS w' (.slice (some ⟨a, 0, none⟩) n c) ws := by
  obtain ⟨hl, a', cap, hv, h0, hc⟩ := h
  refine ⟨hl, a', cap, hv, h0, fun i hi => ?_⟩
  obtain ⟨blk, o, b, he, h1, h2⟩ := hc i hi
  refine ⟨blk, o, b, he, ?_, h2⟩
  have e : blk = a := by
    have e2 := hv
    simp only [Value.slice.injEq] at e2
    rw [he] at e2
    have e3 := e2.1
    simp only [Option.some.injEq, Addr.mk.injEq] at e3
    exact e3.1.symm
  rw [hb.cell (World.block_lt_of_cell? w _ h1) (by rw [e]; simpa using hne)]; exact h1
set_option maxRecDepth 100000 in
set_option maxHeartbeats 2000000 in
theorem solve_out (k : Int) (m : MatM) (x : VecM) (a g ca cg : Nat) (w : World) (hD : FS w (.slice (some ⟨a, 0, none⟩) m.ws.length ca) m.ws) (hX : FS w (.slice (some ⟨g, 0, none⟩) x.ws.length cg) x.ws) (hPa : Plain w a) (hPg : Plain w g) (hwm : m.wf) (hwx : x.wf)
    (hr : m.rows ≤ 1000) (hlm : m.ws.length ≤ 1000000) (hlx : x.ws.length ≤ 1000000) (hE : tsolveE k m x (decide (g = a)) ≠ 0) :
   Calls Try.prog 79 #[.int .i64 k, .agg #[.slice (some ⟨a, 0, none⟩) m.ws.length ca, .int .i64 m.off, .int .i64 m.rows, .int .i64 m.cols, .int .i64 m.ld], .agg #[.slice (some ⟨g, 0, none⟩) x.ws.length cg, .int .i64 x.off, .int .i64 x.n, .int .i64 x.inc]] w
     (fun e w' => e = .returned (.int .i64 (tsolveE k m x (decide (g = a)))) ∧ ∃ o n, w' = ext w o n) := by
  have cR : ∀ b, x.right = b → ∀ w', FS w' (.slice (some ⟨g, 0, none⟩) x.ws.length cg) x.ws → Calls Try.prog 135 #[.agg #[.slice (some ⟨g, 0, none⟩) x.ws.length cg, .int .i64 x.off, .int .i64 x.n, .int .i64 x.inc]] w' (fun e w2 => e = .returned (.bool b) ∧ ∃ o n, w2 = ext w' o n) := fun b hb w' h => by
    have := right_any x _ w' h hwx; rw [hb] at this; exact this
  have cS : ∀ E, sqE k m x.n = E → ∀ w', FS w' (.slice (some ⟨a, 0, none⟩) m.ws.length ca) m.ws → Calls Try.prog 151 #[.int .i64 k, .agg #[.slice (some ⟨a, 0, none⟩) m.ws.length ca, .int .i64 m.off, .int .i64 m.rows, .int .i64 m.cols, .int .i64 m.ld], .int .i64 x.n] w' (fun e w2 => e = .returned (.int .i64 E) ∧ ∃ o n, w2 = ext w' o n) := fun E hE w' h => by
    have := square_any k m _ x.n w' h hwm
    rw [hE] at this
    exact this
  have cM : ∀ b, meetM (rowM x) m (decide (g = a)) = b → ∀ w', FS w' (.slice (some ⟨g, 0, none⟩) x.ws.length cg) x.ws → FS w' (.slice (some ⟨a, 0, none⟩) m.ws.length ca) m.ws → Plain w' g → Plain w' a → Calls Try.prog 136 #[.agg #[.slice (some ⟨g, 0, none⟩) x.ws.length cg, .int .i64 x.off, .int .i64 1, .int .i64 x.n, .int .i64 x.inc], .agg #[.slice (some ⟨a, 0, none⟩) m.ws.length ca, .int .i64 m.off, .int .i64 m.rows, .int .i64 m.cols, .int .i64 m.ld]] w' (fun e w2 => e = .returned (.bool b) ∧ ∃ o n, w2 = ext w' o n) := fun b hb w' h1 h2 p1 p2 => by
    have := meetM_any (rowM x) m g a cg ca w' h1 h2 p1 p2 (rowM_wf hwx) hwm hlx hlm
    rw [hb] at this; exact this
  cases h1 : x.right
  · have q := hid (show tsolveE k m x (decide (g = a)) = 1 by unfold tsolveE; rw [if_pos h1])
    replace cR := cR _ h1
    clear hE h1 cS cM hwm hwx
    go_enter Try.func79, Try.ntmps79
    refine seq_stop ?_
    go_wp2
    refine stop_go (fun W hW => ?_)
    have s1 : w.heap.size < W.heap.size := by rw [hW]; simp only [World.size_alloc]; omega
    have b1 : ∀ i, W.cell? ⟨w.heap.size, i, none⟩ = (#[.slice (some ⟨a, 0, none⟩) m.ws.length ca, .int .i64 m.off, .int .i64 m.rows, .int .i64 m.cols, .int .i64 m.ld] : Array Value)[i]? := by intro i; rw [hW]; go_simp
    have s2 : w.heap.size + 1 < W.heap.size := by rw [hW]; simp only [World.size_alloc]; omega
    have b2 : ∀ i, W.cell? ⟨w.heap.size + 1, i, none⟩ = (#[.slice (some ⟨g, 0, none⟩) x.ws.length cg, .int .i64 x.off, .int .i64 x.n, .int .i64 x.inc] : Array Value)[i]? := by intro i; rw [hW]; go_simp
    have g0 : Grew w W := by rw [hW]; exact ((Grew.refl _).alloc _).alloc _
    clear hW
    have hDW := hD.grew g0
    have hXW := hX.grew g0
    go_wp2_with (first | (go_at_call 135; ((with_reducible refine (cR _ ?_).mono ?_); (focus (first | assumption | (refine FS.ext ?_ _ _; assumption) | (refine IS.ext ?_ _ _; assumption) | (refine hDu _ ?_; assumption) | (refine hOu _ ?_; assumption) | (refine FW.fs ?_ (by omega) _; assumption) | (refine WS.fs ?_; assumption) | omega)); rintro e w1 ⟨rfl, oa, na, rfl⟩)) | (go_at_call 151; ((with_reducible refine (cS _ ?_).mono ?_); (focus (first | assumption | (refine FS.ext ?_ _ _; assumption) | (refine IS.ext ?_ _ _; assumption) | (refine hDu _ ?_; assumption) | (refine hOu _ ?_; assumption) | (refine FW.fs ?_ (by omega) _; assumption) | (refine WS.fs ?_; assumption) | omega)); rintro e w1 ⟨rfl, ob, nb, rfl⟩)))
    go_ret
    exact ⟨ret_int q.out.symm, by (show Grew _ _; repeat (first | (with_reducible exact Grew.refl _) | (with_reducible assumption) | (with_reducible refine Grew.ext ?_ _ _) | (with_reducible refine Grew.alloc ?_ _) | ((with_reducible refine Grew.setCell ?_ ?_ _); rotate_left; (focus (dsimp only; first | omega | (simp only [size_ext, World.size_alloc, Array.size_append]; omega)))) | (with_reducible refine Grew.drewN ?_ _) | (with_reducible refine Grew.drew ?_)))⟩
  · replace cR := cR _ h1
    by_cases h2 : sqE k m x.n = 0
    · have hs := sqE_zero h2
      replace cS := cS _ h2
      cases h3 : meetM (rowM x) m (decide (g = a))
      · replace cM := cM _ h3
        have h4 : zeroTo k m m.rows.toNat = true := by
          unfold tsolveE at hE
          rw [if_neg (by rw [h1]; simp), if_neg (by rw [h2]; simp), if_neg (by rw [h3]; simp)] at hE
          cases h : zeroTo k m m.rows.toNat
          · rw [h] at hE; exact absurd rfl hE
          · rfl
        have q := hid (show tsolveE k m x (decide (g = a)) = 4 by unfold tsolveE; rw [if_neg (by rw [h1]; simp), if_neg (by rw [h2]; simp), if_neg (by rw [h3]; simp), if_pos h4])
        have cZ : ∀ w', FS w' (.slice (some ⟨a, 0, none⟩) m.ws.length ca) m.ws → Calls Try.prog 153 #[.int .i64 k, .agg #[.slice (some ⟨a, 0, none⟩) m.ws.length ca, .int .i64 m.off, .int .i64 m.rows, .int .i64 m.cols, .int .i64 m.ld]] w' (fun e w2 => e = .returned (.bool true) ∧ ∃ o n, w2 = ext w' o n) := fun w' h => by
          have := zero_any k m _ w' h hs.2.2.1 hwm hs.2.2.2.1 hr hlm; rw [h4] at this; exact this
        clear hE h1 h2 h3 h4 hs hwm hwx
        go_enter Try.func79, Try.ntmps79
        refine seq_stop ?_
        go_wp2
        refine stop_go (fun W hW => ?_)
        have s1 : w.heap.size < W.heap.size := by rw [hW]; simp only [World.size_alloc]; omega
        have b1 : ∀ i, W.cell? ⟨w.heap.size, i, none⟩ = (#[.slice (some ⟨a, 0, none⟩) m.ws.length ca, .int .i64 m.off, .int .i64 m.rows, .int .i64 m.cols, .int .i64 m.ld] : Array Value)[i]? := by intro i; rw [hW]; go_simp
        have s2 : w.heap.size + 1 < W.heap.size := by rw [hW]; simp only [World.size_alloc]; omega
        have b2 : ∀ i, W.cell? ⟨w.heap.size + 1, i, none⟩ = (#[.slice (some ⟨g, 0, none⟩) x.ws.length cg, .int .i64 x.off, .int .i64 x.n, .int .i64 x.inc] : Array Value)[i]? := by intro i; rw [hW]; go_simp
        have g0 : Grew w W := by rw [hW]; exact ((Grew.refl _).alloc _).alloc _
        clear hW
        have hDW := hD.grew g0
        have hXW := hX.grew g0
        go_wp2_with (first | (go_at_call 135; ((with_reducible refine (cR _ ?_).mono ?_); (focus (first | assumption | (refine FS.ext ?_ _ _; assumption) | (refine IS.ext ?_ _ _; assumption) | (refine hDu _ ?_; assumption) | (refine hOu _ ?_; assumption) | (refine FW.fs ?_ (by omega) _; assumption) | (refine WS.fs ?_; assumption) | omega)); rintro e w1 ⟨rfl, oa, na, rfl⟩)) | (go_at_call 151; ((with_reducible refine (cS _ ?_).mono ?_); (focus (first | assumption | (refine FS.ext ?_ _ _; assumption) | (refine IS.ext ?_ _ _; assumption) | (refine hDu _ ?_; assumption) | (refine hOu _ ?_; assumption) | (refine FW.fs ?_ (by omega) _; assumption) | (refine WS.fs ?_; assumption) | omega)); rintro e w1 ⟨rfl, ob, nb, rfl⟩)))
        refine wp_region_R (Grew W) [] [(0,0), (0,2), (1,1), (1,3), (0,4)] (by kernel_rfl) (by kernel_rfl) (fun _ _ _ _ h _ => h) (by first | exact ⟨_, _, ext_drew⟩ | exact ⟨_, _, drew_ext0⟩) ?_
        go_wp2_with (first | ((with_reducible refine wpR_id ?_); first | (refine wpR_take (v := ?_) rfl rfl ?_ ?_; rotate_left; (focus (rintro w' ⟨o', n', rfl⟩; go_simp; try with_reducible rfl)); simp only [Act.put, List.setIfInBounds_toArray, List.set_cons_zero, List.set_cons_succ]) | (refine wpR_pure (v := ?_) rfl rfl ?_ ?_; rotate_left; (focus (intro w'; go_simp; try with_reducible rfl)); simp only [Act.put, List.setIfInBounds_toArray, List.set_cons_zero, List.set_cons_succ]) | (refine wpR_takeG (v := ?_) rfl rfl rfl rfl rfl ?_ ?_; rotate_left; (focus (rintro w' ⟨o', n', rfl⟩; go_simp; try with_reducible rfl)); simp only [Act.put, List.setIfInBounds_toArray, List.set_cons_zero, List.set_cons_succ]) | (refine wpR_skip rfl rfl rfl rfl rfl rfl ?_; simp only [Act.put, List.setIfInBounds_toArray, List.set_cons_zero, List.set_cons_succ]) | (refine wpR_skipU rfl rfl rfl rfl rfl ?_; simp only [Act.put, List.setIfInBounds_toArray, List.set_cons_zero, List.set_cons_succ]) | (refine wpR_do rfl rfl (fun K hK => ?_)) | (refine wpR_doG rfl rfl rfl rfl rfl (fun K hK => ?_)) | (refine wpR_last rfl rfl (fun K hK => ?_)) | (refine wpR_nil ?_)) | ((with_reducible refine wpR_go ?_ ?_); (focus exact ⟨_, _, rfl⟩)) | ((with_reducible refine upon_id ?_); refine upon_fop rfl (by assumption) (by assumption) ?_; intro rr nn hr) | (go_at_call 152; ((with_reducible refine (trow_any x _ _ _ _).mono ?_); rintro e w1 ⟨rfl, oc, nc, rfl⟩)) | (go_at_call 136; ((with_reducible refine (cM _ ?_ ?_ (hPg.grew (by (show Grew _ _; repeat (first | (with_reducible exact Grew.refl _) | (with_reducible assumption) | (with_reducible refine Grew.ext ?_ _ _) | (with_reducible refine Grew.alloc ?_ _) | ((with_reducible refine Grew.setCell ?_ ?_ _); rotate_left; (focus (dsimp only; first | omega | (simp only [size_ext, World.size_alloc, Array.size_append]; omega)))) | (with_reducible refine Grew.drewN ?_ _) | (with_reducible refine Grew.drew ?_))))) (hPa.grew (by (show Grew _ _; repeat (first | (with_reducible exact Grew.refl _) | (with_reducible assumption) | (with_reducible refine Grew.ext ?_ _ _) | (with_reducible refine Grew.alloc ?_ _) | ((with_reducible refine Grew.setCell ?_ ?_ _); rotate_left; (focus (dsimp only; first | omega | (simp only [size_ext, World.size_alloc, Array.size_append]; omega)))) | (with_reducible refine Grew.drewN ?_ _) | (with_reducible refine Grew.drew ?_)))))).mono ?_); (focus (first | assumption | (refine FS.ext ?_ _ _; assumption) | (refine IS.ext ?_ _ _; assumption) | (refine hDu _ ?_; assumption) | (refine hOu _ ?_; assumption) | (refine FW.fs ?_ (by omega) _; assumption) | (refine WS.fs ?_; assumption) | omega)); (focus (first | assumption | (refine FS.ext ?_ _ _; assumption) | (refine IS.ext ?_ _ _; assumption) | (refine hDu _ ?_; assumption) | (refine hOu _ ?_; assumption) | (refine FW.fs ?_ (by omega) _; assumption) | (refine WS.fs ?_; assumption) | omega)); rintro e w1 ⟨rfl, od, nd, rfl⟩)) | (go_at_call 153; ((with_reducible refine (cZ _ ?_).mono ?_); (focus (first | assumption | (refine FS.ext ?_ _ _; assumption) | (refine IS.ext ?_ _ _; assumption) | (refine hDu _ ?_; assumption) | (refine hOu _ ?_; assumption) | (refine FW.fs ?_ (by omega) _; assumption) | (refine WS.fs ?_; assumption) | omega)); rintro e w1 ⟨rfl, oe, ne, rfl⟩)))
        go_ret
        exact ⟨ret_int q.out.symm, by (show Grew _ _; repeat (first | (with_reducible exact Grew.refl _) | (with_reducible assumption) | (with_reducible refine Grew.ext ?_ _ _) | (with_reducible refine Grew.alloc ?_ _) | ((with_reducible refine Grew.setCell ?_ ?_ _); rotate_left; (focus (dsimp only; first | omega | (simp only [size_ext, World.size_alloc, Array.size_append]; omega)))) | (with_reducible refine Grew.drewN ?_ _) | (with_reducible refine Grew.drew ?_)))⟩
      · replace cM := cM _ h3
        have q := hid (show tsolveE k m x (decide (g = a)) = 2 by unfold tsolveE; rw [if_neg (by rw [h1]; simp), if_neg (by rw [h2]; simp), if_pos h3])
        clear hE h1 h2 h3 hs hwm hwx
        go_enter Try.func79, Try.ntmps79
        refine seq_stop ?_
        go_wp2
        refine stop_go (fun W hW => ?_)
        have s1 : w.heap.size < W.heap.size := by rw [hW]; simp only [World.size_alloc]; omega
        have b1 : ∀ i, W.cell? ⟨w.heap.size, i, none⟩ = (#[.slice (some ⟨a, 0, none⟩) m.ws.length ca, .int .i64 m.off, .int .i64 m.rows, .int .i64 m.cols, .int .i64 m.ld] : Array Value)[i]? := by intro i; rw [hW]; go_simp
        have s2 : w.heap.size + 1 < W.heap.size := by rw [hW]; simp only [World.size_alloc]; omega
        have b2 : ∀ i, W.cell? ⟨w.heap.size + 1, i, none⟩ = (#[.slice (some ⟨g, 0, none⟩) x.ws.length cg, .int .i64 x.off, .int .i64 x.n, .int .i64 x.inc] : Array Value)[i]? := by intro i; rw [hW]; go_simp
        have g0 : Grew w W := by rw [hW]; exact ((Grew.refl _).alloc _).alloc _
        clear hW
        have hDW := hD.grew g0
        have hXW := hX.grew g0
        go_wp2_with (first | (go_at_call 135; ((with_reducible refine (cR _ ?_).mono ?_); (focus (first | assumption | (refine FS.ext ?_ _ _; assumption) | (refine IS.ext ?_ _ _; assumption) | (refine hDu _ ?_; assumption) | (refine hOu _ ?_; assumption) | (refine FW.fs ?_ (by omega) _; assumption) | (refine WS.fs ?_; assumption) | omega)); rintro e w1 ⟨rfl, oa, na, rfl⟩)) | (go_at_call 151; ((with_reducible refine (cS _ ?_).mono ?_); (focus (first | assumption | (refine FS.ext ?_ _ _; assumption) | (refine IS.ext ?_ _ _; assumption) | (refine hDu _ ?_; assumption) | (refine hOu _ ?_; assumption) | (refine FW.fs ?_ (by omega) _; assumption) | (refine WS.fs ?_; assumption) | omega)); rintro e w1 ⟨rfl, ob, nb, rfl⟩)))
        refine wp_region_R (Grew W) [] [(0,0), (0,2), (1,1), (1,3), (0,4)] (by kernel_rfl) (by kernel_rfl) (fun _ _ _ _ h _ => h) (by first | exact ⟨_, _, ext_drew⟩ | exact ⟨_, _, drew_ext0⟩) ?_
        go_wp2_with (first | ((with_reducible refine wpR_id ?_); first | (refine wpR_take (v := ?_) rfl rfl ?_ ?_; rotate_left; (focus (rintro w' ⟨o', n', rfl⟩; go_simp; try with_reducible rfl)); simp only [Act.put, List.setIfInBounds_toArray, List.set_cons_zero, List.set_cons_succ]) | (refine wpR_pure (v := ?_) rfl rfl ?_ ?_; rotate_left; (focus (intro w'; go_simp; try with_reducible rfl)); simp only [Act.put, List.setIfInBounds_toArray, List.set_cons_zero, List.set_cons_succ]) | (refine wpR_takeG (v := ?_) rfl rfl rfl rfl rfl ?_ ?_; rotate_left; (focus (rintro w' ⟨o', n', rfl⟩; go_simp; try with_reducible rfl)); simp only [Act.put, List.setIfInBounds_toArray, List.set_cons_zero, List.set_cons_succ]) | (refine wpR_skip rfl rfl rfl rfl rfl rfl ?_; simp only [Act.put, List.setIfInBounds_toArray, List.set_cons_zero, List.set_cons_succ]) | (refine wpR_skipU rfl rfl rfl rfl rfl ?_; simp only [Act.put, List.setIfInBounds_toArray, List.set_cons_zero, List.set_cons_succ]) | (refine wpR_do rfl rfl (fun K hK => ?_)) | (refine wpR_doG rfl rfl rfl rfl rfl (fun K hK => ?_)) | (refine wpR_last rfl rfl (fun K hK => ?_)) | (refine wpR_nil ?_)) | ((with_reducible refine wpR_go ?_ ?_); (focus exact ⟨_, _, rfl⟩)) | ((with_reducible refine upon_id ?_); refine upon_fop rfl (by assumption) (by assumption) ?_; intro rr nn hr) | (go_at_call 152; ((with_reducible refine (trow_any x _ _ _ _).mono ?_); rintro e w1 ⟨rfl, oc, nc, rfl⟩)) | (go_at_call 136; ((with_reducible refine (cM _ ?_ ?_ (hPg.grew (by (show Grew _ _; repeat (first | (with_reducible exact Grew.refl _) | (with_reducible assumption) | (with_reducible refine Grew.ext ?_ _ _) | (with_reducible refine Grew.alloc ?_ _) | ((with_reducible refine Grew.setCell ?_ ?_ _); rotate_left; (focus (dsimp only; first | omega | (simp only [size_ext, World.size_alloc, Array.size_append]; omega)))) | (with_reducible refine Grew.drewN ?_ _) | (with_reducible refine Grew.drew ?_))))) (hPa.grew (by (show Grew _ _; repeat (first | (with_reducible exact Grew.refl _) | (with_reducible assumption) | (with_reducible refine Grew.ext ?_ _ _) | (with_reducible refine Grew.alloc ?_ _) | ((with_reducible refine Grew.setCell ?_ ?_ _); rotate_left; (focus (dsimp only; first | omega | (simp only [size_ext, World.size_alloc, Array.size_append]; omega)))) | (with_reducible refine Grew.drewN ?_ _) | (with_reducible refine Grew.drew ?_)))))).mono ?_); (focus (first | assumption | (refine FS.ext ?_ _ _; assumption) | (refine IS.ext ?_ _ _; assumption) | (refine hDu _ ?_; assumption) | (refine hOu _ ?_; assumption) | (refine FW.fs ?_ (by omega) _; assumption) | (refine WS.fs ?_; assumption) | omega)); (focus (first | assumption | (refine FS.ext ?_ _ _; assumption) | (refine IS.ext ?_ _ _; assumption) | (refine hDu _ ?_; assumption) | (refine hOu _ ?_; assumption) | (refine FW.fs ?_ (by omega) _; assumption) | (refine WS.fs ?_; assumption) | omega)); rintro e w1 ⟨rfl, od, nd, rfl⟩)))
        go_ret
        exact ⟨ret_int q.out.symm, by (show Grew _ _; repeat (first | (with_reducible exact Grew.refl _) | (with_reducible assumption) | (with_reducible refine Grew.ext ?_ _ _) | (with_reducible refine Grew.alloc ?_ _) | ((with_reducible refine Grew.setCell ?_ ?_ _); rotate_left; (focus (dsimp only; first | omega | (simp only [size_ext, World.size_alloc, Array.size_append]; omega)))) | (with_reducible refine Grew.drewN ?_ _) | (with_reducible refine Grew.drew ?_)))⟩
    · obtain ⟨E, hEE⟩ : ∃ E, Hid (E = sqE k m x.n) := ⟨_, hid rfl⟩
      replace cS := cS E hEE.out.symm
      have d : (E != 0) = true := by rw [hEE.out]; simpa using h2
      have q := hid (show tsolveE k m x (decide (g = a)) = E by unfold tsolveE; rw [if_neg (by rw [h1]; simp), if_pos h2]; exact hEE.out.symm)
      clear hE h1 h2 cM hwm hwx
      go_enter Try.func79, Try.ntmps79
      refine seq_stop ?_
      go_wp2
      refine stop_go (fun W hW => ?_)
      have s1 : w.heap.size < W.heap.size := by rw [hW]; simp only [World.size_alloc]; omega
      have b1 : ∀ i, W.cell? ⟨w.heap.size, i, none⟩ = (#[.slice (some ⟨a, 0, none⟩) m.ws.length ca, .int .i64 m.off, .int .i64 m.rows, .int .i64 m.cols, .int .i64 m.ld] : Array Value)[i]? := by intro i; rw [hW]; go_simp
      have s2 : w.heap.size + 1 < W.heap.size := by rw [hW]; simp only [World.size_alloc]; omega
      have b2 : ∀ i, W.cell? ⟨w.heap.size + 1, i, none⟩ = (#[.slice (some ⟨g, 0, none⟩) x.ws.length cg, .int .i64 x.off, .int .i64 x.n, .int .i64 x.inc] : Array Value)[i]? := by intro i; rw [hW]; go_simp
      have g0 : Grew w W := by rw [hW]; exact ((Grew.refl _).alloc _).alloc _
      clear hW
      have hDW := hD.grew g0
      have hXW := hX.grew g0
      go_wp2_with (first | (go_at_call 135; ((with_reducible refine (cR _ ?_).mono ?_); (focus (first | assumption | (refine FS.ext ?_ _ _; assumption) | (refine IS.ext ?_ _ _; assumption) | (refine hDu _ ?_; assumption) | (refine hOu _ ?_; assumption) | (refine FW.fs ?_ (by omega) _; assumption) | (refine WS.fs ?_; assumption) | omega)); rintro e w1 ⟨rfl, oa, na, rfl⟩)) | (go_at_call 151; ((with_reducible refine (cS _ ?_).mono ?_); (focus (first | assumption | (refine FS.ext ?_ _ _; assumption) | (refine IS.ext ?_ _ _; assumption) | (refine hDu _ ?_; assumption) | (refine hOu _ ?_; assumption) | (refine FW.fs ?_ (by omega) _; assumption) | (refine WS.fs ?_; assumption) | omega)); rintro e w1 ⟨rfl, ob, nb, rfl⟩)))
      go_ret
      exact ⟨ret_int q.out.symm, by (show Grew _ _; repeat (first | (with_reducible exact Grew.refl _) | (with_reducible assumption) | (with_reducible refine Grew.ext ?_ _ _) | (with_reducible refine Grew.alloc ?_ _) | ((with_reducible refine Grew.setCell ?_ ?_ _); rotate_left; (focus (dsimp only; first | omega | (simp only [size_ext, World.size_alloc, Array.size_append]; omega)))) | (with_reducible refine Grew.drewN ?_ _) | (with_reducible refine Grew.drew ?_)))⟩
/-- trsv.Solve. -/
theorem tsolve_any (k : Int) (m : MatM) (x : VecM) (a g ca cg : Nat) (w : World) (hD : FS w (.slice (some ⟨a, 0, none⟩) m.ws.length ca) m.ws) (hF : FW w g x.ws) (hPa : Plain w a) (hag : g = a → m.ws = x.ws) (hwm : m.wf) (hwx : x.wf)
    (hr : m.rows ≤ 1000) (hlm : m.ws.length ≤ 1000000) (hlx : x.ws.length ≤ 1000000) :
   Calls Try.prog 79 #[.int .i64 k, .agg #[.slice (some ⟨a, 0, none⟩) m.ws.length ca, .int .i64 m.off, .int .i64 m.rows, .int .i64 m.cols, .int .i64 m.ld], .agg #[.slice (some ⟨g, 0, none⟩) x.ws.length cg, .int .i64 x.off, .int .i64 x.n, .int .i64 x.inc]] w
     (fun e w' => e = .returned (.int .i64 (tsolveE k m x (decide (g = a)))) ∧ But w [g] w' ∧ FW w' g (tsolveL k m x (decide (g = a)))) := by
  by_cases hE : tsolveE k m x (decide (g = a)) = 0
  · obtain ⟨hx, hsq, hmeet, hz⟩ := tsolveE_zero hE
    obtain ⟨k1, k4, hm, hrc, hn⟩ := sqE_zero hsq
    have hat : ∀ w' L s, But w [g] w' → FW w' g L → VH x L s → ∀ i j : Nat, (i : Int) < m.rows → (j : Int) < m.rows → Calls Try.prog 155 #[.agg #[.slice (some ⟨a, 0, none⟩) m.ws.length ca, .int .i64 m.off, .int .i64 m.rows, .int .i64 m.cols, .int .i64 m.ld, .slice (some ⟨g, 0, none⟩) x.ws.length cg, .int .i64 x.off, .int .i64 x.n, .int .i64 x.inc], .int .i64 i, .int .i64 j] w'
        (fun e w2 => ∃ r, e = .returned (.float .f64 r) ∧ IsF r (m.num i j) ∧ ∃ o n, w2 = ext w' o n) := by
      intro w' L s hB hL hV i j hi hj
      by_cases hga : g = a
      · have hws := hag hga
        rw [show decide (g = a) = true by simpa using hga] at hmeet
        have hlen : L.length = m.ws.length := by rw [hV.len, hws]
        have hfs := hL.fs (by rw [hlen]; omega) ca
        rw [hlen, hga] at hfs
        have h := tat_any (withL m L) (.slice (some ⟨a, 0, none⟩) m.ws.length ca) (.slice (some ⟨g, 0, none⟩) x.ws.length cg) x.off x.n x.inc i j w' hfs (by rw [withL_good hlen]; exact hm) hi (by show (j : Int) < m.cols; omega) (by show L.length ≤ _; omega)
        have e : (withL m L).num i j = m.num i j := by
          show L.getD (m.place i j) 0 = m.ws.getD (m.place i j) 0
          rw [hV.rest _ (fun r hr => meet_no hx hm hmeet hr hi (by omega)), hws]
        rw [e] at h
        exact h
      · have hfs := hB.fs_ne hD (fun e => hga e.symm)
        exact tat_any m _ _ _ _ _ i j w' hfs hm hi (by omega) hlm
    have eL : tsolveL k m x (decide (g = a)) = VecMwrite x ((List.range x.n.toNat).map (solveF m.num x.n.toNat k x.num)) := by unfold tsolveL; rw [if_pos hE]
    rw [hE, eL]
    obtain rfl | rfl | rfl | rfl : k = 1 ∨ k = 2 ∨ k = 3 ∨ k = 4 := by omega
    · exact solve_1 m x a g ca cg w hD hF hPa hm hx hwm hwx hrc hn hr hlm hlx hmeet hz hat
    · exact solve_2 m x a g ca cg w hD hF hPa hm hx hwm hwx hrc hn hr hlm hlx hmeet hz hat
    · exact solve_3 m x a g ca cg w hD hF hPa hm hx hwm hwx hrc hn hr hlm hlx hmeet hz hat
    · exact solve_4 m x a g ca cg w hD hF hPa hm hx hwm hwx hrc hn hr hlm hlx hmeet hz hat
  · have h := solve_out k m x a g ca cg w hD (hF.fs (by omega) cg) hPa (FW.plain hF) hwm hwx hr hlm hlx hE
    have eL : tsolveL k m x (decide (g = a)) = x.ws := by unfold tsolveL; rw [if_neg hE]
    rw [eL]
    exact h.mono fun e w' hh => ⟨hh.1, (But.refl w [g]).grew hh.2, hF.grew hh.2⟩
end Go.Proofs.Ytcmggfpcbijcjaa
