/-
  Texts laid one behind the other (a claim has at most 60 files): Trsv8, Vecs, LawSums, Dense, Aw09, Cpy, Ger1, Gemv1, Gemv2.
-/
import Derived.Laws.CopyOwn
import Derived.Test.YtcmggfpcbijcjaaQTrsvBackward1
import Derived.Test.YtcmggfpcbijcjaaQTrsvBackward2
import Derived.Test.YtcmggfpcbijcjaaQTrsvBackward3
import Derived.Test.YtcmggfpcbijcjaaQTrsvBackward4
section
/-
  Contract: trsv.Solve, all its ways out.
-/
set_option linter.unusedSimpArgs false
set_option linter.unusedVariables false
open Go Go.RowKit Sedge
namespace Go.Proofs.Ytcmggfpcbijcjaa
def tsolveE (k : Int) (m : MatM) (x : VecM) (one : Bool) : Int :=
  if x.right = false then 1 else if sqE k m x.n ≠ 0 then sqE k m x.n else if meetM (rowM x) m one = true then 2 else if zeroTo k m m.rows.toNat = true then 4 else 0
def tsolveL (k : Int) (m : MatM) (x : VecM) (one : Bool) : List Nat := if tsolveE k m x one = 0 then VecMwrite x ((List.range x.n.toNat).map (solveF m.num x.n.toNat k x.num)) else x.ws
theorem sqE_zero {k : Int} {m : MatM} {n : Int} (h : sqE k m n = 0) : 1 ≤ k ∧ k ≤ 4 ∧ m.good = true ∧ m.rows = m.cols ∧ m.rows = n := by
  unfold sqE at h
  split at h
  · cases h
  · rename_i h1
    simp only [not_or, Bool.not_eq_false] at h1
    split at h
    · rename_i h2
      exact ⟨by omega, by omega, h1.2.2, h2.1, h2.2⟩
    · cases h
theorem tsolveE_zero {k : Int} {m : MatM} {x : VecM} {one : Bool} (h : tsolveE k m x one = 0) : x.right = true ∧ sqE k m x.n = 0 ∧ meetM (rowM x) m one = false ∧ zeroTo k m m.rows.toNat = false := by
  unfold tsolveE at h
  split at h
  · cases h
  · rename_i h1
    split at h
    · rename_i h2; exact absurd h h2
    · rename_i h2
      split at h
      · cases h
      · rename_i h3
        split at h
        · cases h
        · rename_i h4
          simp only [Bool.not_eq_false, Bool.not_eq_true, Decidable.not_not, ne_eq] at h1 h2 h3 h4
          exact ⟨h1, h2, h3, h4⟩
set_option maxRecDepth 100000 in
set_option maxHeartbeats 2000000 in
theorem solve_out (k : Int) (m : MatM) (x : VecM) (a g ca cg : Nat) (w : World) (hD : FS w (.slice (some ⟨a, 0, none⟩) m.ws.length ca) m.ws) (hX : FS w (.slice (some ⟨g, 0, none⟩) x.ws.length cg) x.ws) (hPa : Plain w a) (hPg : Plain w g) (hwm : m.wf) (hwx : x.wf)
    (hr : m.rows ≤ 1000) (hlm : m.ws.length ≤ 1000000) (hlx : x.ws.length ≤ 1000000) (hE : tsolveE k m x (decide (g = a)) ≠ 0) :
   Calls Try.prog 79 #[.int .i64 k, .agg #[.slice (some ⟨a, 0, none⟩) m.ws.length ca, .int .i64 m.off, .int .i64 m.rows, .int .i64 m.cols, .int .i64 m.ld], .agg #[.slice (some ⟨g, 0, none⟩) x.ws.length cg, .int .i64 x.off, .int .i64 x.n, .int .i64 x.inc]] w
     (fun e w' => e = .returned (.int .i64 (tsolveE k m x (decide (g = a)))) ∧ ∃ o n, w' = ext w o n) := by
  have cR : ∀ b, x.right = b → ∀ w', FS w' (.slice (some ⟨g, 0, none⟩) x.ws.length cg) x.ws → Calls Try.prog 135 #[.agg #[.slice (some ⟨g, 0, none⟩) x.ws.length cg, .int .i64 x.off, .int .i64 x.n, .int .i64 x.inc]] w' (fun e w2 => e = .returned (.bool b) ∧ ∃ o n, w2 = ext w' o n) := fun b hb w' h => by
    have := right_any x _ w' h hwx; rw [hb] at this; exact this
  have cS : ∀ E, sqE k m x.n = E → ∀ w', FS w' (.slice (some ⟨a, 0, none⟩) m.ws.length ca) m.ws → Calls Try.prog 151 #[.int .i64 k, .agg #[.slice (some ⟨a, 0, none⟩) m.ws.length ca, .int .i64 m.off, .int .i64 m.rows, .int .i64 m.cols, .int .i64 m.ld], .int .i64 x.n] w' (fun e w2 => e = .returned (.int .i64 E) ∧ ∃ o n, w2 = ext w' o n) := fun E hE w' h => by
    have := square_any k m _ x.n w' h hwm
    rw [hE] at this
    exact this
  have cM : ∀ b, meetM (rowM x) m (decide (g = a)) = b → ∀ w', FS w' (.slice (some ⟨g, 0, none⟩) x.ws.length cg) x.ws → FS w' (.slice (some ⟨a, 0, none⟩) m.ws.length ca) m.ws → Plain w' g → Plain w' a → Calls Try.prog 136 #[.agg #[.slice (some ⟨g, 0, none⟩) x.ws.length cg, .int .i64 x.off, .int .i64 1, .int .i64 x.n, .int .i64 x.inc], .agg #[.slice (some ⟨a, 0, none⟩) m.ws.length ca, .int .i64 m.off, .int .i64 m.rows, .int .i64 m.cols, .int .i64 m.ld]] w' (fun e w2 => e = .returned (.bool b) ∧ ∃ o n, w2 = ext w' o n) := fun b hb w' h1 h2 p1 p2 => by
    have := meetM_any (rowM x) m g a cg ca w' h1 h2 p1 p2 (rowM_wf hwx) hwm hlx hlm
    rw [hb] at this; exact this
  cases h1 : x.right
  · have q := hid (show tsolveE k m x (decide (g = a)) = 1 by unfold tsolveE; rw [if_pos h1])
    replace cR := cR _ h1
    clear hE h1 cS cM hwm hwx
    go_enter Try.func79, Try.ntmps79
    refine seq_stop ?_
    go_wp2
    refine stop_go (fun W hW => ?_)
    have s1 : w.heap.size < W.heap.size := by rw [hW]; simp only [World.size_alloc]; omega
    have b1 : ∀ i, W.cell? ⟨w.heap.size, i, none⟩ = (#[.slice (some ⟨a, 0, none⟩) m.ws.length ca, .int .i64 m.off, .int .i64 m.rows, .int .i64 m.cols, .int .i64 m.ld] : Array Value)[i]? := by intro i; rw [hW]; go_simp
    have s2 : w.heap.size + 1 < W.heap.size := by rw [hW]; simp only [World.size_alloc]; omega
    have b2 : ∀ i, W.cell? ⟨w.heap.size + 1, i, none⟩ = (#[.slice (some ⟨g, 0, none⟩) x.ws.length cg, .int .i64 x.off, .int .i64 x.n, .int .i64 x.inc] : Array Value)[i]? := by intro i; rw [hW]; go_simp
    have g0 : Grew w W := by rw [hW]; exact ((Grew.refl _).alloc _).alloc _
    clear hW
    have hDW := hD.grew g0
    have hXW := hX.grew g0
    go_wp2_with (first | (go_at_call 135; ((with_reducible refine (cR _ ?_).mono ?_); (focus (first | (with_reducible assumption) | (with_reducible refine FS.ext ?_ _ _; with_reducible assumption) | (with_reducible refine IS.ext ?_ _ _; with_reducible assumption) | (refine hDu _ ?_; with_reducible assumption) | (refine hOu _ ?_; with_reducible assumption) | (refine hDa _ ?_; with_reducible assumption) | (refine hDb _ ?_; with_reducible assumption) | (refine hDc _ ?_; with_reducible assumption) | (refine hDd _ ?_; with_reducible assumption) | (refine FW.fs ?_ (by omega) _; with_reducible assumption) | (refine WS.fs ?_; with_reducible assumption) | (refine FW.fs ?_ (by omega) _; assumption) | omega | assumption)); rintro e w1 ⟨rfl, oa, na, rfl⟩)) | (go_at_call 151; ((with_reducible refine (cS _ ?_).mono ?_); (focus (first | (with_reducible assumption) | (with_reducible refine FS.ext ?_ _ _; with_reducible assumption) | (with_reducible refine IS.ext ?_ _ _; with_reducible assumption) | (refine hDu _ ?_; with_reducible assumption) | (refine hOu _ ?_; with_reducible assumption) | (refine hDa _ ?_; with_reducible assumption) | (refine hDb _ ?_; with_reducible assumption) | (refine hDc _ ?_; with_reducible assumption) | (refine hDd _ ?_; with_reducible assumption) | (refine FW.fs ?_ (by omega) _; with_reducible assumption) | (refine WS.fs ?_; with_reducible assumption) | (refine FW.fs ?_ (by omega) _; assumption) | omega | assumption)); rintro e w1 ⟨rfl, ob, nb, rfl⟩)))
    go_ret
    exact ⟨ret_int q.out.symm, by (show Grew _ _; repeat (first | (with_reducible exact Grew.refl _) | (with_reducible assumption) | (with_reducible exact Grew.same_o) | (with_reducible exact Grew.app_o) | (with_reducible refine Grew.ext ?_ _ _) | (with_reducible refine Grew.alloc ?_ _) | ((with_reducible refine Grew.setCell ?_ ?_ _); rotate_left; (focus (dsimp only; first | omega | (simp only [size_ext, World.size_alloc, Array.size_append]; omega)))) | (with_reducible refine Grew.drewN ?_ _) | (with_reducible refine Grew.drew ?_)))⟩
  · replace cR := cR _ h1
    by_cases h2 : sqE k m x.n = 0
    · have hs := sqE_zero h2
      replace cS := cS _ h2
      cases h3 : meetM (rowM x) m (decide (g = a))
      · replace cM := cM _ h3
        have h4 : zeroTo k m m.rows.toNat = true := by
          unfold tsolveE at hE
          rw [if_neg (by rw [h1]; simp), if_neg (by rw [h2]; simp), if_neg (by rw [h3]; simp)] at hE
          cases h : zeroTo k m m.rows.toNat
          · rw [h] at hE; exact absurd rfl hE
          · rfl
        have q := hid (show tsolveE k m x (decide (g = a)) = 4 by unfold tsolveE; rw [if_neg (by rw [h1]; simp), if_neg (by rw [h2]; simp), if_neg (by rw [h3]; simp), if_pos h4])
        have cZ : ∀ w', FS w' (.slice (some ⟨a, 0, none⟩) m.ws.length ca) m.ws → Calls Try.prog 153 #[.int .i64 k, .agg #[.slice (some ⟨a, 0, none⟩) m.ws.length ca, .int .i64 m.off, .int .i64 m.rows, .int .i64 m.cols, .int .i64 m.ld]] w' (fun e w2 => e = .returned (.bool true) ∧ ∃ o n, w2 = ext w' o n) := fun w' h => by
          have := zero_any k m _ w' h hs.2.2.1 hwm hs.2.2.2.1 hr hlm; rw [h4] at this; exact this
        clear hE h1 h2 h3 h4 hs hwm hwx
        go_enter Try.func79, Try.ntmps79
        refine seq_stop ?_
        go_wp2
        refine stop_go (fun W hW => ?_)
        have s1 : w.heap.size < W.heap.size := by rw [hW]; simp only [World.size_alloc]; omega
        have b1 : ∀ i, W.cell? ⟨w.heap.size, i, none⟩ = (#[.slice (some ⟨a, 0, none⟩) m.ws.length ca, .int .i64 m.off, .int .i64 m.rows, .int .i64 m.cols, .int .i64 m.ld] : Array Value)[i]? := by intro i; rw [hW]; go_simp
        have s2 : w.heap.size + 1 < W.heap.size := by rw [hW]; simp only [World.size_alloc]; omega
        have b2 : ∀ i, W.cell? ⟨w.heap.size + 1, i, none⟩ = (#[.slice (some ⟨g, 0, none⟩) x.ws.length cg, .int .i64 x.off, .int .i64 x.n, .int .i64 x.inc] : Array Value)[i]? := by intro i; rw [hW]; go_simp
        have g0 : Grew w W := by rw [hW]; exact ((Grew.refl _).alloc _).alloc _
        clear hW
        have hDW := hD.grew g0
        have hXW := hX.grew g0
        go_wp2_with (first | (go_at_call 135; ((with_reducible refine (cR _ ?_).mono ?_); (focus (first | (with_reducible assumption) | (with_reducible refine FS.ext ?_ _ _; with_reducible assumption) | (with_reducible refine IS.ext ?_ _ _; with_reducible assumption) | (refine hDu _ ?_; with_reducible assumption) | (refine hOu _ ?_; with_reducible assumption) | (refine hDa _ ?_; with_reducible assumption) | (refine hDb _ ?_; with_reducible assumption) | (refine hDc _ ?_; with_reducible assumption) | (refine hDd _ ?_; with_reducible assumption) | (refine FW.fs ?_ (by omega) _; with_reducible assumption) | (refine WS.fs ?_; with_reducible assumption) | (refine FW.fs ?_ (by omega) _; assumption) | omega | assumption)); rintro e w1 ⟨rfl, oa, na, rfl⟩)) | (go_at_call 151; ((with_reducible refine (cS _ ?_).mono ?_); (focus (first | (with_reducible assumption) | (with_reducible refine FS.ext ?_ _ _; with_reducible assumption) | (with_reducible refine IS.ext ?_ _ _; with_reducible assumption) | (refine hDu _ ?_; with_reducible assumption) | (refine hOu _ ?_; with_reducible assumption) | (refine hDa _ ?_; with_reducible assumption) | (refine hDb _ ?_; with_reducible assumption) | (refine hDc _ ?_; with_reducible assumption) | (refine hDd _ ?_; with_reducible assumption) | (refine FW.fs ?_ (by omega) _; with_reducible assumption) | (refine WS.fs ?_; with_reducible assumption) | (refine FW.fs ?_ (by omega) _; assumption) | omega | assumption)); rintro e w1 ⟨rfl, ob, nb, rfl⟩)))
        refine wp_region_R (Grew W) [] [(0,0), (0,2), (1,1), (1,3), (0,4)] (by kernel_rfl) (by kernel_rfl) (fun _ _ _ _ h _ => h) (by first | exact ⟨_, _, ext_drew⟩ | exact ⟨_, _, drew_ext0⟩ | (show Grew _ _; repeat (first | (with_reducible exact Grew.refl _) | (with_reducible assumption) | (with_reducible exact Grew.same_o) | (with_reducible exact Grew.app_o) | (with_reducible refine Grew.ext ?_ _ _) | (with_reducible refine Grew.alloc ?_ _) | ((with_reducible refine Grew.setCell ?_ ?_ _); rotate_left; (focus (dsimp only; first | omega | (simp only [size_ext, World.size_alloc, Array.size_append]; omega)))) | (with_reducible refine Grew.drewN ?_ _) | (with_reducible refine Grew.drew ?_)))) ?_
        go_wp2_with (first | ((with_reducible refine wpR_id ?_); first | (refine wpR_take (v := ?_) rfl rfl ?_ ?_; rotate_left; (focus (rintro w' ⟨o', n', rfl⟩; go_simp; try with_reducible rfl)); simp only [Act.put, List.setIfInBounds_toArray, List.set_cons_zero, List.set_cons_succ]) | (refine wpR_pure (v := ?_) rfl rfl ?_ ?_; rotate_left; (focus (intro w'; go_simp; try with_reducible rfl)); simp only [Act.put, List.setIfInBounds_toArray, List.set_cons_zero, List.set_cons_succ]) | (refine wpR_takeG (v := ?_) rfl rfl rfl rfl rfl ?_ ?_; rotate_left; (focus (rintro w' ⟨o', n', rfl⟩; go_simp; try with_reducible rfl)); simp only [Act.put, List.setIfInBounds_toArray, List.set_cons_zero, List.set_cons_succ]) | (refine wpR_skip rfl rfl rfl rfl rfl rfl ?_; simp only [Act.put, List.setIfInBounds_toArray, List.set_cons_zero, List.set_cons_succ]) | (refine wpR_skipU rfl rfl rfl rfl rfl ?_; simp only [Act.put, List.setIfInBounds_toArray, List.set_cons_zero, List.set_cons_succ]) | (refine wpR_do rfl rfl (fun K hK => ?_)) | (refine wpR_doG rfl rfl rfl rfl rfl (fun K hK => ?_)) | (refine wpR_last rfl rfl (fun K hK => ?_)) | (refine wpR_nil ?_)) | ((with_reducible refine wpR_go ?_ ?_); (focus exact ⟨_, _, rfl⟩)) | ((with_reducible refine upon_id ?_); refine upon_fop rfl (by assumption) (by assumption) ?_; intro rr nn hr) | (go_at_call 152; ((with_reducible refine (trow_any x _ _ _ _).mono ?_); rintro e w1 ⟨rfl, oc, nc, rfl⟩)) | (go_at_call 136; ((with_reducible refine (cM _ ?_ ?_ (hPg.grew (by (show Grew _ _; repeat (first | (with_reducible exact Grew.refl _) | (with_reducible assumption) | (with_reducible exact Grew.same_o) | (with_reducible exact Grew.app_o) | (with_reducible refine Grew.ext ?_ _ _) | (with_reducible refine Grew.alloc ?_ _) | ((with_reducible refine Grew.setCell ?_ ?_ _); rotate_left; (focus (dsimp only; first | omega | (simp only [size_ext, World.size_alloc, Array.size_append]; omega)))) | (with_reducible refine Grew.drewN ?_ _) | (with_reducible refine Grew.drew ?_))))) (hPa.grew (by (show Grew _ _; repeat (first | (with_reducible exact Grew.refl _) | (with_reducible assumption) | (with_reducible exact Grew.same_o) | (with_reducible exact Grew.app_o) | (with_reducible refine Grew.ext ?_ _ _) | (with_reducible refine Grew.alloc ?_ _) | ((with_reducible refine Grew.setCell ?_ ?_ _); rotate_left; (focus (dsimp only; first | omega | (simp only [size_ext, World.size_alloc, Array.size_append]; omega)))) | (with_reducible refine Grew.drewN ?_ _) | (with_reducible refine Grew.drew ?_)))))).mono ?_); (focus (first | (with_reducible assumption) | (with_reducible refine FS.ext ?_ _ _; with_reducible assumption) | (with_reducible refine IS.ext ?_ _ _; with_reducible assumption) | (refine hDu _ ?_; with_reducible assumption) | (refine hOu _ ?_; with_reducible assumption) | (refine hDa _ ?_; with_reducible assumption) | (refine hDb _ ?_; with_reducible assumption) | (refine hDc _ ?_; with_reducible assumption) | (refine hDd _ ?_; with_reducible assumption) | (refine FW.fs ?_ (by omega) _; with_reducible assumption) | (refine WS.fs ?_; with_reducible assumption) | (refine FW.fs ?_ (by omega) _; assumption) | omega | assumption)); (focus (first | (with_reducible assumption) | (with_reducible refine FS.ext ?_ _ _; with_reducible assumption) | (with_reducible refine IS.ext ?_ _ _; with_reducible assumption) | (refine hDu _ ?_; with_reducible assumption) | (refine hOu _ ?_; with_reducible assumption) | (refine hDa _ ?_; with_reducible assumption) | (refine hDb _ ?_; with_reducible assumption) | (refine hDc _ ?_; with_reducible assumption) | (refine hDd _ ?_; with_reducible assumption) | (refine FW.fs ?_ (by omega) _; with_reducible assumption) | (refine WS.fs ?_; with_reducible assumption) | (refine FW.fs ?_ (by omega) _; assumption) | omega | assumption)); rintro e w1 ⟨rfl, od, nd, rfl⟩)) | (go_at_call 153; ((with_reducible refine (cZ _ ?_).mono ?_); (focus (first | (with_reducible assumption) | (with_reducible refine FS.ext ?_ _ _; with_reducible assumption) | (with_reducible refine IS.ext ?_ _ _; with_reducible assumption) | (refine hDu _ ?_; with_reducible assumption) | (refine hOu _ ?_; with_reducible assumption) | (refine hDa _ ?_; with_reducible assumption) | (refine hDb _ ?_; with_reducible assumption) | (refine hDc _ ?_; with_reducible assumption) | (refine hDd _ ?_; with_reducible assumption) | (refine FW.fs ?_ (by omega) _; with_reducible assumption) | (refine WS.fs ?_; with_reducible assumption) | (refine FW.fs ?_ (by omega) _; assumption) | omega | assumption)); rintro e w1 ⟨rfl, oe, ne, rfl⟩)))
        go_ret
        exact ⟨ret_int q.out.symm, by (show Grew _ _; repeat (first | (with_reducible exact Grew.refl _) | (with_reducible assumption) | (with_reducible exact Grew.same_o) | (with_reducible exact Grew.app_o) | (with_reducible refine Grew.ext ?_ _ _) | (with_reducible refine Grew.alloc ?_ _) | ((with_reducible refine Grew.setCell ?_ ?_ _); rotate_left; (focus (dsimp only; first | omega | (simp only [size_ext, World.size_alloc, Array.size_append]; omega)))) | (with_reducible refine Grew.drewN ?_ _) | (with_reducible refine Grew.drew ?_)))⟩
      · replace cM := cM _ h3
        have q := hid (show tsolveE k m x (decide (g = a)) = 2 by unfold tsolveE; rw [if_neg (by rw [h1]; simp), if_neg (by rw [h2]; simp), if_pos h3])
        clear hE h1 h2 h3 hs hwm hwx
        go_enter Try.func79, Try.ntmps79
        refine seq_stop ?_
        go_wp2
        refine stop_go (fun W hW => ?_)
        have s1 : w.heap.size < W.heap.size := by rw [hW]; simp only [World.size_alloc]; omega
        have b1 : ∀ i, W.cell? ⟨w.heap.size, i, none⟩ = (#[.slice (some ⟨a, 0, none⟩) m.ws.length ca, .int .i64 m.off, .int .i64 m.rows, .int .i64 m.cols, .int .i64 m.ld] : Array Value)[i]? := by intro i; rw [hW]; go_simp
        have s2 : w.heap.size + 1 < W.heap.size := by rw [hW]; simp only [World.size_alloc]; omega
        have b2 : ∀ i, W.cell? ⟨w.heap.size + 1, i, none⟩ = (#[.slice (some ⟨g, 0, none⟩) x.ws.length cg, .int .i64 x.off, .int .i64 x.n, .int .i64 x.inc] : Array Value)[i]? := by intro i; rw [hW]; go_simp
        have g0 : Grew w W := by rw [hW]; exact ((Grew.refl _).alloc _).alloc _
        clear hW
        have hDW := hD.grew g0
        have hXW := hX.grew g0
        go_wp2_with (first | (go_at_call 135; ((with_reducible refine (cR _ ?_).mono ?_); (focus (first | (with_reducible assumption) | (with_reducible refine FS.ext ?_ _ _; with_reducible assumption) | (with_reducible refine IS.ext ?_ _ _; with_reducible assumption) | (refine hDu _ ?_; with_reducible assumption) | (refine hOu _ ?_; with_reducible assumption) | (refine hDa _ ?_; with_reducible assumption) | (refine hDb _ ?_; with_reducible assumption) | (refine hDc _ ?_; with_reducible assumption) | (refine hDd _ ?_; with_reducible assumption) | (refine FW.fs ?_ (by omega) _; with_reducible assumption) | (refine WS.fs ?_; with_reducible assumption) | (refine FW.fs ?_ (by omega) _; assumption) | omega | assumption)); rintro e w1 ⟨rfl, oa, na, rfl⟩)) | (go_at_call 151; ((with_reducible refine (cS _ ?_).mono ?_); (focus (first | (with_reducible assumption) | (with_reducible refine FS.ext ?_ _ _; with_reducible assumption) | (with_reducible refine IS.ext ?_ _ _; with_reducible assumption) | (refine hDu _ ?_; with_reducible assumption) | (refine hOu _ ?_; with_reducible assumption) | (refine hDa _ ?_; with_reducible assumption) | (refine hDb _ ?_; with_reducible assumption) | (refine hDc _ ?_; with_reducible assumption) | (refine hDd _ ?_; with_reducible assumption) | (refine FW.fs ?_ (by omega) _; with_reducible assumption) | (refine WS.fs ?_; with_reducible assumption) | (refine FW.fs ?_ (by omega) _; assumption) | omega | assumption)); rintro e w1 ⟨rfl, ob, nb, rfl⟩)))
        refine wp_region_R (Grew W) [] [(0,0), (0,2), (1,1), (1,3), (0,4)] (by kernel_rfl) (by kernel_rfl) (fun _ _ _ _ h _ => h) (by first | exact ⟨_, _, ext_drew⟩ | exact ⟨_, _, drew_ext0⟩ | (show Grew _ _; repeat (first | (with_reducible exact Grew.refl _) | (with_reducible assumption) | (with_reducible exact Grew.same_o) | (with_reducible exact Grew.app_o) | (with_reducible refine Grew.ext ?_ _ _) | (with_reducible refine Grew.alloc ?_ _) | ((with_reducible refine Grew.setCell ?_ ?_ _); rotate_left; (focus (dsimp only; first | omega | (simp only [size_ext, World.size_alloc, Array.size_append]; omega)))) | (with_reducible refine Grew.drewN ?_ _) | (with_reducible refine Grew.drew ?_)))) ?_
        go_wp2_with (first | ((with_reducible refine wpR_id ?_); first | (refine wpR_take (v := ?_) rfl rfl ?_ ?_; rotate_left; (focus (rintro w' ⟨o', n', rfl⟩; go_simp; try with_reducible rfl)); simp only [Act.put, List.setIfInBounds_toArray, List.set_cons_zero, List.set_cons_succ]) | (refine wpR_pure (v := ?_) rfl rfl ?_ ?_; rotate_left; (focus (intro w'; go_simp; try with_reducible rfl)); simp only [Act.put, List.setIfInBounds_toArray, List.set_cons_zero, List.set_cons_succ]) | (refine wpR_takeG (v := ?_) rfl rfl rfl rfl rfl ?_ ?_; rotate_left; (focus (rintro w' ⟨o', n', rfl⟩; go_simp; try with_reducible rfl)); simp only [Act.put, List.setIfInBounds_toArray, List.set_cons_zero, List.set_cons_succ]) | (refine wpR_skip rfl rfl rfl rfl rfl rfl ?_; simp only [Act.put, List.setIfInBounds_toArray, List.set_cons_zero, List.set_cons_succ]) | (refine wpR_skipU rfl rfl rfl rfl rfl ?_; simp only [Act.put, List.setIfInBounds_toArray, List.set_cons_zero, List.set_cons_succ]) | (refine wpR_do rfl rfl (fun K hK => ?_)) | (refine wpR_doG rfl rfl rfl rfl rfl (fun K hK => ?_)) | (refine wpR_last rfl rfl (fun K hK => ?_)) | (refine wpR_nil ?_)) | ((with_reducible refine wpR_go ?_ ?_); (focus exact ⟨_, _, rfl⟩)) | ((with_reducible refine upon_id ?_); refine upon_fop rfl (by assumption) (by assumption) ?_; intro rr nn hr) | (go_at_call 152; ((with_reducible refine (trow_any x _ _ _ _).mono ?_); rintro e w1 ⟨rfl, oc, nc, rfl⟩)) | (go_at_call 136; ((with_reducible refine (cM _ ?_ ?_ (hPg.grew (by (show Grew _ _; repeat (first | (with_reducible exact Grew.refl _) | (with_reducible assumption) | (with_reducible exact Grew.same_o) | (with_reducible exact Grew.app_o) | (with_reducible refine Grew.ext ?_ _ _) | (with_reducible refine Grew.alloc ?_ _) | ((with_reducible refine Grew.setCell ?_ ?_ _); rotate_left; (focus (dsimp only; first | omega | (simp only [size_ext, World.size_alloc, Array.size_append]; omega)))) | (with_reducible refine Grew.drewN ?_ _) | (with_reducible refine Grew.drew ?_))))) (hPa.grew (by (show Grew _ _; repeat (first | (with_reducible exact Grew.refl _) | (with_reducible assumption) | (with_reducible exact Grew.same_o) | (with_reducible exact Grew.app_o) | (with_reducible refine Grew.ext ?_ _ _) | (with_reducible refine Grew.alloc ?_ _) | ((with_reducible refine Grew.setCell ?_ ?_ _); rotate_left; (focus (dsimp only; first | omega | (simp only [size_ext, World.size_alloc, Array.size_append]; omega)))) | (with_reducible refine Grew.drewN ?_ _) | (with_reducible refine Grew.drew ?_)))))).mono ?_); (focus (first | (with_reducible assumption) | (with_reducible refine FS.ext ?_ _ _; with_reducible assumption) | (with_reducible refine IS.ext ?_ _ _; with_reducible assumption) | (refine hDu _ ?_; with_reducible assumption) | (refine hOu _ ?_; with_reducible assumption) | (refine hDa _ ?_; with_reducible assumption) | (refine hDb _ ?_; with_reducible assumption) | (refine hDc _ ?_; with_reducible assumption) | (refine hDd _ ?_; with_reducible assumption) | (refine FW.fs ?_ (by omega) _; with_reducible assumption) | (refine WS.fs ?_; with_reducible assumption) | (refine FW.fs ?_ (by omega) _; assumption) | omega | assumption)); (focus (first | (with_reducible assumption) | (with_reducible refine FS.ext ?_ _ _; with_reducible assumption) | (with_reducible refine IS.ext ?_ _ _; with_reducible assumption) | (refine hDu _ ?_; with_reducible assumption) | (refine hOu _ ?_; with_reducible assumption) | (refine hDa _ ?_; with_reducible assumption) | (refine hDb _ ?_; with_reducible assumption) | (refine hDc _ ?_; with_reducible assumption) | (refine hDd _ ?_; with_reducible assumption) | (refine FW.fs ?_ (by omega) _; with_reducible assumption) | (refine WS.fs ?_; with_reducible assumption) | (refine FW.fs ?_ (by omega) _; assumption) | omega | assumption)); rintro e w1 ⟨rfl, od, nd, rfl⟩)))
        go_ret
        exact ⟨ret_int q.out.symm, by (show Grew _ _; repeat (first | (with_reducible exact Grew.refl _) | (with_reducible assumption) | (with_reducible exact Grew.same_o) | (with_reducible exact Grew.app_o) | (with_reducible refine Grew.ext ?_ _ _) | (with_reducible refine Grew.alloc ?_ _) | ((with_reducible refine Grew.setCell ?_ ?_ _); rotate_left; (focus (dsimp only; first | omega | (simp only [size_ext, World.size_alloc, Array.size_append]; omega)))) | (with_reducible refine Grew.drewN ?_ _) | (with_reducible refine Grew.drew ?_)))⟩
    · obtain ⟨E, hEE⟩ : ∃ E, Hid (E = sqE k m x.n) := ⟨_, hid rfl⟩
      replace cS := cS E hEE.out.symm
      have d : (E != 0) = true := by rw [hEE.out]; simpa using h2
      have q := hid (show tsolveE k m x (decide (g = a)) = E by unfold tsolveE; rw [if_neg (by rw [h1]; simp), if_pos h2]; exact hEE.out.symm)
      clear hE h1 h2 cM hwm hwx
      go_enter Try.func79, Try.ntmps79
      refine seq_stop ?_
      go_wp2
      refine stop_go (fun W hW => ?_)
      have s1 : w.heap.size < W.heap.size := by rw [hW]; simp only [World.size_alloc]; omega
      have b1 : ∀ i, W.cell? ⟨w.heap.size, i, none⟩ = (#[.slice (some ⟨a, 0, none⟩) m.ws.length ca, .int .i64 m.off, .int .i64 m.rows, .int .i64 m.cols, .int .i64 m.ld] : Array Value)[i]? := by intro i; rw [hW]; go_simp
      have s2 : w.heap.size + 1 < W.heap.size := by rw [hW]; simp only [World.size_alloc]; omega
      have b2 : ∀ i, W.cell? ⟨w.heap.size + 1, i, none⟩ = (#[.slice (some ⟨g, 0, none⟩) x.ws.length cg, .int .i64 x.off, .int .i64 x.n, .int .i64 x.inc] : Array Value)[i]? := by intro i; rw [hW]; go_simp
      have g0 : Grew w W := by rw [hW]; exact ((Grew.refl _).alloc _).alloc _
      clear hW
      have hDW := hD.grew g0
      have hXW := hX.grew g0
      go_wp2_with (first | (go_at_call 135; ((with_reducible refine (cR _ ?_).mono ?_); (focus (first | (with_reducible assumption) | (with_reducible refine FS.ext ?_ _ _; with_reducible assumption) | (with_reducible refine IS.ext ?_ _ _; with_reducible assumption) | (refine hDu _ ?_; with_reducible assumption) | (refine hOu _ ?_; with_reducible assumption) | (refine hDa _ ?_; with_reducible assumption) | (refine hDb _ ?_; with_reducible assumption) | (refine hDc _ ?_; with_reducible assumption) | (refine hDd _ ?_; with_reducible assumption) | (refine FW.fs ?_ (by omega) _; with_reducible assumption) | (refine WS.fs ?_; with_reducible assumption) | (refine FW.fs ?_ (by omega) _; assumption) | omega | assumption)); rintro e w1 ⟨rfl, oa, na, rfl⟩)) | (go_at_call 151; ((with_reducible refine (cS _ ?_).mono ?_); (focus (first | (with_reducible assumption) | (with_reducible refine FS.ext ?_ _ _; with_reducible assumption) | (with_reducible refine IS.ext ?_ _ _; with_reducible assumption) | (refine hDu _ ?_; with_reducible assumption) | (refine hOu _ ?_; with_reducible assumption) | (refine hDa _ ?_; with_reducible assumption) | (refine hDb _ ?_; with_reducible assumption) | (refine hDc _ ?_; with_reducible assumption) | (refine hDd _ ?_; with_reducible assumption) | (refine FW.fs ?_ (by omega) _; with_reducible assumption) | (refine WS.fs ?_; with_reducible assumption) | (refine FW.fs ?_ (by omega) _; assumption) | omega | assumption)); rintro e w1 ⟨rfl, ob, nb, rfl⟩)))
      go_ret
      exact ⟨ret_int q.out.symm, by (show Grew _ _; repeat (first | (with_reducible exact Grew.refl _) | (with_reducible assumption) | (with_reducible exact Grew.same_o) | (with_reducible exact Grew.app_o) | (with_reducible refine Grew.ext ?_ _ _) | (with_reducible refine Grew.alloc ?_ _) | ((with_reducible refine Grew.setCell ?_ ?_ _); rotate_left; (focus (dsimp only; first | omega | (simp only [size_ext, World.size_alloc, Array.size_append]; omega)))) | (with_reducible refine Grew.drewN ?_ _) | (with_reducible refine Grew.drew ?_)))⟩
/-- trsv.Solve. -/
theorem tsolve_any (k : Int) (m : MatM) (x : VecM) (a g ca cg : Nat) (w : World) (hD : FS w (.slice (some ⟨a, 0, none⟩) m.ws.length ca) m.ws) (hF : FW w g x.ws) (hPa : Plain w a) (hag : g = a → m.ws = x.ws) (hwm : m.wf) (hwx : x.wf)
    (hr : m.rows ≤ 1000) (hlm : m.ws.length ≤ 1000000) (hlx : x.ws.length ≤ 1000000) :
   Calls Try.prog 79 #[.int .i64 k, .agg #[.slice (some ⟨a, 0, none⟩) m.ws.length ca, .int .i64 m.off, .int .i64 m.rows, .int .i64 m.cols, .int .i64 m.ld], .agg #[.slice (some ⟨g, 0, none⟩) x.ws.length cg, .int .i64 x.off, .int .i64 x.n, .int .i64 x.inc]] w
     (fun e w' => e = .returned (.int .i64 (tsolveE k m x (decide (g = a)))) ∧ But w [g] w' ∧ FW w' g (tsolveL k m x (decide (g = a)))) := by
  by_cases hE : tsolveE k m x (decide (g = a)) = 0
  · obtain ⟨hx, hsq, hmeet, hz⟩ := tsolveE_zero hE
    obtain ⟨k1, k4, hm, hrc, hn⟩ := sqE_zero hsq
    have hat : ∀ w' L s, But w [g] w' → FW w' g L → VH x L s → ∀ i j : Nat, (i : Int) < m.rows → (j : Int) < m.rows → Calls Try.prog 155 #[.agg #[.slice (some ⟨a, 0, none⟩) m.ws.length ca, .int .i64 m.off, .int .i64 m.rows, .int .i64 m.cols, .int .i64 m.ld, .slice (some ⟨g, 0, none⟩) x.ws.length cg, .int .i64 x.off, .int .i64 x.n, .int .i64 x.inc], .int .i64 i, .int .i64 j] w'
        (fun e w2 => ∃ r, e = .returned (.float .f64 r) ∧ IsF r (m.num i j) ∧ ∃ o n, w2 = ext w' o n) := by
      intro w' L s hB hL hV i j hi hj
      by_cases hga : g = a
      · have hws := hag hga
        rw [show decide (g = a) = true by simpa using hga] at hmeet
        have hlen : L.length = m.ws.length := by rw [hV.len, hws]
        have hfs := hL.fs (by rw [hlen]; omega) ca
        rw [hlen, hga] at hfs
        have h := tat_any (withL m L) (.slice (some ⟨a, 0, none⟩) m.ws.length ca) (.slice (some ⟨g, 0, none⟩) x.ws.length cg) x.off x.n x.inc i j w' hfs (by rw [withL_good hlen]; exact hm) hi (by show (j : Int) < m.cols; omega) (by show L.length ≤ _; omega)
        have e : (withL m L).num i j = m.num i j := by
          show L.getD (m.place i j) 0 = m.ws.getD (m.place i j) 0
          rw [hV.rest _ (fun r hr => meet_no hx hm hmeet hr hi (by omega)), hws]
        rw [e] at h
        exact h
      · have hfs := hB.fs_ne hD (fun e => hga e.symm)
        exact tat_any m _ _ _ _ _ i j w' hfs hm hi (by omega) hlm
    have eL : tsolveL k m x (decide (g = a)) = VecMwrite x ((List.range x.n.toNat).map (solveF m.num x.n.toNat k x.num)) := by unfold tsolveL; rw [if_pos hE]
    rw [hE, eL]
    obtain rfl | rfl | rfl | rfl : k = 1 ∨ k = 2 ∨ k = 3 ∨ k = 4 := by omega
    · exact solve_1 m x a g ca cg w hD hF hPa hm hx hwm hwx hrc hn hr hlm hlx hmeet hz hat
    · exact solve_2 m x a g ca cg w hD hF hPa hm hx hwm hwx hrc hn hr hlm hlx hmeet hz hat
    · exact solve_3 m x a g ca cg w hD hF hPa hm hx hwm hwx hrc hn hr hlm hlx hmeet hz hat
    · exact solve_4 m x a g ca cg w hD hF hPa hm hx hwm hwx hrc hn hr hlm hlx hmeet hz hat
  · have h := solve_out k m x a g ca cg w hD (hF.fs (by omega) cg) hPa (FW.plain hF) hwm hwx hr hlm hlx hE
    have eL : tsolveL k m x (decide (g = a)) = x.ws := by unfold tsolveL; rw [if_neg hE]
    rw [eL]
    exact h.mono fun e w' hh => ⟨hh.1, (But.refl w [g]).grew hh.2, hF.grew hh.2⟩
end Go.Proofs.Ytcmggfpcbijcjaa
end
section
/-
  Contracts: a number of a vector, products of vectors, the place of the greatest (layer 5).
-/
set_option linter.unusedSimpArgs false
set_option linter.unusedVariables false
open Go Go.RowKit Sedge
namespace Go.Proofs.Ytcmggfpcbijcjaa
set_option maxHeartbeats 400000 in
theorem at_any (x : VecM) (D : Value) (i : Nat) (w : World) (hD : FS w D x.ws) (hr : x.right = true) (hi : (i : Int) < x.n) :
   Calls Try.prog 192 #[.agg #[D, .int .i64 x.off, .int .i64 x.n, .int .i64 x.inc], .int .i64 i] w (fun e w' => ∃ b, e = .returned (.float .f64 b) ∧ IsF b (x.num i) ∧ ∃ o n, w' = ext w o n) := by
  have hp := VecM.right_place hr hi
  have hn := VecM.right_n hr
  have hlen := hD.len
  obtain ⟨blk, o, cap, rfl, hlt, hc⟩ := hD.open (by omega)
  obtain ⟨b, hb, hf⟩ := hc (x.place i) (by unfold VecM.place; omega)
  unfold VecM.place at hb
  have h2 : IntKind.i64.wrap (i * x.inc) = i * x.inc := IntWalk.i64_in _ (by omega)
  have h3 : IntKind.i64.wrap (x.off + i * x.inc) = x.off + i * x.inc := IntWalk.i64_in _ (by omega)
  clear hc
  go_enter Try.func192, Try.ntmps192
  go_wp2
  go_ret
  exact ⟨b, rfl, hf, (Grew.refl _).alloc _⟩

/-- The sum of products, in its order. -/
def dotTo (x y : VecM) : Nat → Nat
  | 0 => 0
  | k + 1 => fadd (dotTo x y k) (fmul (x.num k) (y.num k))
set_option maxRecDepth 100000 in
set_option maxHeartbeats 1000000 in
theorem dot_ok (x y : VecM) (D E : Value) (w : World) (hD : FS w D x.ws) (hE : FS w E y.ws) (hxw : x.wf) (hyw : y.wf) (hx : x.right = true) (hy : y.right = true) (hn : x.n = y.n) :
   Calls Try.prog 128 #[.agg #[D, .int .i64 x.off, .int .i64 x.n, .int .i64 x.inc], .agg #[E, .int .i64 y.off, .int .i64 y.n, .int .i64 y.inc]] w
    (fun e w' => ∃ b, e = .returned (.tuple #[.float .f64 b, .int .i64 0]) ∧ IsF b (dotTo x y x.n.toNat) ∧ ∃ o n, w' = ext w o n) := by
  have hx0 : 0 ≤ x.n := by have := VecM.right_n hx; omega
  have hx1 : x.n ≤ 9223372036854775807 := by have := hxw.2.1.2; omega
  have k1 : (!x.right) = false := by simp [hx]
  have k2 : (!y.right) = false := by simp [hy]
  have k3 : (x.n != y.n) = false := by simp [hn]
  have Hx := hid hx
  have Hy := hid hy
  have Hn := hid hn
  have Hw1 := hid hxw
  have Hw2 := hid hyw
  clear hn hxw hyw hx hy
  go_enter Try.func128, Try.ntmps128
  refine seq_stop ?_
  go_wp2
  refine stop_go (fun W hW => ?_)
  have s1 : w.heap.size < W.heap.size := by rw [hW]; simp only [World.size_alloc]; omega
  have b1 : ∀ i, W.cell? ⟨w.heap.size, i, none⟩ = (#[D, .int .i64 x.off, .int .i64 x.n, .int .i64 x.inc] : Array Value)[i]? := by intro i; rw [hW]; go_simp
  have s2 : w.heap.size + 1 < W.heap.size := by rw [hW]; simp only [World.size_alloc]; omega
  have b2 : ∀ i, W.cell? ⟨w.heap.size + 1, i, none⟩ = (#[E, .int .i64 y.off, .int .i64 y.n, .int .i64 y.inc] : Array Value)[i]? := by intro i; rw [hW]; go_simp
  have g0 : Grew w W := by rw [hW]; exact ((Grew.refl _).alloc _).alloc _
  clear hW
  have hDW : FS W D x.ws := hD.grew g0
  have hEW : FS W E y.ws := hE.grew g0
  go_wp2_with (first | (go_at_call 135; ((with_reducible refine (right_any x D _ ?_ Hw1.out).mono ?_); (focus (first | (with_reducible assumption) | (with_reducible refine FS.ext ?_ _ _; with_reducible assumption) | (with_reducible refine IS.ext ?_ _ _; with_reducible assumption) | (refine hDu _ ?_; with_reducible assumption) | (refine hOu _ ?_; with_reducible assumption) | (refine hDa _ ?_; with_reducible assumption) | (refine hDb _ ?_; with_reducible assumption) | (refine hDc _ ?_; with_reducible assumption) | (refine hDd _ ?_; with_reducible assumption) | (refine FW.fs ?_ (by omega) _; with_reducible assumption) | (refine WS.fs ?_; with_reducible assumption) | (refine FW.fs ?_ (by omega) _; assumption) | omega | assumption)); rintro e w1 ⟨rfl, o1, n1, rfl⟩)) | (go_at_call 135; ((with_reducible refine (right_any y E _ ?_ Hw2.out).mono ?_); (focus (first | (with_reducible assumption) | (with_reducible refine FS.ext ?_ _ _; with_reducible assumption) | (with_reducible refine IS.ext ?_ _ _; with_reducible assumption) | (refine hDu _ ?_; with_reducible assumption) | (refine hOu _ ?_; with_reducible assumption) | (refine hDa _ ?_; with_reducible assumption) | (refine hDb _ ?_; with_reducible assumption) | (refine hDc _ ?_; with_reducible assumption) | (refine hDd _ ?_; with_reducible assumption) | (refine FW.fs ?_ (by omega) _; with_reducible assumption) | (refine WS.fs ?_; with_reducible assumption) | (refine FW.fs ?_ (by omega) _; assumption) | omega | assumption)); rintro e w1 ⟨rfl, o1, n1, rfl⟩)))
  go_loopw [6, 25] (fun s c wr => ∃ (j : Nat) (b : Nat), (j : Int) ≤ x.n ∧ c = .int .i64 j ∧ s = .float .f64 b ∧ IsF b (dotTo x y j) ∧
     ∃ o n, wr = ext W o n) (fun _ c _ => (x.n - intOf c).toNat)
  case atStart => exact ⟨0, 0, hx0, rfl, rfl, isF_zero, _, _, rfl⟩
  case round =>
    obtain ⟨j, b, hj, rfl, rfl, hb, o3, n3, hwr⟩ := hrel
    subst hwr
    by_cases hlt : (j : Int) < x.n
    · have hlt2 : (j : Int) < y.n := by have := Hn.out; omega
      go_wp2
      refine wp_region_R (Grew W) [] [(0,0), (0,1), (0,2), (0,4), (0,5), (1,3), (1,6), (1,7), (1,8), (0,9)] (by kernel_rfl) (by kernel_rfl) (fun _ _ _ _ h _ => h) (by first | exact ⟨_, _, ext_drew⟩ | exact ⟨_, _, drew_ext0⟩ | (show Grew _ _; repeat (first | (with_reducible exact Grew.refl _) | (with_reducible assumption) | (with_reducible exact Grew.same_o) | (with_reducible exact Grew.app_o) | (with_reducible refine Grew.ext ?_ _ _) | (with_reducible refine Grew.alloc ?_ _) | ((with_reducible refine Grew.setCell ?_ ?_ _); rotate_left; (focus (dsimp only; first | omega | (simp only [size_ext, World.size_alloc, Array.size_append]; omega)))) | (with_reducible refine Grew.drewN ?_ _) | (with_reducible refine Grew.drew ?_)))) ?_
      go_wp2_with (first | ((with_reducible refine wpR_id ?_); first | (refine wpR_take (v := ?_) rfl rfl ?_ ?_; rotate_left; (focus (rintro w' ⟨o', n', rfl⟩; go_simp; try with_reducible rfl)); simp only [Act.put, List.setIfInBounds_toArray, List.set_cons_zero, List.set_cons_succ]) | (refine wpR_pure (v := ?_) rfl rfl ?_ ?_; rotate_left; (focus (intro w'; go_simp; try with_reducible rfl)); simp only [Act.put, List.setIfInBounds_toArray, List.set_cons_zero, List.set_cons_succ]) | (refine wpR_takeG (v := ?_) rfl rfl rfl rfl rfl ?_ ?_; rotate_left; (focus (rintro w' ⟨o', n', rfl⟩; go_simp; try with_reducible rfl)); simp only [Act.put, List.setIfInBounds_toArray, List.set_cons_zero, List.set_cons_succ]) | (refine wpR_skip rfl rfl rfl rfl rfl rfl ?_; simp only [Act.put, List.setIfInBounds_toArray, List.set_cons_zero, List.set_cons_succ]) | (refine wpR_skipU rfl rfl rfl rfl rfl ?_; simp only [Act.put, List.setIfInBounds_toArray, List.set_cons_zero, List.set_cons_succ]) | (refine wpR_do rfl rfl (fun K hK => ?_)) | (refine wpR_doG rfl rfl rfl rfl rfl (fun K hK => ?_)) | (refine wpR_last rfl rfl (fun K hK => ?_)) | (refine wpR_nil ?_)) | ((with_reducible refine wpR_go ?_ ?_); (focus exact ⟨_, _, rfl⟩)) | ((with_reducible refine upon_id ?_); refine upon_fop rfl (by assumption) (by assumption) ?_; intro rr nn hr) | (go_at_call 192; ((with_reducible refine (at_any x D _ _ ?_ Hx.out hlt).mono ?_); (focus (first | (with_reducible assumption) | (with_reducible refine FS.ext ?_ _ _; with_reducible assumption) | (with_reducible refine IS.ext ?_ _ _; with_reducible assumption) | (refine hDu _ ?_; with_reducible assumption) | (refine hOu _ ?_; with_reducible assumption) | (refine hDa _ ?_; with_reducible assumption) | (refine hDb _ ?_; with_reducible assumption) | (refine hDc _ ?_; with_reducible assumption) | (refine hDd _ ?_; with_reducible assumption) | (refine FW.fs ?_ (by omega) _; with_reducible assumption) | (refine WS.fs ?_; with_reducible assumption) | (refine FW.fs ?_ (by omega) _; assumption) | omega | assumption)); rintro e w1 ⟨bx, rfl, hbx, o4, n4, rfl⟩)) | (go_at_call 192; ((with_reducible refine (at_any y E _ _ ?_ Hy.out hlt2).mono ?_); (focus (first | (with_reducible assumption) | (with_reducible refine FS.ext ?_ _ _; with_reducible assumption) | (with_reducible refine IS.ext ?_ _ _; with_reducible assumption) | (refine hDu _ ?_; with_reducible assumption) | (refine hOu _ ?_; with_reducible assumption) | (refine hDa _ ?_; with_reducible assumption) | (refine hDb _ ?_; with_reducible assumption) | (refine hDc _ ?_; with_reducible assumption) | (refine hDd _ ?_; with_reducible assumption) | (refine FW.fs ?_ (by omega) _; with_reducible assumption) | (refine WS.fs ?_; with_reducible assumption) | (refine FW.fs ?_ (by omega) _; assumption) | omega | assumption)); rintro e w1 ⟨bx, rfl, hbx, o4, n4, rfl⟩)))
      go_roundw
      case rel => exact ⟨j + 1, rr, by omega, by go_num, rfl, hr, _, _, rfl⟩
      case measure => simp [intOf]; omega
    · go_wp2
      go_ret2
      have e : x.n.toNat = j := by omega
      exact ⟨b, rfl, by rw [e]; exact hb, g0.ext _ _⟩

/-- The place of the greatest number without its sign, so far; -1: none. -/
def mostTo (x : VecM) : Nat → Int
  | 0 => -1
  | k + 1 => if mostTo x k < 0 ∨ fgt (fabs (x.num k)) (fabs (x.num (mostTo x k).toNat)) = true then k else mostTo x k
theorem mostTo_range (x : VecM) : ∀ k, -1 ≤ mostTo x k ∧ mostTo x k < k
  | 0 => by simp [mostTo]
  | k + 1 => by
    have := mostTo_range x k
    unfold mostTo
    split <;> omega
set_option maxRecDepth 100000 in
set_option maxHeartbeats 2000000 in
theorem most_ok (x : VecM) (D : Value) (w : World) (hD : FS w D x.ws) (hxw : x.wf) (hx : x.right = true) :
   Calls Try.prog 127 #[.agg #[D, .int .i64 x.off, .int .i64 x.n, .int .i64 x.inc]] w
    (fun e w' => e = .returned (.tuple #[.int .i64 (mostTo x x.n.toNat), .int .i64 0]) ∧ ∃ o n, w' = ext w o n) := by
  have hx0 : 0 ≤ x.n := by have := VecM.right_n hx; omega
  have hx1 : x.n ≤ 9223372036854775807 := by have := hxw.2.1.2; omega
  have k1 : (!x.right) = false := by simp [hx]
  have Hx := hid hx
  have Hw1 := hid hxw
  clear hxw hx
  go_enter Try.func127, Try.ntmps127
  refine seq_stop ?_
  go_wp2
  refine stop_go (fun W hW => ?_)
  have s1 : w.heap.size < W.heap.size := by rw [hW]; simp only [World.size_alloc]; omega
  have b1 : ∀ i, W.cell? ⟨w.heap.size, i, none⟩ = (#[D, .int .i64 x.off, .int .i64 x.n, .int .i64 x.inc] : Array Value)[i]? := by intro i; rw [hW]; go_simp
  have g0 : Grew w W := by rw [hW]; exact (Grew.refl _).alloc _
  clear hW
  have hDW : FS W D x.ws := hD.grew g0
  go_wp2_with (first | (go_at_call 135; ((with_reducible refine (right_any x D _ ?_ Hw1.out).mono ?_); (focus (first | (with_reducible assumption) | (with_reducible refine FS.ext ?_ _ _; with_reducible assumption) | (with_reducible refine IS.ext ?_ _ _; with_reducible assumption) | (refine hDu _ ?_; with_reducible assumption) | (refine hOu _ ?_; with_reducible assumption) | (refine hDa _ ?_; with_reducible assumption) | (refine hDb _ ?_; with_reducible assumption) | (refine hDc _ ?_; with_reducible assumption) | (refine hDd _ ?_; with_reducible assumption) | (refine FW.fs ?_ (by omega) _; with_reducible assumption) | (refine WS.fs ?_; with_reducible assumption) | (refine FW.fs ?_ (by omega) _; assumption) | omega | assumption)); rintro e w1 ⟨rfl, o1, n1, rfl⟩)))
  go_loopw [4, 11] (fun s c wr => ∃ (j : Nat) (m : Int), (j : Int) ≤ x.n ∧ c = .int .i64 j ∧ s = .int .i64 m ∧ m = mostTo x j ∧
     ∃ o n, wr = ext W o n) (fun _ c _ => (x.n - intOf c).toNat)
  case atStart => exact ⟨0, -1, hx0, rfl, rfl, rfl, _, _, rfl⟩
  case round =>
    obtain ⟨j, m, hj, rfl, rfl, hm, o3, n3, hwr⟩ := hrel
    subst hwr
    have hmr := mostTo_range x j
    rw [← hm] at hmr
    have Hm := hid hm
    clear hm
    by_cases hlt : (j : Int) < x.n
    · by_cases hm0 : m < 0
      · go_wp2
        refine wp_region_R (Grew W) [] [(0,0), (0,1), (0,2), (0,3), (0,4), (0,7), (0,8), (1,5), (1,6), (1,9), (1,10), (0,11), (0,12)] (by kernel_rfl) (by kernel_rfl) (fun _ _ _ _ h _ => h) (by first | exact ⟨_, _, ext_drew⟩ | exact ⟨_, _, drew_ext0⟩ | (show Grew _ _; repeat (first | (with_reducible exact Grew.refl _) | (with_reducible assumption) | (with_reducible exact Grew.same_o) | (with_reducible exact Grew.app_o) | (with_reducible refine Grew.ext ?_ _ _) | (with_reducible refine Grew.alloc ?_ _) | ((with_reducible refine Grew.setCell ?_ ?_ _); rotate_left; (focus (dsimp only; first | omega | (simp only [size_ext, World.size_alloc, Array.size_append]; omega)))) | (with_reducible refine Grew.drewN ?_ _) | (with_reducible refine Grew.drew ?_)))) ?_
        go_wp2_with (first | ((with_reducible refine wpR_id ?_); first | (refine wpR_take (v := ?_) rfl rfl ?_ ?_; rotate_left; (focus (rintro w' ⟨o', n', rfl⟩; go_simp; try with_reducible rfl)); simp only [Act.put, List.setIfInBounds_toArray, List.set_cons_zero, List.set_cons_succ]) | (refine wpR_pure (v := ?_) rfl rfl ?_ ?_; rotate_left; (focus (intro w'; go_simp; try with_reducible rfl)); simp only [Act.put, List.setIfInBounds_toArray, List.set_cons_zero, List.set_cons_succ]) | (refine wpR_takeG (v := ?_) rfl rfl rfl rfl rfl ?_ ?_; rotate_left; (focus (rintro w' ⟨o', n', rfl⟩; go_simp; try with_reducible rfl)); simp only [Act.put, List.setIfInBounds_toArray, List.set_cons_zero, List.set_cons_succ]) | (refine wpR_skip rfl rfl rfl rfl rfl rfl ?_; simp only [Act.put, List.setIfInBounds_toArray, List.set_cons_zero, List.set_cons_succ]) | (refine wpR_skipU rfl rfl rfl rfl rfl ?_; simp only [Act.put, List.setIfInBounds_toArray, List.set_cons_zero, List.set_cons_succ]) | (refine wpR_do rfl rfl (fun K hK => ?_)) | (refine wpR_doG rfl rfl rfl rfl rfl (fun K hK => ?_)) | (refine wpR_last rfl rfl (fun K hK => ?_)) | (refine wpR_nil ?_)) | ((with_reducible refine wpR_go ?_ ?_); (focus exact ⟨_, _, rfl⟩)) | ((with_reducible refine upon_id ?_); refine upon_fop rfl (by assumption) (by assumption) ?_; intro rr nn hr))
        go_roundw
        case rel => exact ⟨j + 1, j, by omega, by go_num, rfl, by unfold mostTo; rw [if_pos (.inl (by rw [← Hm.out]; exact hm0))], _, _, rfl⟩
        case measure => simp [intOf]; omega
      · obtain ⟨m', rfl⟩ : ∃ m' : Nat, m = m' := ⟨m.toNat, by omega⟩
        have hlt2 : (m' : Int) < x.n := by omega
        have hm1 : decide ((m' : Int) < 0) = false := by simp
        go_wp2
        refine wp_region_R (Grew W) [] [(0,0), (0,1), (0,2), (0,3), (0,4), (0,7), (0,8), (1,5), (1,6), (1,9), (1,10), (0,11), (0,12)] (by kernel_rfl) (by kernel_rfl) (fun _ _ _ _ h _ => h) (by first | exact ⟨_, _, ext_drew⟩ | exact ⟨_, _, drew_ext0⟩ | (show Grew _ _; repeat (first | (with_reducible exact Grew.refl _) | (with_reducible assumption) | (with_reducible exact Grew.same_o) | (with_reducible exact Grew.app_o) | (with_reducible refine Grew.ext ?_ _ _) | (with_reducible refine Grew.alloc ?_ _) | ((with_reducible refine Grew.setCell ?_ ?_ _); rotate_left; (focus (dsimp only; first | omega | (simp only [size_ext, World.size_alloc, Array.size_append]; omega)))) | (with_reducible refine Grew.drewN ?_ _) | (with_reducible refine Grew.drew ?_)))) ?_
        go_wp2_with (first | ((with_reducible refine wpR_id ?_); first | (refine wpR_take (v := ?_) rfl rfl ?_ ?_; rotate_left; (focus (rintro w' ⟨o', n', rfl⟩; go_simp; try with_reducible rfl)); simp only [Act.put, List.setIfInBounds_toArray, List.set_cons_zero, List.set_cons_succ]) | (refine wpR_pure (v := ?_) rfl rfl ?_ ?_; rotate_left; (focus (intro w'; go_simp; try with_reducible rfl)); simp only [Act.put, List.setIfInBounds_toArray, List.set_cons_zero, List.set_cons_succ]) | (refine wpR_takeG (v := ?_) rfl rfl rfl rfl rfl ?_ ?_; rotate_left; (focus (rintro w' ⟨o', n', rfl⟩; go_simp; try with_reducible rfl)); simp only [Act.put, List.setIfInBounds_toArray, List.set_cons_zero, List.set_cons_succ]) | (refine wpR_skip rfl rfl rfl rfl rfl rfl ?_; simp only [Act.put, List.setIfInBounds_toArray, List.set_cons_zero, List.set_cons_succ]) | (refine wpR_skipU rfl rfl rfl rfl rfl ?_; simp only [Act.put, List.setIfInBounds_toArray, List.set_cons_zero, List.set_cons_succ]) | (refine wpR_do rfl rfl (fun K hK => ?_)) | (refine wpR_doG rfl rfl rfl rfl rfl (fun K hK => ?_)) | (refine wpR_last rfl rfl (fun K hK => ?_)) | (refine wpR_nil ?_)) | ((with_reducible refine wpR_go ?_ ?_); (focus exact ⟨_, _, rfl⟩)) | ((with_reducible refine upon_id ?_); refine upon_fop rfl (by assumption) (by assumption) ?_; intro rr nn hr) | (go_at_call 192; ((with_reducible refine (at_any x D j _ ?_ Hx.out hlt).mono ?_); (focus (first | (with_reducible assumption) | (with_reducible refine FS.ext ?_ _ _; with_reducible assumption) | (with_reducible refine IS.ext ?_ _ _; with_reducible assumption) | (refine hDu _ ?_; with_reducible assumption) | (refine hOu _ ?_; with_reducible assumption) | (refine hDa _ ?_; with_reducible assumption) | (refine hDb _ ?_; with_reducible assumption) | (refine hDc _ ?_; with_reducible assumption) | (refine hDd _ ?_; with_reducible assumption) | (refine FW.fs ?_ (by omega) _; with_reducible assumption) | (refine WS.fs ?_; with_reducible assumption) | (refine FW.fs ?_ (by omega) _; assumption) | omega | assumption)); rintro e w1 ⟨bx, rfl, hbx, o4, n4, rfl⟩)) | (go_at_call 192; ((with_reducible refine (at_any x D m' _ ?_ Hx.out hlt2).mono ?_); (focus (first | (with_reducible assumption) | (with_reducible refine FS.ext ?_ _ _; with_reducible assumption) | (with_reducible refine IS.ext ?_ _ _; with_reducible assumption) | (refine hDu _ ?_; with_reducible assumption) | (refine hOu _ ?_; with_reducible assumption) | (refine hDa _ ?_; with_reducible assumption) | (refine hDb _ ?_; with_reducible assumption) | (refine hDc _ ?_; with_reducible assumption) | (refine hDd _ ?_; with_reducible assumption) | (refine FW.fs ?_ (by omega) _; with_reducible assumption) | (refine WS.fs ?_; with_reducible assumption) | (refine FW.fs ?_ (by omega) _; assumption) | omega | assumption)); rintro e w1 ⟨by', rfl, hby, o4, n4, rfl⟩)) | (go_at_call 164; ((with_reducible refine (mabs_any _ _ _ (by assumption)).mono ?_); rintro e w1 ⟨ra, rfl, hra, rfl⟩)))
        · have q : fgt (fabs (x.num j)) (fabs (x.num m')) = true := gt_fact (by assumption) (by assumption) (by assumption)
          go_roundw
          case rel => exact ⟨j + 1, j, by omega, by go_num, rfl, by unfold mostTo; rw [if_pos (.inr (by rw [← Hm.out]; exact q))], _, _, rfl⟩
          case measure => simp [intOf]; omega
        · have q : fgt (fabs (x.num j)) (fabs (x.num m')) = false := gt_fact (by assumption) (by assumption) (by assumption)
          go_roundw
          case rel => exact ⟨j + 1, m', by omega, by go_num, rfl, by unfold mostTo; rw [if_neg (by rw [← Hm.out]; simp [q])]; exact Hm.out, _, _, rfl⟩
          case measure => simp [intOf]; omega
    · go_wp2
      go_ret2
      have e : x.n.toNat = j := by omega
      exact ⟨by rw [e, ← Hm.out]; rfl, g0.ext _ _⟩
end Go.Proofs.Ytcmggfpcbijcjaa
end
section
/-
  The law SumsLists: its example, its walk.
-/
set_option linter.unusedSimpArgs false
set_option linter.unusedVariables false
open Go Go.RowKit Sedge
namespace Go.Proofs.Ytcmggfpcbijcjaa
def L123 : List Nat := [4607182418800017408, 4611686018427387904, 4613937818241073152]
def L456 : List Nat := [4616189618054758400, 4617315517961601024, 4618441417868443648]
theorem wf_small (ws : List Nat) (off n inc : Int) (h1 : I64 off) (h2 : I64 n) (h3 : I64 inc) : VecM.wf ⟨ws, off, n, inc⟩ := ⟨h1, h2, h3⟩
theorem i64_small {x : Int} (h : -1000000 ≤ x ∧ x ≤ 1000000) : I64 x := by unfold I64; omega
theorem most_ex (D : Value) (w : World) (hD : FS w D L123) :
    Calls Try.prog 127 #[.agg #[D, .int .i64 0, .int .i64 3, .int .i64 1]] w (fun e w' => e = .returned (.tuple #[.int .i64 2, .int .i64 0]) ∧ ∃ o n, w' = ext w o n) := by
  have h := most_ok ⟨L123, 0, 3, 1⟩ D w hD (wf_small _ _ _ _ (i64_small (by decide)) (i64_small (by decide)) (i64_small (by decide))) (by decide +kernel)
  have e : mostTo ⟨L123, 0, 3, 1⟩ (Int.toNat 3) = 2 := by decide +kernel
  simp only [e] at h
  exact h
theorem dot_ex (D E : Value) (w : World) (hD : FS w D L123) (hE : FS w E L456) :
    Calls Try.prog 128 #[.agg #[D, .int .i64 0, .int .i64 3, .int .i64 1], .agg #[E, .int .i64 0, .int .i64 3, .int .i64 1]] w
      (fun e w' => ∃ b, e = .returned (.tuple #[.float .f64 b, .int .i64 0]) ∧ IsF b 4629700416936869888 ∧ ∃ o n, w' = ext w o n) := by
  have hw : ∀ ws, VecM.wf ⟨ws, 0, 3, 1⟩ := fun ws => wf_small _ _ _ _ (i64_small (by decide)) (i64_small (by decide)) (i64_small (by decide))
  have h := dot_ok ⟨L123, 0, 3, 1⟩ ⟨L456, 0, 3, 1⟩ D E w hD hE (hw _) (hw _) (by decide +kernel) (by decide +kernel) rfl
  have e : dotTo ⟨L123, 0, 3, 1⟩ ⟨L456, 0, 3, 1⟩ (Int.toNat 3) = 4629700416936869888 := by decide +kernel
  simp only [e] at h
  exact h
theorem eq_fact {r s X Y : Nat} (hr : IsF r X) (hs : IsF s Y) : (FloatKind.f64.format.order r s == some .eq) = feq X Y := by
  unfold feq; rw [← hr.order hs]; rfl
theorem eq_is {r s X Y : Nat} (hr : IsF r X) (hs : IsF s Y) {v : Bool} (h : feq X Y = v) : (FloatKind.f64.format.order r s == some .eq) = v := (eq_fact hr hs).trans h
set_option maxRecDepth 100000 in
set_option maxHeartbeats 1000000 in
theorem awake05 (w : World) : Calls Try.prog 35 #[] w (fun e w' => e = .returned (.bool true) ∧ ∃ o n, w' = ext w o n) := by
  have h1 : ∀ x ∈ L123, IsF x x := by decide +kernel
  have h2 : ∀ x ∈ L456, IsF x x := by decide +kernel
  have H1 := hid h1
  have H2 := hid h2
  clear h1 h2
  go_enter Try.func35, Try.ntmps35
  go_wp2_with (first | (go_at_call 127; ((with_reducible refine (most_ex _ _ ?_).mono ?_); (focus (repeat (first | exact FS.lit L123 (by decide) H1.out 3 _ (by simp only [size_ext, World.size_alloc]) | exact FS.lit L123 (by decide) H1.out 3 _ rfl | refine FS.alloc ?_ _ | refine FS.ext ?_ _ _))); rintro e w1 ⟨rfl, o1, n1, rfl⟩)) | (go_at_call 128; ((with_reducible refine (dot_ex _ _ _ ?_ ?_).mono ?_); (focus (repeat (first | exact FS.lit L123 (by decide) H1.out 3 _ (by simp only [size_ext, World.size_alloc]) | exact FS.lit L123 (by decide) H1.out 3 _ rfl | refine FS.alloc ?_ _ | refine FS.ext ?_ _ _))); (focus (repeat (first | exact FS.lit L456 (by decide) H2.out 3 _ (by simp only [size_ext, World.size_alloc]) | exact FS.lit L456 (by decide) H2.out 3 _ rfl | refine FS.alloc ?_ _ | refine FS.ext ?_ _ _))); rintro e w1 ⟨b, rfl, hb, o1, n1, rfl⟩; have q : (FloatKind.f64.format.order b 4629700416936869888 == some .eq) = true := eq_is hb (Y := 4629700416936869888) (by decide +kernel) (by decide +kernel))))
  go_ret
  exact ⟨rfl, by (show Grew _ _; repeat (first | (with_reducible exact Grew.refl _) | (with_reducible assumption) | (with_reducible exact Grew.same_o) | (with_reducible exact Grew.app_o) | (with_reducible refine Grew.ext ?_ _ _) | (with_reducible refine Grew.alloc ?_ _) | ((with_reducible refine Grew.setCell ?_ ?_ _); rotate_left; (focus (dsimp only; first | omega | (simp only [size_ext, World.size_alloc, Array.size_append]; omega)))) | (with_reducible refine Grew.drewN ?_ _) | (with_reducible refine Grew.drew ?_)))⟩
theorem fsumTo_length (l : List Nat) : fsumTo l l.length = fsumTo l l.length := rfl
set_option maxRecDepth 100000 in
set_option maxHeartbeats 1000000 in
theorem sumsLists_any (D : Value) (ws : List Nat) (w : World) (hD : FS w D ws) :
    Calls Try.prog 4 #[D] w (fun e w' => e = .returned (.bool true) ∧ ∃ o n, w' = ext w o n) := by
  obtain ⟨a, cap, rfl⟩ := hD.shape
  have hl := hD.len
  have HD := hD.at.2
  have hl' : (ws.length : Int) ≤ 9223372036854775807 := by omega
  by_cases h100 : (100 : Int) < (ws.length : Int)
  · go_enter Try.func4, Try.ntmps4
    go_wp2_with (first | (go_at_call 35; ((with_reducible refine (awake05 _).mono ?_); rintro e w1 ⟨rfl, o1, n1, rfl⟩)))
    go_ret
    exact ⟨rfl, by (show Grew _ _; repeat (first | (with_reducible exact Grew.refl _) | (with_reducible assumption) | (with_reducible exact Grew.same_o) | (with_reducible exact Grew.app_o) | (with_reducible refine Grew.ext ?_ _ _) | (with_reducible refine Grew.alloc ?_ _) | ((with_reducible refine Grew.setCell ?_ ?_ _); rotate_left; (focus (dsimp only; first | omega | (simp only [size_ext, World.size_alloc, Array.size_append]; omega)))) | (with_reducible refine Grew.drewN ?_ _) | (with_reducible refine Grew.drew ?_)))⟩
  · go_enter Try.func4, Try.ntmps4
    go_wp2_with (first | (go_at_call 35; ((with_reducible refine (awake05 _).mono ?_); rintro e w1 ⟨rfl, o1, n1, rfl⟩)))
    go_loopw [3, 4] (fun s c wr => ∃ k b : Nat, k ≤ ws.length ∧ c = .int .i64 k ∧ s = .float .f64 b ∧ IsF b (fsumTo ws k) ∧ ∃ o n, wr = ext w o n) (fun _ c _ => ws.length - (intOf c).toNat)
    case atStart => exact ⟨0, 0, Nat.zero_le _, rfl, rfl, isF_zero, _, _, rfl⟩
    case round =>
      obtain ⟨k, s, hk, rfl, rfl, hs, oo, nn, hwr⟩ := hrel
      subst hwr
      by_cases hlt : k < ws.length
      · obtain ⟨blk, o, rfl, hblk, hc⟩ := HD (by omega)
        obtain ⟨b, hb, hx⟩ := hc k hlt
        clear hc HD
        go_wp2_with (first | (go_at_call 36; ((with_reducible refine (plus_any _ _ _ _ _ hs hx).mono ?_); rintro e w1 ⟨rr, rfl, hr, o1, n1, rfl⟩)))
        go_roundw
        case rel => exact ⟨k + 1, rr, by omega, by go_num, rfl, hr, _, _, rfl⟩
        case measure => simp [intOf]; omega
      · have e : k = ws.length := by omega
        subst e
        have d1 : decide (fsumTo ws ws.length = fsumTo ws ws.length) = true := by simp
        have d2 : decide (fgreatest ws = fgreatest ws) = true := by simp
        clear HD
        go_wp2_with (first | (go_at_call 38; ((with_reducible refine (sum_any _ ws _ ?_).mono ?_); (focus (first | (with_reducible assumption) | (with_reducible refine FS.ext ?_ _ _; with_reducible assumption) | (with_reducible refine IS.ext ?_ _ _; with_reducible assumption) | (refine hDu _ ?_; with_reducible assumption) | (refine hOu _ ?_; with_reducible assumption) | (refine hDa _ ?_; with_reducible assumption) | (refine hDb _ ?_; with_reducible assumption) | (refine hDc _ ?_; with_reducible assumption) | (refine hDd _ ?_; with_reducible assumption) | (refine FW.fs ?_ (by omega) _; with_reducible assumption) | (refine WS.fs ?_; with_reducible assumption) | (refine FW.fs ?_ (by omega) _; assumption) | omega | assumption)); rintro e w1 ⟨r1, rfl, hr1, o1, n1, rfl⟩)) | (go_at_call 39; ((with_reducible refine (greatest_any _ ws _ ?_).mono ?_); (focus (first | (with_reducible assumption) | (with_reducible refine FS.ext ?_ _ _; with_reducible assumption) | (with_reducible refine IS.ext ?_ _ _; with_reducible assumption) | (refine hDu _ ?_; with_reducible assumption) | (refine hOu _ ?_; with_reducible assumption) | (refine hDa _ ?_; with_reducible assumption) | (refine hDb _ ?_; with_reducible assumption) | (refine hDc _ ?_; with_reducible assumption) | (refine hDd _ ?_; with_reducible assumption) | (refine FW.fs ?_ (by omega) _; with_reducible assumption) | (refine WS.fs ?_; with_reducible assumption) | (refine FW.fs ?_ (by omega) _; assumption) | omega | assumption)); rintro e w1 ⟨r2, rfl, hr2, rfl⟩)) | (go_at_call 40; ((with_reducible refine (rgreatest_any _ ws _ ?_).mono ?_); (focus (first | (with_reducible assumption) | (with_reducible refine FS.ext ?_ _ _; with_reducible assumption) | (with_reducible refine IS.ext ?_ _ _; with_reducible assumption) | (refine hDu _ ?_; with_reducible assumption) | (refine hOu _ ?_; with_reducible assumption) | (refine hDa _ ?_; with_reducible assumption) | (refine hDb _ ?_; with_reducible assumption) | (refine hDc _ ?_; with_reducible assumption) | (refine hDd _ ?_; with_reducible assumption) | (refine FW.fs ?_ (by omega) _; with_reducible assumption) | (refine WS.fs ?_; with_reducible assumption) | (refine FW.fs ?_ (by omega) _; assumption) | omega | assumption)); rintro e w1 ⟨r3, rfl, hr3, o1, n1, rfl⟩)) | (go_at_call 37; first | ((with_reducible refine (same_any _ _ _ _ _ hr1 hs).mono ?_); rintro e w1 ⟨rfl, rfl⟩) | ((with_reducible refine (same_any _ _ _ _ _ hr2 hr3).mono ?_); rintro e w1 ⟨rfl, rfl⟩)) | (go_at_call 35; ((with_reducible refine (awake05 _).mono ?_); rintro e w1 ⟨rfl, o1, n1, rfl⟩)))
        go_ret
        exact ⟨rfl, by (show Grew _ _; repeat (first | (with_reducible exact Grew.refl _) | (with_reducible assumption) | (with_reducible exact Grew.same_o) | (with_reducible exact Grew.app_o) | (with_reducible refine Grew.ext ?_ _ _) | (with_reducible refine Grew.alloc ?_ _) | ((with_reducible refine Grew.setCell ?_ ?_ _); rotate_left; (focus (dsimp only; first | omega | (simp only [size_ext, World.size_alloc, Array.size_append]; omega)))) | (with_reducible refine Grew.drewN ?_ _) | (with_reducible refine Grew.drew ?_)))⟩
end Go.Proofs.Ytcmggfpcbijcjaa
end
section
/-
  Contract: view.Dense with its numbers written out; the example of layer 4.
-/
set_option linter.unusedSimpArgs false
set_option linter.unusedVariables false
open Go Go.RowKit Sedge
namespace Go.Proofs.Ytcmggfpcbijcjaa
/-- The list that Dense makes. -/
def denseTo (r c : Nat) (l : List Nat) (k : Nat) : List Nat := writes (List.replicate (r * c) 0) (fun k => k / c + k % c * r) (fun k => l.getD k 0) k
def denseL (r c : Nat) (l : List Nat) : List Nat := denseTo r c l (min l.length (r * c))
set_option maxRecDepth 100000 in
set_option maxHeartbeats 1000000 in
/-- view.Dense, of sizes within 64. -/
theorem dense_any (r c : Nat) (aL : Option Addr) (ls : List Nat) (w : World) (hL : FS w (.slice aL ls.length ls.length) ls) (hr : r ≤ 64) (hc : c ≤ 64) (hr1 : 1 ≤ r) (hc1 : 1 ≤ c) (hlen : ls.length = r * c) :
   Calls Try.prog 69 #[.int .i64 r, .int .i64 c, .slice aL ls.length ls.length] w (fun e w' => ∃ v, e = .returned (.agg #[v, .int .i64 0, .int .i64 r, .int .i64 c, .int .i64 r]) ∧ WS w' w.heap.size v (denseL r c ls) ∧ ∃ o n, w' = ext w o n) := by
  have hm : r * c ≤ 64 * 64 := Nat.mul_le_mul hr hc
  have h2 : IntKind.i64.wrap ((r : Int) * c) = (r : Int) * c := IntWalk.i64_in _ (by rw [← Int.natCast_mul]; omega)
  have hlL := hL.len
  have d1 : decide ((r : Int) < 0) = false := by simp
  have d2 : decide ((c : Int) < 0) = false := by simp
  have d3 : decide ((64 : Int) < (r : Int)) = false := by simp; omega
  have d4 : decide ((64 : Int) < (c : Int)) = false := by simp; omega
  have d5 : (ls.length : Int) = (r : Int) * c := by rw [hlen, Int.natCast_mul]
  have d6 : decide ((1 : Int) ≤ (r : Int)) = true := by simp; omega
  go_enter Try.func69, Try.ntmps69
  refine seq_stop ?_
  go_wp2
  refine stop_go (fun W hW => ?_)
  have s1 : w.heap.size < W.heap.size := by rw [hW]; simp only [World.size_alloc]; omega
  have b1 : ∀ i, W.cell? ⟨w.heap.size, i, none⟩ = (#[.slice none 0 0, .int .i64 0, .int .i64 0, .int .i64 0, .int .i64 0] : Array Value)[i]? := by intro i; rw [hW]; go_simp
  have f1 : ∀ i, W.frozen? ⟨w.heap.size, i, none⟩ = false := by intro i; rw [hW]; go_simp
  have g0 : Grew w W := by rw [hW]; exact (Grew.refl _).alloc _
  clear hW
  have hLW : FS W (.slice aL ls.length ls.length) ls := hL.grew g0
  go_wp2_with (at_make; refine make_f (L := (r : Int) * (c : Int)) finfo (Grew.refl W) _ _ rfl rfl (r * c) (Int.natCast_mul r c).symm rfl rfl (by omega) ?_; intro oo nn k hk ho; have hF := ho.made)
  refine name_any (fun V hV => ?_)
  have gV : Grew W V := by rw [← hV]; (show Grew _ _; repeat (first | (with_reducible exact Grew.refl _) | (with_reducible assumption) | (with_reducible exact Grew.same_o) | (with_reducible exact Grew.app_o) | (with_reducible refine Grew.ext ?_ _ _) | (with_reducible refine Grew.alloc ?_ _) | ((with_reducible refine Grew.setCell ?_ ?_ _); rotate_left; (focus (dsimp only; first | omega | (simp only [size_ext, World.size_alloc, Array.size_append]; omega)))) | (with_reducible refine Grew.drewN ?_ _) | (with_reducible refine Grew.drew ?_)))
  have sV := gV.below.size
  have k1 : w.heap.size < V.heap.size := by omega
  have k3 : W.heap.size + oo.size < V.heap.size := by rw [← hV]; simp only [World.size_alloc, size_ext]; omega
  have c1 : ∀ i, V.cell? ⟨w.heap.size, i, none⟩ = (#[.slice none 0 0, .int .i64 0, .int .i64 0, .int .i64 0, .int .i64 0] : Array Value)[i]? := fun i => (gV.cell s1).trans (b1 i)
  have z1 : ∀ i, V.frozen? ⟨w.heap.size, i, none⟩ = false := fun i => (gV.frozen s1).trans (f1 i)
  have c3 : ∀ i, V.cell? ⟨W.heap.size + oo.size, i, none⟩ = (#[.slice (some ⟨k, 0, none⟩) (r * c) (r * c), .int .i64 0, .int .i64 r, .int .i64 c, .int .i64 r] : Array Value)[i]? := by subst hV; intro i; go_simp
  have hFV : FW V k (List.replicate (r * c) 0) := by rw [← hV]; (repeat (first | (with_reducible assumption) | ((with_reducible refine FW.ext_set ?_ ?_ ?_ _); rotate_left; (focus (simp only [size_setCell', World.size_alloc, size_ext, size_upd]; omega)); (focus (dsimp only; omega))) | ((with_reducible refine FW.setCell_ne ?_ ?_ _); rotate_left; (focus (dsimp only; omega))) | (with_reducible refine FW.ext ?_ _ _) | (with_reducible refine FW.alloc ?_ _)))
  have hLV : FS V (.slice aL ls.length ls.length) ls := hLW.grew gV
  have gl := hFV.lt
  have q1 : w.heap.size ≠ k := by omega
  have q3 : W.heap.size + oo.size ≠ k := by have := hF.lt; simp only [size_ext] at this; omega
  have HL := hid hlen
  clear hV b1 f1 hL ho
  go_loopw [43] (fun s wr => ∃ (i : Nat) (cs : Array Value) (o : Array Obj) (n : Nat), i ≤ r * c ∧ s = .int .i64 i ∧ wr = ext (upd V k cs) o n ∧ CF cs (denseTo r c ls i)) (fun s _ => r * c - (intOf s).toNat)
  case atStart =>
    obtain ⟨cs, h1, h2⟩ := hFV.self
    exact ⟨0, cs, #[], _, Nat.zero_le _, rfl, by rw [h1]; exact ext_zero.symm, h2⟩
  case round =>
    obtain ⟨i, cs, o2, n2, hi, rfl, hwr, hcs⟩ := hrel
    subst hwr
    by_cases hlt : i < r * c
    · have e1 : i / c < r := by rw [Nat.div_lt_iff_lt_mul (by omega)]; exact hlt
      have e2 : i % c < c := Nat.mod_lt _ (by omega)
      have e3 : i % c * r + r ≤ c * r := by have := Nat.mul_le_mul_right r e2; rw [Nat.succ_mul] at this; exact this
      have e4 : c * r = r * c := Nat.mul_comm c r
      obtain ⟨p, hp⟩ : ∃ p : Nat, p = i / c := ⟨_, rfl⟩
      obtain ⟨q, hq⟩ : ∃ q : Nat, q = i % c := ⟨_, rfl⟩
      rw [← hp] at e1
      rw [← hq] at e2 e3
      have hq1 : (i : Int).tdiv c = (p : Int) := by rw [hp]; rfl
      have hq2 : (i : Int).tmod c = (q : Int) := by rw [hq]; rfl
      have hq3 : (i : Int) / c = (p : Int) := by rw [hp]; rfl
      have hq4 : (i : Int) % c = (q : Int) := by rw [hq]; rfl
      have m0 : (q : Int) * r = ((q * r : Nat) : Int) := (Int.natCast_mul q r).symm
      have w1 : IntKind.i64.wrap ((q : Int) * r) = (q : Int) * r := IntWalk.i64_in _ (by omega)
      have w2 : IntKind.i64.wrap ((p : Int) + (q : Int) * r) = (p : Int) + (q : Int) * r := IntWalk.i64_in _ (by omega)
      have n0 : ((p : Int) + (q : Int) * r).toNat = p + q * r := by omega
      have n1 : 0 ≤ (p : Int) + (q : Int) * r := by omega
      have n3 : (p : Int) + (q : Int) * r < ((r * c : Nat) : Int) := by omega
      have n2' : (c : Int) ≠ 0 := by omega
      have n6 : (p : Int) + (q : Int) * r < (r : Int) * c := by rw [← Int.natCast_mul r c]; exact n3
      have n8 : p + q * r < r * c := by omega
      have n5 : ¬ c = 0 := by omega
      have w0 : IntKind.i64.wrap (p : Int) = p := IntWalk.i64_in _ (by omega)
      have w3 : IntKind.i64.wrap (q : Int) = q := IntWalk.i64_in _ (by omega)
      have n4 : ((c : Int) == 0) = false := by simp; omega
      have fz : ∀ i, V.frozen? ⟨k, i, none⟩ = false := hFV.notFrozen
      have hlen2 : (denseTo r c ls i).length = r * c := by simp [denseTo]
      obtain ⟨r0, hr0, _⟩ := (hFV.mk' hcs o2 n2).get (i := p + q * r) (by rw [hlen2]; omega)
      have hr1 := (cell_ext (by simpa using gl)).symm.trans hr0
      obtain ⟨blk, o, rfl, hblk, hc⟩ := hLW.at.2 (by omega)
      obtain ⟨b, hb0, hf⟩ := hc i (by omega)
      have hb := (gV.cell hblk).trans hb0
      have qb : blk ≠ k := by omega
      have kb : blk < V.heap.size := by omega
      have Hp := hid hp
      have Hq := hid hq
      clear hb0 hc hr0 m0 hp hq
      go_wp2
      refine wp_region_R (Over V k) [] [(0,0), (0,1), (0,2), (0,3), (0,4), (0,5), (0,6), (0,7), (0,8), (0,9), (0,10), (0,11), (0,12), (0,13), (1,14)] (by kernel_rfl) (by kernel_rfl) (fun _ _ _ _ h _ => h) ⟨_, _, _, ext_drew⟩ ?_
      go_wp2_with (first | ((with_reducible refine wpR_id ?_); first | (refine wpR_take (v := ?_) rfl rfl ?_ ?_; rotate_left; (focus (rintro w' ⟨cs', o', n', rfl⟩; go_simp; try with_reducible rfl)); simp only [Act.put, List.setIfInBounds_toArray, List.set_cons_zero, List.set_cons_succ]) | (refine wpR_pure (v := ?_) rfl rfl ?_ ?_; rotate_left; (focus (intro w'; go_simp; try with_reducible rfl)); simp only [Act.put, List.setIfInBounds_toArray, List.set_cons_zero, List.set_cons_succ]) | (refine wpR_takeG (v := ?_) rfl rfl rfl rfl rfl ?_ ?_; rotate_left; (focus (rintro w' ⟨cs', o', n', rfl⟩; go_simp; try with_reducible rfl)); simp only [Act.put, List.setIfInBounds_toArray, List.set_cons_zero, List.set_cons_succ]) | (refine wpR_skip rfl rfl rfl rfl rfl rfl ?_; simp only [Act.put, List.setIfInBounds_toArray, List.set_cons_zero, List.set_cons_succ]) | (refine wpR_skipU rfl rfl rfl rfl rfl ?_; simp only [Act.put, List.setIfInBounds_toArray, List.set_cons_zero, List.set_cons_succ]) | (refine wpR_do rfl rfl (fun K hK => ?_)) | (refine wpR_doG rfl rfl rfl rfl rfl (fun K hK => ?_)) | (refine wpR_last rfl rfl (fun K hK => ?_)) | (refine wpR_nil ?_)) | ((with_reducible refine wpR_go ?_ ?_); (focus exact ⟨_, _, _, rfl⟩)) | ((with_reducible refine upon_id ?_); refine upon_fop rfl (by assumption) (by assumption) ?_; intro rr nn hr))
      go_roundw
      case rel =>
        refine ⟨i + 1, _, _, _, by omega, by go_num, rfl, ?_⟩
        have h8 := hcs.set (i := p + q * r) hf
        unfold denseTo at h8 ⊢; unfold writes
        rw [← Hp.out, ← Hq.out]; exact h8
      case measure => simp [intOf]; omega
    · have e : i = r * c := by omega
      subst e
      have hfw : FW (ext (upd V k cs) o2 n2) k (denseL r c ls) := by unfold denseL; rw [HL.out, Nat.min_self]; exact hFV.mk' hcs _ _
      have gu : Grew w (upd V k cs) := (g0.trans gV).upd (by omega) cs
      go_wp2
      refine bodyPost_ret (v := .agg #[.slice (some ⟨k, 0, none⟩) (r * c) (r * c), .int .i64 0, .int .i64 r, .int .i64 c, .int .i64 r]) (by simp [results, Try.results69, go_sem, *]) rfl ?_
      exact ⟨_, rfl, ⟨k, r * c, by simp [denseL, denseTo], by omega, by (repeat (first | (with_reducible assumption) | ((with_reducible refine FW.ext_set ?_ ?_ ?_ _); rotate_left; (focus (simp only [size_setCell', World.size_alloc, size_ext, size_upd]; omega)); (focus (dsimp only; omega))) | ((with_reducible refine FW.setCell_ne ?_ ?_ _); rotate_left; (focus (dsimp only; omega))) | (with_reducible refine FW.ext ?_ _ _) | (with_reducible refine FW.alloc ?_ _))), by simp [denseL, denseTo]; omega⟩, by (show Grew _ _; repeat (first | (with_reducible exact Grew.refl _) | (with_reducible assumption) | (with_reducible exact Grew.same_o) | (with_reducible exact Grew.app_o) | (with_reducible refine Grew.ext ?_ _ _) | (with_reducible refine Grew.alloc ?_ _) | ((with_reducible refine Grew.setCell ?_ ?_ _); rotate_left; (focus (dsimp only; first | omega | (simp only [size_ext, World.size_alloc, Array.size_append]; omega)))) | (with_reducible refine Grew.drewN ?_ _) | (with_reducible refine Grew.drew ?_)))⟩
end Go.Proofs.Ytcmggfpcbijcjaa
end
section
/-
  The example of layer 9.
-/
set_option linter.unusedSimpArgs false
set_option linter.unusedVariables false
open Go Go.RowKit Sedge
namespace Go.Proofs.Ytcmggfpcbijcjaa
set_option maxRecDepth 100000 in
set_option maxHeartbeats 1000000 in
/-- trsv.Solve, of a vector that isn't right. -/
theorem solve_r (k : Int) (m : MatM) (x : VecM) (D X : Value) (w : World) (hX : FS w X x.ws) (hwx : x.wf) (h1 : x.right = false) :
   Calls Try.prog 79 #[.int .i64 k, .agg #[D, .int .i64 m.off, .int .i64 m.rows, .int .i64 m.cols, .int .i64 m.ld], .agg #[X, .int .i64 x.off, .int .i64 x.n, .int .i64 x.inc]] w
     (fun e w' => e = .returned (.int .i64 1) ∧ ∃ o n, w' = ext w o n) := by
  have cR : ∀ w', FS w' X x.ws → Calls Try.prog 135 #[.agg #[X, .int .i64 x.off, .int .i64 x.n, .int .i64 x.inc]] w' (fun e w2 => e = .returned (.bool false) ∧ ∃ o n, w2 = ext w' o n) := fun w' h => by
    have := right_any x _ w' h hwx; rw [h1] at this; exact this
  clear h1 hwx
  go_enter Try.func79, Try.ntmps79
  refine seq_stop ?_
  go_wp2
  refine stop_go (fun W hW => ?_)
  have s1 : w.heap.size < W.heap.size := by rw [hW]; simp only [World.size_alloc]; omega
  have b1 : ∀ i, W.cell? ⟨w.heap.size, i, none⟩ = (#[D, .int .i64 m.off, .int .i64 m.rows, .int .i64 m.cols, .int .i64 m.ld] : Array Value)[i]? := by intro i; rw [hW]; go_simp
  have s2 : w.heap.size + 1 < W.heap.size := by rw [hW]; simp only [World.size_alloc]; omega
  have b2 : ∀ i, W.cell? ⟨w.heap.size + 1, i, none⟩ = (#[X, .int .i64 x.off, .int .i64 x.n, .int .i64 x.inc] : Array Value)[i]? := by intro i; rw [hW]; go_simp
  have g0 : Grew w W := by rw [hW]; exact ((Grew.refl _).alloc _).alloc _
  clear hW
  have hXW := hX.grew g0
  go_wp2_with (first | (go_at_call 135; ((with_reducible refine (cR _ ?_).mono ?_); (focus (first | (with_reducible assumption) | (with_reducible refine FS.ext ?_ _ _; with_reducible assumption) | (with_reducible refine IS.ext ?_ _ _; with_reducible assumption) | (refine hDu _ ?_; with_reducible assumption) | (refine hOu _ ?_; with_reducible assumption) | (refine hDa _ ?_; with_reducible assumption) | (refine hDb _ ?_; with_reducible assumption) | (refine hDc _ ?_; with_reducible assumption) | (refine hDd _ ?_; with_reducible assumption) | (refine FW.fs ?_ (by omega) _; with_reducible assumption) | (refine WS.fs ?_; with_reducible assumption) | (refine FW.fs ?_ (by omega) _; assumption) | omega | assumption)); rintro e w1 ⟨rfl, oa, na, rfl⟩)))
  go_ret
  exact ⟨rfl, by (show Grew _ _; repeat (first | (with_reducible exact Grew.refl _) | (with_reducible assumption) | (with_reducible exact Grew.same_o) | (with_reducible exact Grew.app_o) | (with_reducible refine Grew.ext ?_ _ _) | (with_reducible refine Grew.alloc ?_ _) | ((with_reducible refine Grew.setCell ?_ ?_ _); rotate_left; (focus (dsimp only; first | omega | (simp only [size_ext, World.size_alloc, Array.size_append]; omega)))) | (with_reducible refine Grew.drewN ?_ _) | (with_reducible refine Grew.drew ?_)))⟩
theorem solve_0 (w : World) : Calls Try.prog 79 #[.int .i64 0, .agg #[.slice none 0 0, .int .i64 0, .int .i64 0, .int .i64 0, .int .i64 0], .agg #[.slice none 0 0, .int .i64 0, .int .i64 0, .int .i64 0]] w (fun e w' => e = .returned (.int .i64 1) ∧ ∃ o n, w' = ext w o n) :=
  solve_r 0 ⟨[], 0, 0, 0, 0⟩ ⟨[], 0, 0, 0⟩ _ _ w (FS.nil w) (by simp [VecM.wf, I64]) (by decide)
def M9a : List Nat := [4611686018427387904, 4607182418800017408, 0, 4616189618054758400]
def M9d : List Nat := [4611686018427387904, 0, 4607182418800017408, 4616189618054758400]
def X48 : List Nat := [4616189618054758400, 4620693217682128896]
def X12 : List Nat := [4607182418800017408, 4611686018427387904]
theorem dense_9 (aL : Option Addr) (w : World) (hL : FS w (.slice aL 4 4) M9a) :
   Calls Try.prog 69 #[.int .i64 2, .int .i64 2, .slice aL 4 4] w (fun e w' => ∃ v, e = .returned (.agg #[v, .int .i64 0, .int .i64 2, .int .i64 2, .int .i64 2]) ∧ WS w' w.heap.size v M9d ∧ ∃ o n, w' = ext w o n) := by
  have h := dense_any 2 2 aL M9a w hL (by decide) (by decide) (by decide) (by decide) rfl
  have e : denseL 2 2 M9a = M9d := by decide +kernel
  rw [e] at h
  exact h
theorem solve_9 (a g ca cg : Nat) (w : World) (hD : FW w a M9d) (hF : FW w g X48) (hne : g ≠ a) :
   Calls Try.prog 79 #[.int .i64 2, .agg #[.slice (some ⟨a, 0, none⟩) 4 ca, .int .i64 0, .int .i64 2, .int .i64 2, .int .i64 2], .agg #[.slice (some ⟨g, 0, none⟩) 2 cg, .int .i64 0, .int .i64 2, .int .i64 1]] w
     (fun e w' => e = .returned (.int .i64 0) ∧ But w [g] w' ∧ FW w' g X12) := by
  have h := tsolve_any 2 ⟨M9d, 0, 2, 2, 2⟩ ⟨X48, 0, 2, 1⟩ a g ca cg w (hD.fs (by decide) ca) hF (FW.plain hD) (fun e => absurd e hne) (by simp [MatM.wf, I64]) (by simp [VecM.wf, I64]) (by decide) (by decide) (by decide)
  rw [show decide (g = a) = false by simpa using hne] at h
  have e1 : tsolveE 2 ⟨M9d, 0, 2, 2, 2⟩ ⟨X48, 0, 2, 1⟩ false = 0 := by decide +kernel
  have e2 : tsolveL 2 ⟨M9d, 0, 2, 2, 2⟩ ⟨X48, 0, 2, 1⟩ false = X12 := by decide +kernel
  rw [e1, e2] at h
  exact h
set_option maxRecDepth 100000 in
set_option maxHeartbeats 1000000 in
theorem awake09 (w : World) : Calls Try.prog 78 #[] w (fun e w' => e = .returned (.bool true) ∧ ∃ o n, w' = ext w o n) := by
  have h1 : ∀ x ∈ M9a, IsF x x := by decide +kernel
  have h2 : ∀ x ∈ X48, IsF x x := by decide +kernel
  have h3 : ∀ x ∈ X12, IsF x x := by decide +kernel
  have H1 := hid h1
  have H2 := hid h2
  have H3 := hid h3
  have da : decide (X12 = X12) = true := by decide +kernel
  clear h1 h2 h3
  go_enter Try.func78, Try.ntmps78
  go_wp2_with (first | (go_at_call 79; ((with_reducible refine (solve_0 _).mono ?_); rintro e w1 ⟨rfl, hw1⟩)))
  refine name_call (fun V0 hV0 => ?_)
  have f0 : FW V0 w1.heap.size X48 := by rw [← hV0]; exact (FW.lit X48 H2.out).alloc _
  have l0 : FS V0 (.slice (some ⟨w1.heap.size + 1, 0, none⟩) 4 4) M9a := by rw [← hV0]; exact FS.lit M9a (by decide) H1.out 4 _ (by simp only [World.size_alloc])
  have gW : Grew w1 V0 := by rw [← hV0]; (show Grew _ _; repeat (first | (with_reducible exact Grew.refl _) | (with_reducible assumption) | (with_reducible exact Grew.same_o) | (with_reducible exact Grew.app_o) | (with_reducible refine Grew.ext ?_ _ _) | (with_reducible refine Grew.alloc ?_ _) | ((with_reducible refine Grew.setCell ?_ ?_ _); rotate_left; (focus (dsimp only; first | omega | (simp only [size_ext, World.size_alloc, Array.size_append]; omega)))) | (with_reducible refine Grew.drewN ?_ _) | (with_reducible refine Grew.drew ?_)))
  clear hV0
  (with_reducible refine (dense_9 _ _ l0).mono ?_)
  rintro e w2 ⟨v, rfl, ⟨g, cap, rfl, hg, hF, hgl⟩, hw2⟩
  have f2 := f0.grew hw2
  have gw2 : Grew w w2 := (Grew.trans hw1 gW).trans hw2
  have hsz : ∀ k ∈ [w1.heap.size], w.heap.size ≤ k := by intro k hk; simp at hk; rw [hk]; exact (show Grew w w1 from hw1).below.size
  have nge : w1.heap.size ≠ g := by have := f0.lt; omega
  have hs : ∀ w', FW w' g M9d → FW w' w1.heap.size X48 → Calls Try.prog 79 #[.int .i64 2, .agg #[.slice (some ⟨g, 0, none⟩) M9d.length cap, .int .i64 0, .int .i64 2, .int .i64 2, .int .i64 2], .agg #[.slice (some ⟨w1.heap.size, 0, none⟩) 2 2, .int .i64 0, .int .i64 2, .int .i64 1]] w'
     (fun e w'' => e = .returned (.int .i64 0) ∧ But w' [w1.heap.size] w'' ∧ FW w'' w1.heap.size X12) := fun w' a b => solve_9 g w1.heap.size cap 2 w' a b nge
  go_wp2_with (first | (go_at_call 79; ((with_reducible refine (hs _ hF f2).mono ?_); rintro e w1 ⟨rfl, hB, hF3⟩)) | (go_at_call 47; ((with_reducible refine (all_any _ _ X12 X12 _ ?_ ?_).mono ?_); (focus (exact (hF3.fs (by decide) 2).alloc _)); (focus (repeat (first | exact FS.lit X12 (by decide) H3.out 2 _ (by simp only [size_ext, World.size_alloc]) | exact FS.lit X12 (by decide) H3.out 2 _ rfl | refine FS.alloc ?_ _ | refine FS.ext ?_ _ _))); rintro e w4 ⟨rfl, hw4⟩)))
  go_ret
  exact ⟨rfl, (hB.grew0 gw2 hsz).trans (((Grew.refl _).alloc _).trans hw4)⟩
end Go.Proofs.Ytcmggfpcbijcjaa
end
section
/-
  A law of copy between slices of floats.
-/
set_option linter.unusedSimpArgs false
set_option linter.unusedVariables false
open Go Go.RowKit Sedge
namespace Go.Proofs.Ytcmggfpcbijcjaa
/-- The row behind a copy. -/
def cpl (ws xs : List Nat) : List Nat := (List.range ws.length).map fun i => if i < xs.length then xs.getD i 0 else ws.getD i 0
theorem cpl_length (ws xs : List Nat) : (cpl ws xs).length = ws.length := by simp [cpl]
theorem cpl_getD (ws xs : List Nat) {i : Nat} (hi : i < ws.length) : (cpl ws xs).getD i 0 = if i < xs.length then xs.getD i 0 else ws.getD i 0 := by
  unfold cpl
  rw [List.getD_eq_getElem?_getD, List.getElem?_map, List.getElem?_range hi]
  rfl
theorem cpl_self {ws xs : List Nat} (h : Nat.min xs.length ws.length = 0) : cpl ws xs = ws := by
  apply List.ext_getElem?
  intro i
  by_cases hi : i < ws.length
  · have hx : xs.length = 0 := by
      rcases Nat.le_total xs.length ws.length with h1 | h1
      · have : Nat.min xs.length ws.length = xs.length := Nat.min_eq_left h1
        omega
      · have : Nat.min xs.length ws.length = ws.length := Nat.min_eq_right h1
        omega
    have h2 := cpl_getD ws xs hi
    rw [if_neg (by omega)] at h2
    rw [List.getD_eq_getElem?_getD, List.getD_eq_getElem?_getD] at h2
    rw [List.getElem?_eq_getElem (by rw [cpl_length]; exact hi), List.getElem?_eq_getElem hi] at h2 ⊢
    simpa using h2
  · rw [List.getElem?_eq_none (by rw [cpl_length]; omega), List.getElem?_eq_none (by omega)]
theorem copyF_K {P : Program} {w : World} {ops : Array Oper} {rest : List Oper} {o : Oper} {a : Act} {Q : Exit → Act → World → Prop} (hgd : o.guard = none) (d s : Operand) (dT sT : TypeId)
    (ho : o.op = .call { callee := .builtin .copy, args := #[d, s], argTypes := #[dT, sT] }) (elem : TypeId) (hu : P.underlying dT = some (.slice elem)) (hsz : (P.info? elem).map (·.size) = some 1)
    (g dCap : Nat) (sp : Option Addr) (sCap : Nat) (ws xs : List Nat) (hd : a.eval d = .slice (some ⟨g, 0, none⟩) ws.length dCap) (hs : a.eval s = .slice sp xs.length sCap)
    (hF : FW w g ws) (hX : FS w (.slice sp xs.length sCap) xs)
    (h : ∀ w', Wrote w w' g (cpl ws xs) → wpList P ops Q rest (a.put o.dst (goInt (Nat.min xs.length ws.length))) w') : wpList P ops Q (o :: rest) a w := by
  by_cases h0 : Nat.min xs.length ws.length = 0
  · refine wpList_copy_nothing hgd d s dT sT ho elem hu hsz _ _ _ _ _ _ hd hs h0 ?_
    have := h w (by rw [cpl_self h0]; exact Wrote.refl hF)
    rw [h0] at this
    exact this
  · have hm1 : Nat.min xs.length ws.length ≤ xs.length := Nat.min_le_left _ _
    have hm2 : Nat.min xs.length ws.length ≤ ws.length := Nat.min_le_right _ _
    obtain ⟨blk, so, rfl, hblk, hc⟩ := hX.at.2 (by omega)
    obtain ⟨f, hf⟩ : ∃ f : Nat → Nat, ∀ j, j < xs.length → w.cell? ⟨blk, so + j, none⟩ = some (.float .f64 (f j)) ∧ IsF (f j) (xs.getD j 0) :=
      ⟨fun j => if hj : j < xs.length then Classical.choose (hc j hj) else 0, fun j hj => by
        simp only [dif_pos hj]; exact Classical.choose_spec (hc j hj)⟩
    obtain ⟨m, hm⟩ : ∃ m, m = Nat.min xs.length ws.length := ⟨_, rfl⟩
    obtain ⟨c, e, hb, hc1, hc2⟩ := hF
    have hlen : ((List.range m).map fun j => Value.float .f64 (f j)).length = m := by simp
    refine wpList_copy_own hgd d s dT sT ho elem hu hsz g 0 ws.length dCap ⟨blk, so, none⟩ xs.length sCap hd hs c e hb ((List.range m).map fun j => .float .f64 (f j)) (by rw [hlen, hm]) ?_ ?_ ?_ ?_
    · intro j v hv
      have hj : j < m := by
        rcases Nat.lt_or_ge j m with h1 | h1
        · exact h1
        · rw [List.getElem?_eq_none (by rw [hlen]; exact h1)] at hv; cases hv
      rw [List.getElem?_map, List.getElem?_range hj] at hv
      obtain rfl : Value.float .f64 (f j) = v := by simpa using hv
      rw [show Addr.add ⟨blk, so, none⟩ j = ⟨blk, so + j, none⟩ by unfold Addr.add; split <;> simp_all]
      exact (hf j (by omega)).1
    · rw [hlen]; omega
    · intro v hv
      simp only [List.mem_map] at hv
      obtain ⟨j, _, rfl⟩ := hv
      rfl
    · rw [hlen, hm]
      refine h _ ⟨_, #[], w.drawn, ext_zero.symm, ?_, ?_⟩
      · rw [cpl_length]
        simp only [List.take_zero, List.nil_append, List.size_toArray, List.length_append, List.length_map, List.length_range, List.length_drop, Array.length_toList]
        omega
      · intro i hi
        rw [cpl_length] at hi
        rw [cpl_getD _ _ hi]
        simp only [List.take_zero, List.nil_append, List.getElem?_toArray]
        by_cases hx : i < xs.length
        · have him : i < m := by
            rw [hm]
            exact Nat.lt_min.2 ⟨hx, hi⟩
          rw [if_pos hx, List.getElem?_append_left (by rw [List.length_map, List.length_range, ← hm]; exact him), List.getElem?_map, List.getElem?_range (by rw [← hm]; exact him)]
          exact ⟨_, rfl, (hf i hx).2⟩
        · rw [if_neg hx]
          have him : m ≤ i := by
            rw [hm]
            exact Nat.le_trans hm1 (by omega)
          rw [List.getElem?_append_right (by rw [List.length_map, List.length_range, ← hm]; exact him), List.length_map, List.length_range, ← hm, List.getElem?_drop, Nat.zero_add, show m + (i - m) = i by omega, Array.getElem?_toList]
          exact hc2 i hi
theorem copyF_K' {P : Program} {w : World} {ops : Array Oper} {rest : List Oper} {o : Oper} {a : Act} {Q : Exit → Act → World → Prop} (hgd : o.guard = none) (d s : Operand) (dT sT : TypeId)
    (ho : o.op = .call { callee := .builtin .copy, args := #[d, s], argTypes := #[dT, sT] }) (elem : TypeId) (hu : P.underlying dT = some (.slice elem)) (hsz : (P.info? elem).map (·.size) = some 1)
    (g dLen dCap : Nat) (sp : Option Addr) (sLen sCap : Nat) (ws xs : List Nat) (hd : a.eval d = .slice (some ⟨g, 0, none⟩) dLen dCap) (hs : a.eval s = .slice sp sLen sCap) (hl : ws.length = dLen)
    (hF : FW w g ws) (hX : FS w (.slice sp sLen sCap) xs)
    (h : ∀ w' z, Wrote w w' g (cpl ws xs) → wpList P ops Q rest (a.put o.dst (goInt z)) w') : wpList P ops Q (o :: rest) a w := by
  have e := hX.at.1
  subst hl e
  exact copyF_K hgd d s dT sT ho elem hu hsz g dCap sp sCap ws xs hd hs hF hX fun w' hw => h w' _ hw
end Go.Proofs.Ytcmggfpcbijcjaa
end
section
/-
  Contracts: view.Col, ger.row, ger.Ger's closure, ger.each.
-/
set_option linter.unusedSimpArgs false
set_option linter.unusedVariables false
open Go Go.RowKit Sedge
namespace Go.Proofs.Ytcmggfpcbijcjaa
def colV (m : MatM) (j : Nat) : VecM := ⟨m.ws, if 0 < m.rows then m.off + j * m.ld else m.off, m.rows, 1⟩
set_option maxRecDepth 100000 in
set_option maxHeartbeats 1000000 in
/-- view.Col. -/
theorem col_any (x : MatM) (D : Value) (j : Nat) (w : World) (hD : FS w D x.ws) (hx : x.good = true) (hwf : x.wf) (hj : (j : Int) < x.cols) :
   Calls Try.prog 149 #[.agg #[D, .int .i64 x.off, .int .i64 x.rows, .int .i64 x.cols, .int .i64 x.ld], .int .i64 j] w
     (fun e w' => e = .returned (.agg #[D, .int .i64 (colV x j).off, .int .i64 x.rows, .int .i64 1]) ∧ ∃ o n, w' = ext w o n) := by
  have hn := MatM.good_n hx
  obtain ⟨aD, capD, rfl⟩ := hD.shape
  have k1 : (!x.good) = false := by simp [hx]
  have hlen := hD.len
  have Hw := hid hwf
  have k3 : decide ((j : Int) < 0) = false := by simp
  have k4 : decide (x.cols ≤ (j : Int)) = false := by simp; omega
  by_cases hc : 0 < x.rows
  · have hp := MatM.good_place hx (i := 0) (j := j) (by simpa using hc) hj
    simp only [Int.natCast_zero, Int.add_zero] at hp
    have e : (colV x j).off = x.off + j * x.ld := by simp [colV, hc]
    have r1 : IntKind.i64.wrap ((j : Int) * x.ld) = j * x.ld := IntWalk.i64_in _ (by omega)
    have r2 : IntKind.i64.wrap (x.off + j * x.ld) = x.off + j * x.ld := IntWalk.i64_in _ (by omega)
    have Hx := hid hx
    have d5 : decide (0 < x.rows) = true := by simpa using hc
    rw [e]
    clear hx hwf e
    go_enter Try.func149, Try.ntmps149
    refine seq_stop ?_
    go_wp2
    refine stop_go (fun W hW => ?_)
    have s1 : w.heap.size < W.heap.size := by rw [hW]; simp only [World.size_alloc]; omega
    have b1 : ∀ i, W.cell? ⟨w.heap.size, i, none⟩ = (#[.slice aD x.ws.length capD, .int .i64 x.off, .int .i64 x.rows, .int .i64 x.cols, .int .i64 x.ld] : Array Value)[i]? := by intro i; rw [hW]; go_simp
    have f1 : ∀ i, W.frozen? ⟨w.heap.size, i, none⟩ = false := by intro i; rw [hW]; go_simp
    have s2 : w.heap.size + 1 < W.heap.size := by rw [hW]; simp only [World.size_alloc]; omega
    have b2 : ∀ i, W.cell? ⟨w.heap.size + 1, i, none⟩ = (#[.slice none 0 0, .int .i64 0, .int .i64 0, .int .i64 0] : Array Value)[i]? := by intro i; rw [hW]; go_simp
    have f2 : ∀ i, W.frozen? ⟨w.heap.size + 1, i, none⟩ = false := by intro i; rw [hW]; go_simp
    have g0 : Grew w W := by rw [hW]; exact ((Grew.refl _).alloc _).alloc _
    clear hW
    have hDW : FS W (.slice aD x.ws.length capD) x.ws := hD.grew g0
    go_wp2_with (first | (go_at_call 130; ((with_reducible refine (good_any x _ _ ?_ Hw.out).mono ?_); (focus (first | (with_reducible assumption) | (with_reducible refine FS.ext ?_ _ _; with_reducible assumption) | (with_reducible refine IS.ext ?_ _ _; with_reducible assumption) | (refine hDu _ ?_; with_reducible assumption) | (refine hOu _ ?_; with_reducible assumption) | (refine hDa _ ?_; with_reducible assumption) | (refine hDb _ ?_; with_reducible assumption) | (refine hDc _ ?_; with_reducible assumption) | (refine hDd _ ?_; with_reducible assumption) | (refine FW.fs ?_ (by omega) _; with_reducible assumption) | (refine WS.fs ?_; with_reducible assumption) | (refine FW.fs ?_ (by omega) _; assumption) | omega | assumption)); rintro e w1 ⟨rfl, o1, n1, rfl⟩)))
    refine bodyPost_ret (v := .agg #[.slice aD x.ws.length capD, .int .i64 (x.off + j * x.ld), .int .i64 x.rows, .int .i64 1]) (by simp [results, Try.results149, go_sem, *]) rfl ?_
    exact ⟨rfl, by (show Grew _ _; repeat (first | (with_reducible exact Grew.refl _) | (with_reducible assumption) | (with_reducible exact Grew.same_o) | (with_reducible exact Grew.app_o) | (with_reducible refine Grew.ext ?_ _ _) | (with_reducible refine Grew.alloc ?_ _) | ((with_reducible refine Grew.setCell ?_ ?_ _); rotate_left; (focus (dsimp only; first | omega | (simp only [size_ext, World.size_alloc, Array.size_append]; omega)))) | (with_reducible refine Grew.drewN ?_ _) | (with_reducible refine Grew.drew ?_)))⟩
  · have e : (colV x j).off = x.off := by simp [colV, hc]
    have Hx := hid hx
    have d5 : decide (0 < x.rows) = false := by simpa using hc
    rw [e]
    clear hx hwf e
    go_enter Try.func149, Try.ntmps149
    refine seq_stop ?_
    go_wp2
    refine stop_go (fun W hW => ?_)
    have s1 : w.heap.size < W.heap.size := by rw [hW]; simp only [World.size_alloc]; omega
    have b1 : ∀ i, W.cell? ⟨w.heap.size, i, none⟩ = (#[.slice aD x.ws.length capD, .int .i64 x.off, .int .i64 x.rows, .int .i64 x.cols, .int .i64 x.ld] : Array Value)[i]? := by intro i; rw [hW]; go_simp
    have f1 : ∀ i, W.frozen? ⟨w.heap.size, i, none⟩ = false := by intro i; rw [hW]; go_simp
    have s2 : w.heap.size + 1 < W.heap.size := by rw [hW]; simp only [World.size_alloc]; omega
    have b2 : ∀ i, W.cell? ⟨w.heap.size + 1, i, none⟩ = (#[.slice none 0 0, .int .i64 0, .int .i64 0, .int .i64 0] : Array Value)[i]? := by intro i; rw [hW]; go_simp
    have f2 : ∀ i, W.frozen? ⟨w.heap.size + 1, i, none⟩ = false := by intro i; rw [hW]; go_simp
    have g0 : Grew w W := by rw [hW]; exact ((Grew.refl _).alloc _).alloc _
    clear hW
    have hDW : FS W (.slice aD x.ws.length capD) x.ws := hD.grew g0
    go_wp2_with (first | (go_at_call 130; ((with_reducible refine (good_any x _ _ ?_ Hw.out).mono ?_); (focus (first | (with_reducible assumption) | (with_reducible refine FS.ext ?_ _ _; with_reducible assumption) | (with_reducible refine IS.ext ?_ _ _; with_reducible assumption) | (refine hDu _ ?_; with_reducible assumption) | (refine hOu _ ?_; with_reducible assumption) | (refine hDa _ ?_; with_reducible assumption) | (refine hDb _ ?_; with_reducible assumption) | (refine hDc _ ?_; with_reducible assumption) | (refine hDd _ ?_; with_reducible assumption) | (refine FW.fs ?_ (by omega) _; with_reducible assumption) | (refine WS.fs ?_; with_reducible assumption) | (refine FW.fs ?_ (by omega) _; assumption) | omega | assumption)); rintro e w1 ⟨rfl, o1, n1, rfl⟩)))
    refine bodyPost_ret (v := .agg #[.slice aD x.ws.length capD, .int .i64 x.off, .int .i64 x.rows, .int .i64 1]) (by simp [results, Try.results149, go_sem, *]) rfl ?_
    exact ⟨rfl, by (show Grew _ _; repeat (first | (with_reducible exact Grew.refl _) | (with_reducible assumption) | (with_reducible exact Grew.same_o) | (with_reducible exact Grew.app_o) | (with_reducible refine Grew.ext ?_ _ _) | (with_reducible refine Grew.alloc ?_ _) | ((with_reducible refine Grew.setCell ?_ ?_ _); rotate_left; (focus (dsimp only; first | omega | (simp only [size_ext, World.size_alloc, Array.size_append]; omega)))) | (with_reducible refine Grew.drewN ?_ _) | (with_reducible refine Grew.drew ?_)))⟩
set_option maxRecDepth 100000 in
set_option maxHeartbeats 1000000 in
/-- ger.row. -/
theorem grow_any (x : VecM) (a : Option Addr) (l c : Nat) (w : World) :
   Calls Try.prog 137 #[.agg #[.slice a l c, .int .i64 x.off, .int .i64 x.n, .int .i64 x.inc]] w (fun e w' => e = .returned (.agg #[.slice a l c, .int .i64 x.off, .int .i64 1, .int .i64 x.n, .int .i64 x.inc]) ∧ ∃ o n, w' = ext w o n) := by
  go_enter Try.func137, Try.ntmps137
  refine seq_stop ?_
  go_wp2
  refine stop_go (fun W hW => ?_)
  have s1 : w.heap.size < W.heap.size := by rw [hW]; simp only [World.size_alloc]; omega
  have b1 : ∀ i, W.cell? ⟨w.heap.size, i, none⟩ = (#[.slice a l c, .int .i64 x.off, .int .i64 x.n, .int .i64 x.inc] : Array Value)[i]? := by intro i; rw [hW]; go_simp
  have f1 : ∀ i, W.frozen? ⟨w.heap.size, i, none⟩ = false := by intro i; rw [hW]; go_simp
  have s2 : w.heap.size + 1 < W.heap.size := by rw [hW]; simp only [World.size_alloc]; omega
  have b2 : ∀ i, W.cell? ⟨w.heap.size + 1, i, none⟩ = (#[.slice none 0 0, .int .i64 0, .int .i64 0, .int .i64 0, .int .i64 0] : Array Value)[i]? := by intro i; rw [hW]; go_simp
  have f2 : ∀ i, W.frozen? ⟨w.heap.size + 1, i, none⟩ = false := by intro i; rw [hW]; go_simp
  have g0 : Grew w W := by rw [hW]; exact ((Grew.refl _).alloc _).alloc _
  clear hW
  go_wp2
  refine bodyPost_ret (v := .agg #[.slice a l c, .int .i64 x.off, .int .i64 1, .int .i64 x.n, .int .i64 x.inc]) (by simp [results, Try.results137, go_sem, *]) rfl ?_
  exact ⟨rfl, by (show Grew _ _; repeat (first | (with_reducible exact Grew.refl _) | (with_reducible assumption) | (with_reducible exact Grew.same_o) | (with_reducible exact Grew.app_o) | (with_reducible refine Grew.ext ?_ _ _) | (with_reducible refine Grew.alloc ?_ _) | ((with_reducible refine Grew.setCell ?_ ?_ _); rotate_left; (focus (dsimp only; first | omega | (simp only [size_ext, World.size_alloc, Array.size_append]; omega)))) | (with_reducible refine Grew.drewN ?_ _) | (with_reducible refine Grew.drew ?_)))⟩
theorem hmf (fn : Fn) (first cap : Array Value) (w : World) : (Instr.makeFunc fn first cap).run Try.prog w = .ok (.func fn first cap) w := rfl
/-- What a closure of ger.each does at a place. -/
def DoesAt (w : World) (m : MatM) (g : Nat) (q1 q2 q3 : Value) (F : Nat → Nat → Nat → Nat) : Prop :=
  ∀ w' L s, But w [g] w' → FW w' g L → Hold m.place m.rows.toNat m.cols.toNat m.ws L s → ∀ i j : Nat, (i : Int) < m.rows → (j : Int) < m.cols →
    Calls Try.prog 139 #[.int .i64 i, .int .i64 j, .pointer (some ⟨g, (m.off + j * m.ld + i).toNat, none⟩), q1, q2, q3] w' (fun e w2 => e = .returned (.tuple #[]) ∧ Wrote w' w2 g (L.set (m.place i j) (F i j (s i j))))
def stepF (F : Nat → Nat → Nat → Nat) (s : Nat → Nat → Nat) (j i : Nat) (r c : Nat) : Nat := if c < j ∨ (c = j ∧ r < i) then F r c (s r c) else s r c
set_option maxRecDepth 100000 in
set_option maxHeartbeats 2000000 in
/-- ger.each. -/
theorem each_any (m : MatM) (g ca : Nat) (q1 q2 q3 : Value) (F : Nat → Nat → Nat → Nat) (w : World) (hF : FW w g m.ws) (hm : m.good = true) (hwm : m.wf) (hlm : m.ws.length ≤ 1000000) (hr : m.rows ≤ 1000) (hc : m.cols ≤ 1000)
    (hdo : DoesAt w m g q1 q2 q3 F) :
   Calls Try.prog 138 #[.agg #[.slice (some ⟨g, 0, none⟩) m.ws.length ca, .int .i64 m.off, .int .i64 m.rows, .int .i64 m.cols, .int .i64 m.ld], .func (.func 139) #[] #[q1, q2, q3]] w
     (fun e w' => e = .returned (.tuple #[]) ∧ But w [g] w' ∧ ∃ L, FW w' g L ∧ Hold m.place m.rows.toNat m.cols.toNat m.ws L (fun i j => F i j (m.num i j))) := by
  have hn := MatM.good_n hm
  have hltg := hF.lt
  have hpl := MatM.places hm
  have Hm := hid hm
  have hcl : ∀ w', FS w' (.slice (some ⟨g, 0, none⟩) m.ws.length ca) m.ws → True := fun _ _ => trivial
  have hcolA : ∀ (j : Nat) (L : List Nat) w', L.length = m.ws.length → FW w' g L → (j : Int) < m.cols → 0 < m.rows → Calls Try.prog 149 #[.agg #[.slice (some ⟨g, 0, none⟩) m.ws.length ca, .int .i64 m.off, .int .i64 m.rows, .int .i64 m.cols, .int .i64 m.ld], .int .i64 j] w'
      (fun e w2 => e = .returned (.agg #[.slice (some ⟨g, 0, none⟩) m.ws.length ca, .int .i64 (m.off + j * m.ld), .int .i64 m.rows, .int .i64 1]) ∧ ∃ o n, w2 = ext w' o n) := fun j L w' hl h hj h0 => by
    have h1 := h.fs (by omega) ca
    rw [hl] at h1
    have := col_any (withL m L) (.slice (some ⟨g, 0, none⟩) m.ws.length ca) j w' h1 (by rw [withL_good hl]; exact hm) hwm hj
    have e : (colV (withL m L) j).off = m.off + j * m.ld := by unfold colV withL; simp [h0]
    rw [e] at this
    exact this
  by_cases h0 : m.rows = 0
  · have d0 : (m.rows == 0) = true := by simpa using h0
    have hh : Hold m.place m.rows.toNat m.cols.toNat m.ws m.ws (fun i j => F i j (m.num i j)) := ⟨rfl, fun i j hi hj => by omega, fun _ _ => rfl⟩
    clear hdo hm hwm
    go_enter Try.func138, Try.ntmps138
    refine seq_stop ?_
    go_wp2
    refine stop_go (fun W hW => ?_)
    have s1 : w.heap.size < W.heap.size := by rw [hW]; simp only [World.size_alloc]; omega
    have b1 : ∀ i, W.cell? ⟨w.heap.size, i, none⟩ = (#[.slice (some ⟨g, 0, none⟩) m.ws.length ca, .int .i64 m.off, .int .i64 m.rows, .int .i64 m.cols, .int .i64 m.ld] : Array Value)[i]? := by intro i; rw [hW]; go_simp
    have g0 : Grew w W := by rw [hW]; exact (Grew.refl _).alloc _
    clear hW
    go_wp2
    refine bodyPost_ret (v := .tuple #[]) (by simp [results, Try.results138, go_sem, *]) rfl ?_
    exact ⟨rfl, (But.refl w [g]).grew (by (show Grew _ _; repeat (first | (with_reducible exact Grew.refl _) | (with_reducible assumption) | (with_reducible exact Grew.same_o) | (with_reducible exact Grew.app_o) | (with_reducible refine Grew.ext ?_ _ _) | (with_reducible refine Grew.alloc ?_ _) | ((with_reducible refine Grew.setCell ?_ ?_ _); rotate_left; (focus (dsimp only; first | omega | (simp only [size_ext, World.size_alloc, Array.size_append]; omega)))) | (with_reducible refine Grew.drewN ?_ _) | (with_reducible refine Grew.drew ?_)))), m.ws, hF.grew (by (show Grew _ _; repeat (first | (with_reducible exact Grew.refl _) | (with_reducible assumption) | (with_reducible exact Grew.same_o) | (with_reducible exact Grew.app_o) | (with_reducible refine Grew.ext ?_ _ _) | (with_reducible refine Grew.alloc ?_ _) | ((with_reducible refine Grew.setCell ?_ ?_ _); rotate_left; (focus (dsimp only; first | omega | (simp only [size_ext, World.size_alloc, Array.size_append]; omega)))) | (with_reducible refine Grew.drewN ?_ _) | (with_reducible refine Grew.drew ?_)))), hh⟩
  · have d0 : (m.rows == 0) = false := by simpa using h0
    have h1 : 0 < m.rows := by omega
    clear hm hwm
    go_enter Try.func138, Try.ntmps138
    refine seq_stop ?_
    go_wp2
    refine stop_go (fun W hW => ?_)
    have s1 : w.heap.size < W.heap.size := by rw [hW]; simp only [World.size_alloc]; omega
    have b1 : ∀ i, W.cell? ⟨w.heap.size, i, none⟩ = (#[.slice (some ⟨g, 0, none⟩) m.ws.length ca, .int .i64 m.off, .int .i64 m.rows, .int .i64 m.cols, .int .i64 m.ld] : Array Value)[i]? := by intro i; rw [hW]; go_simp
    have g0 : Grew w W := by rw [hW]; exact (Grew.refl _).alloc _
    clear hW
    have zW := g0.below.size
    have bw : ∀ w', But W [g] w' → But w [g] w' := fun w' h => ((But.refl w [g]).grew g0).trans h (fun _ hb => .inl hb)
    have hFW : FW W g m.ws := hF.grew g0
    have cU : ∀ w', But W [g] w' → ∀ i, w'.cell? ⟨w.heap.size, i, none⟩ = (#[.slice (some ⟨g, 0, none⟩) m.ws.length ca, .int .i64 m.off, .int .i64 m.rows, .int .i64 m.cols, .int .i64 m.ld] : Array Value)[i]? := fun w' h i => (h.cell s1 (by simp; omega)).trans (b1 i)
    go_wp2
    go_loopw [12] (fun c wr => ∃ (j : Nat) (L : List Nat), (j : Int) ≤ m.cols ∧ c = .int .i64 j ∧ But W [g] wr ∧ FW wr g L ∧ Hold m.place m.rows.toNat m.cols.toNat m.ws L (stepF F m.num j 0)) (fun c _ => (m.cols - intOf c).toNat)
    case atStart => exact ⟨0, m.ws, hn.2.1, rfl, But.refl _ _, hFW, MatM.hold.congr fun i j _ _ => by simp [stepF]⟩
    case round =>
      obtain ⟨j, L, hj, rfl, hB, hL, hH⟩ := hrel
      have tT := cU _ hB
      have zB := hB.size
      have kT : w.heap.size < wr.heap.size := by omega
      by_cases hlt : (j : Int) < m.cols
      · have hlt' := hid hlt
        have hcj := fun w' (h : FW w' g L) => hcolA j L w' hH.len h hlt h1
        go_wp2_with (first | (go_at_call 149; ((with_reducible refine (hcj _ hL).mono ?_); rintro e w1 ⟨rfl, oc, nc, rfl⟩)))
        refine name_any (fun V hV => ?_)
        have gV : Grew wr V := by rw [← hV]; (show Grew _ _; repeat (first | (with_reducible exact Grew.refl _) | (with_reducible assumption) | (with_reducible exact Grew.same_o) | (with_reducible exact Grew.app_o) | (with_reducible refine Grew.ext ?_ _ _) | (with_reducible refine Grew.alloc ?_ _) | ((with_reducible refine Grew.setCell ?_ ?_ _); rotate_left; (focus (dsimp only; first | omega | (simp only [size_ext, World.size_alloc, Array.size_append]; omega)))) | (with_reducible refine Grew.drewN ?_ _) | (with_reducible refine Grew.drew ?_)))
        have BV : But W [g] V := hB.grew gV
        have cT : ∀ i, V.cell? ⟨wr.heap.size + oc.size, i, none⟩ = (#[.slice (some ⟨g, 0, none⟩) m.ws.length ca, .int .i64 (m.off + j * m.ld), .int .i64 m.rows, .int .i64 1] : Array Value)[i]? := by subst hV; intro i; go_simp
        have kV : wr.heap.size + oc.size < V.heap.size := by rw [← hV]; simp only [World.size_alloc, size_ext]; omega
        obtain ⟨T, hT⟩ : ∃ T, wr.heap.size + oc.size = T := ⟨_, rfl⟩
        have zT : wr.heap.size ≤ T := by omega
        rw [hT] at cT kV
        simp only [hT]
        have ltg2 := hL.lt
        have cV : ∀ w', But V [g] w' → ∀ i, w'.cell? ⟨T, i, none⟩ = (#[.slice (some ⟨g, 0, none⟩) m.ws.length ca, .int .i64 (m.off + j * m.ld), .int .i64 m.rows, .int .i64 1] : Array Value)[i]? := fun w' h i => (h.cell kV (by simp; omega)).trans (cT i)
        have bV : ∀ w', But V [g] w' → But W [g] w' := fun w' h => BV.trans h (fun _ hb => .inl hb)
        have hLV : FW V g L := hL.grew gV
        clear hV hT cT
        go_wp2
        go_loopw [20] (fun c wr => ∃ (i : Nat) (L : List Nat), (i : Int) ≤ m.rows ∧ c = .int .i64 i ∧ But V [g] wr ∧ FW wr g L ∧ Hold m.place m.rows.toNat m.cols.toNat m.ws L (stepF F m.num j i)) (fun c _ => (m.rows - intOf c).toNat)
        case atStart => exact ⟨0, L, by omega, rfl, But.refl _ _, hLV, hH⟩
        case round =>
          obtain ⟨i, L2, hi, rfl, hB2, hL2, hH2⟩ := hrel
          have tV := cV _ hB2
          have zB2 := hB2.size
          have kT2 : T < wr.heap.size := by omega
          by_cases hli : (i : Int) < m.rows
          · have hp := MatM.good_place Hm.out hli hlt'.out
            have r1 : IntKind.i64.wrap (m.off + j * m.ld + i) = m.off + j * m.ld + i := IntWalk.i64_in _ (by omega)
            have e1 : 0 ≤ m.off + j * m.ld + i := by omega
            have e2 : m.off + j * m.ld + i < m.ws.length := by omega
            have hcall := hdo wr L2 _ (bw _ (bV _ hB2)) hL2 hH2 i j hli hlt'.out
            go_wp2_with (first | (go_at_call 139; ((with_reducible refine (hcall).mono ?_); rintro e w1 ⟨rfl, hw1⟩)))
            go_roundw
            case rel =>
              refine ⟨i + 1, _, by omega, by go_num, hB2.wrote hw1 (.inl (by simp)), hw1.fw hL2, (hH2.set hpl (by omega) (by have := hlt'.out; omega)).congr fun r c hr hc => ?_⟩
              unfold stepF
              by_cases hrc : r = i ∧ c = j
              · obtain ⟨rfl, rfl⟩ := hrc
                simp
              · rw [if_neg hrc]
                by_cases h2 : c < j ∨ (c = j ∧ r < i)
                · rw [if_pos h2, if_pos (by omega)]
                · rw [if_neg h2, if_neg (by omega)]
            case measure => simp [intOf]; omega
          · have e : i = m.rows.toNat := by omega
            go_wp2
            go_roundw
            case rel =>
              refine ⟨j + 1, L2, by have := hlt'.out; omega, by go_num, bV _ hB2, hL2, hH2.congr fun r c hr hc => ?_⟩
              unfold stepF
              by_cases h2 : c < j ∨ (c = j ∧ r < i)
              · rw [if_pos h2, if_pos (by omega)]
              · rw [if_neg h2, if_neg (by omega)]
            case measure => (have := hlt'.out; simp [intOf]; omega)
      · go_wp2
        go_end0
        refine ⟨rfl, bw _ hB, L, hL, hH.congr fun r c hr hc => ?_⟩
        unfold stepF
        rw [if_pos (by omega)]
end Go.Proofs.Ytcmggfpcbijcjaa
end
section
/-
  Contracts: gemv.row, at, begin, Mul's closure, columns.
-/
set_option linter.unusedSimpArgs false
set_option linter.unusedVariables false
open Go Go.RowKit Sedge
namespace Go.Proofs.Ytcmggfpcbijcjaa
set_option maxRecDepth 100000 in
set_option maxHeartbeats 1000000 in
/-- gemv.row. -/
theorem vrow_any (x : VecM) (a : Option Addr) (l c : Nat) (w : World) :
   Calls Try.prog 196 #[.agg #[.slice a l c, .int .i64 x.off, .int .i64 x.n, .int .i64 x.inc]] w (fun e w' => e = .returned (.agg #[.slice a l c, .int .i64 x.off, .int .i64 1, .int .i64 x.n, .int .i64 x.inc]) ∧ ∃ o n, w' = ext w o n) := by
  go_enter Try.func196, Try.ntmps196
  refine seq_stop ?_
  go_wp2
  refine stop_go (fun W hW => ?_)
  have s1 : w.heap.size < W.heap.size := by rw [hW]; simp only [World.size_alloc]; omega
  have b1 : ∀ i, W.cell? ⟨w.heap.size, i, none⟩ = (#[.slice a l c, .int .i64 x.off, .int .i64 x.n, .int .i64 x.inc] : Array Value)[i]? := by intro i; rw [hW]; go_simp
  have f1 : ∀ i, W.frozen? ⟨w.heap.size, i, none⟩ = false := by intro i; rw [hW]; go_simp
  have s2 : w.heap.size + 1 < W.heap.size := by rw [hW]; simp only [World.size_alloc]; omega
  have b2 : ∀ i, W.cell? ⟨w.heap.size + 1, i, none⟩ = (#[.slice none 0 0, .int .i64 0, .int .i64 0, .int .i64 0, .int .i64 0] : Array Value)[i]? := by intro i; rw [hW]; go_simp
  have f2 : ∀ i, W.frozen? ⟨w.heap.size + 1, i, none⟩ = false := by intro i; rw [hW]; go_simp
  have g0 : Grew w W := by rw [hW]; exact ((Grew.refl _).alloc _).alloc _
  clear hW
  go_wp2
  refine bodyPost_ret (v := .agg #[.slice a l c, .int .i64 x.off, .int .i64 1, .int .i64 x.n, .int .i64 x.inc]) (by simp [results, Try.results196, go_sem, *]) rfl ?_
  exact ⟨rfl, by (show Grew _ _; repeat (first | (with_reducible exact Grew.refl _) | (with_reducible assumption) | (with_reducible exact Grew.same_o) | (with_reducible exact Grew.app_o) | (with_reducible refine Grew.ext ?_ _ _) | (with_reducible refine Grew.alloc ?_ _) | ((with_reducible refine Grew.setCell ?_ ?_ _); rotate_left; (focus (dsimp only; first | omega | (simp only [size_ext, World.size_alloc, Array.size_append]; omega)))) | (with_reducible refine Grew.drewN ?_ _) | (with_reducible refine Grew.drew ?_)))⟩
set_option maxRecDepth 100000 in
set_option maxHeartbeats 1000000 in
/-- gemv.at. -/
theorem gat_any (x : VecM) (g cap i : Nat) (w : World) (hx : x.right = true) (hi : (i : Int) < x.n) (hl : x.ws.length ≤ 1000000) :
   Calls Try.prog 160 #[.agg #[.slice (some ⟨g, 0, none⟩) x.ws.length cap, .int .i64 x.off, .int .i64 x.n, .int .i64 x.inc], .int .i64 i] w
     (fun e w' => e = .returned (.pointer (some ⟨g, x.place i, none⟩)) ∧ ∃ o n, w' = ext w o n) := by
  have hp := VecM.right_place hx hi
  have hn := VecM.right_n hx
  have r1 : IntKind.i64.wrap (i * x.inc) = i * x.inc := IntWalk.i64_in _ (by omega)
  have r2 : IntKind.i64.wrap (x.off + i * x.inc) = x.off + i * x.inc := IntWalk.i64_in _ (by omega)
  unfold VecM.place
  clear hx
  go_enter Try.func160, Try.ntmps160
  refine seq_stop ?_
  go_wp2
  refine stop_go (fun W hW => ?_)
  have s1 : w.heap.size < W.heap.size := by rw [hW]; simp only [World.size_alloc]; omega
  have b1 : ∀ i, W.cell? ⟨w.heap.size, i, none⟩ = (#[.slice (some ⟨g, 0, none⟩) x.ws.length cap, .int .i64 x.off, .int .i64 x.n, .int .i64 x.inc] : Array Value)[i]? := by intro i; rw [hW]; go_simp
  have g0 : Grew w W := by rw [hW]; exact (Grew.refl _).alloc _
  clear hW
  go_wp2
  go_ret
  exact ⟨rfl, by (show Grew _ _; repeat (first | (with_reducible exact Grew.refl _) | (with_reducible assumption) | (with_reducible exact Grew.same_o) | (with_reducible exact Grew.app_o) | (with_reducible refine Grew.ext ?_ _ _) | (with_reducible refine Grew.alloc ?_ _) | ((with_reducible refine Grew.setCell ?_ ?_ _); rotate_left; (focus (dsimp only; first | omega | (simp only [size_ext, World.size_alloc, Array.size_append]; omega)))) | (with_reducible refine Grew.drewN ?_ _) | (with_reducible refine Grew.drew ?_)))⟩
/-- A good matrix' column is right. -/
theorem colV_right {m : MatM} (hm : m.good = true) {j : Nat} (hj : (j : Int) < m.cols) (h0 : 0 < m.rows) : (colV m j).right = true := by
  have hn := MatM.good_n hm
  have hp := MatM.good_place hm (i := (m.rows - 1).toNat) (j := j) (by omega) hj
  have hp0 := MatM.good_place hm (i := 0) (j := j) (by omega) hj
  unfold VecM.right colV fitsB
  simp only [h0, if_true, Bool.and_eq_true, Bool.or_eq_true, decide_eq_true_eq]
  rw [Int.toNat_of_nonneg (by omega)] at hp
  simp only [Int.natCast_zero, Int.add_zero] at hp0
  refine ⟨by omega, .inr ⟨by omega, by omega⟩⟩
/-- A number that is begun. -/
def beginF (β z : Nat) : Nat := if feq0 β = true then 0 else fmul β z
def stepV (F : Nat → Nat) (s : Nat → Nat) (i r : Nat) : Nat := if r < i then F (s r) else s r
theorem stepV_set {x : VecM} {L : List Nat} {s : Nat → Nat} {F : Nat → Nat} {i v : Nat} (h : VH x L (stepV F s i)) (hx : x.right = true) (hi : (i : Int) < x.n) (hv : v = F (s i)) : VH x (L.set (x.place i) v) (stepV F s (i + 1)) := by
  refine (h.set hx hi).congr fun r hr => ?_
  unfold stepV
  by_cases e : r = i
  · subst e; simp [hv]
  · rw [if_neg e]
    by_cases h2 : r < i
    · rw [if_pos h2, if_pos (by omega)]
    · rw [if_neg h2, if_neg (by omega)]
set_option maxRecDepth 100000 in
set_option maxHeartbeats 2000000 in
/-- gemv.begin. -/
theorem begin_any (b β : Nat) (y : VecM) (g cap : Nat) (s : Nat → Nat) (L0 : List Nat) (w : World) (hb : IsF b β) (hF : FW w g L0) (hV : VH y L0 s) (hy : y.right = true) (hl : y.ws.length ≤ 1000000) :
   Calls Try.prog 145 #[.float .f64 b, .agg #[.slice (some ⟨g, 0, none⟩) y.ws.length cap, .int .i64 y.off, .int .i64 y.n, .int .i64 y.inc]] w
     (fun e w' => e = .returned (.tuple #[]) ∧ But w [g] w' ∧ ∃ L, FW w' g L ∧ VH y L (fun r => beginF β (s r))) := by
  have hn := VecM.right_n hy
  have hnl := VecM.right_nle hy hl
  have hltg := hF.lt
  have Hy := hid hy
  have hat : ∀ i : Nat, (i : Int) < y.n → ∀ w', Calls Try.prog 160 #[.agg #[.slice (some ⟨g, 0, none⟩) y.ws.length cap, .int .i64 y.off, .int .i64 y.n, .int .i64 y.inc], .int .i64 i] w' (fun e w2 => e = .returned (.pointer (some ⟨g, y.place i, none⟩)) ∧ ∃ o n, w2 = ext w' o n) := fun i hi w' => gat_any y g cap i w' hy hi hl
  clear hy
  cases hz : feq0 β
  · have hz' : (FloatKind.f64.format.order b 0 == some Ordering.eq) = false := by rw [← hz]; unfold feq0; rw [← hb.order isF_zero]; rfl
    have hbf : ∀ z, fmul β z = beginF β z := fun z => by unfold beginF; rw [hz]; rfl
    go_enter Try.func145, Try.ntmps145
    refine seq_stop ?_
    go_wp2
    refine stop_go (fun W hW => ?_)
    have s1 : w.heap.size < W.heap.size := by rw [hW]; simp only [World.size_alloc]; omega
    have b1 : ∀ i, W.cell? ⟨w.heap.size, i, none⟩ = (#[.slice (some ⟨g, 0, none⟩) y.ws.length cap, .int .i64 y.off, .int .i64 y.n, .int .i64 y.inc] : Array Value)[i]? := by intro i; rw [hW]; go_simp
    have g0 : Grew w W := by rw [hW]; exact (Grew.refl _).alloc _
    clear hW
    have zW := g0.below.size
    have bw : ∀ w', But W [g] w' → But w [g] w' := fun w' h => ((But.refl w [g]).grew g0).trans h (fun _ hb => .inl hb)
    have cU : ∀ w', But W [g] w' → ∀ i, w'.cell? ⟨w.heap.size, i, none⟩ = (#[.slice (some ⟨g, 0, none⟩) y.ws.length cap, .int .i64 y.off, .int .i64 y.n, .int .i64 y.inc] : Array Value)[i]? := fun w' h i => (h.cell s1 (by simp; omega)).trans (b1 i)
    have hFW := hF.grew g0
    go_wp2
    go_loopw [8] (fun c wr => ∃ (i : Nat) (L : List Nat), (i : Int) ≤ y.n ∧ c = .int .i64 i ∧ But W [g] wr ∧ FW wr g L ∧ VH y L (stepV (beginF β) s i)) (fun c _ => (y.n - intOf c).toNat)
    case atStart => exact ⟨0, L0, hn.1, rfl, But.refl _ _, hFW, hV.congr fun r _ => by simp [stepV]⟩
    case round =>
      obtain ⟨i, L, hi, rfl, hB, hL, hS⟩ := hrel
      have tT := cU _ hB
      have zB := hB.size
      have kT : w.heap.size < wr.heap.size := by omega
      by_cases hlt : (i : Int) < y.n
      · have hlt' := hid hlt
        have hati := hat i hlt
        obtain ⟨r0, hr0, hf0⟩ := hL.get (i := y.place i) (by rw [hS.len]; exact VecM.place_lt Hy.out hlt)
        have gl := hL.lt
        have fz : ∀ i, wr.frozen? ⟨g, i, none⟩ = false := hL.notFrozen
        go_wp2_with (first | (go_at_call 160; ((with_reducible refine (hati _).mono ?_); rintro e w1 ⟨rfl, o1, n1, rfl⟩)) | ((with_reducible refine upon_id ?_); refine upon_fop rfl (by assumption) (by assumption) ?_; intro rr nn hr))
        go_roundw
        case rel => exact ⟨i + 1, _, by have := hlt'.out; omega, by go_num, (hB.setc hL (by simp)).grew ⟨_, _, rfl⟩, (hL.setc (k := y.place i) hr).ext _ _, stepV_set hS Hy.out hlt'.out (by rw [← hbf, hS.get i hlt'.out]; unfold stepV; rw [if_neg (by omega)]; rfl)⟩
        case measure => (have := hlt'.out; simp [intOf]; omega)
      · go_wp2
        go_end0
        exact ⟨rfl, bw _ hB, L, hL, hS.congr fun r hr => by unfold stepV; rw [if_pos (by omega)]⟩
  · have hz' : (FloatKind.f64.format.order b 0 == some Ordering.eq) = true := by rw [← hz]; unfold feq0; rw [← hb.order isF_zero]; rfl
    have hbf : ∀ z, 0 = beginF β z := fun z => by unfold beginF; rw [hz]; rfl
    go_enter Try.func145, Try.ntmps145
    refine seq_stop ?_
    go_wp2
    refine stop_go (fun W hW => ?_)
    have s1 : w.heap.size < W.heap.size := by rw [hW]; simp only [World.size_alloc]; omega
    have b1 : ∀ i, W.cell? ⟨w.heap.size, i, none⟩ = (#[.slice (some ⟨g, 0, none⟩) y.ws.length cap, .int .i64 y.off, .int .i64 y.n, .int .i64 y.inc] : Array Value)[i]? := by intro i; rw [hW]; go_simp
    have g0 : Grew w W := by rw [hW]; exact (Grew.refl _).alloc _
    clear hW
    have zW := g0.below.size
    have bw : ∀ w', But W [g] w' → But w [g] w' := fun w' h => ((But.refl w [g]).grew g0).trans h (fun _ hb => .inl hb)
    have cU : ∀ w', But W [g] w' → ∀ i, w'.cell? ⟨w.heap.size, i, none⟩ = (#[.slice (some ⟨g, 0, none⟩) y.ws.length cap, .int .i64 y.off, .int .i64 y.n, .int .i64 y.inc] : Array Value)[i]? := fun w' h i => (h.cell s1 (by simp; omega)).trans (b1 i)
    have hFW := hF.grew g0
    go_wp2
    go_loopw [8] (fun c wr => ∃ (i : Nat) (L : List Nat), (i : Int) ≤ y.n ∧ c = .int .i64 i ∧ But W [g] wr ∧ FW wr g L ∧ VH y L (stepV (beginF β) s i)) (fun c _ => (y.n - intOf c).toNat)
    case atStart => exact ⟨0, L0, hn.1, rfl, But.refl _ _, hFW, hV.congr fun r _ => by simp [stepV]⟩
    case round =>
      obtain ⟨i, L, hi, rfl, hB, hL, hS⟩ := hrel
      have tT := cU _ hB
      have zB := hB.size
      have kT : w.heap.size < wr.heap.size := by omega
      by_cases hlt : (i : Int) < y.n
      · have hlt' := hid hlt
        have hati := hat i hlt
        obtain ⟨r0, hr0, hf0⟩ := hL.get (i := y.place i) (by rw [hS.len]; exact VecM.place_lt Hy.out hlt)
        have gl := hL.lt
        have fz : ∀ i, wr.frozen? ⟨g, i, none⟩ = false := hL.notFrozen
        go_wp2_with (first | (go_at_call 160; ((with_reducible refine (hati _).mono ?_); rintro e w1 ⟨rfl, o1, n1, rfl⟩)))
        go_roundw
        case rel => exact ⟨i + 1, _, by have := hlt'.out; omega, by go_num, (hB.setc hL (by simp)).grew ⟨_, _, rfl⟩, (hL.setc (k := y.place i) isF_zero).ext _ _, stepV_set hS Hy.out hlt'.out (hbf _)⟩
        case measure => (have := hlt'.out; simp [intOf]; omega)
      · go_wp2
        go_end0
        exact ⟨rfl, bw _ hB, L, hL, hS.congr fun r hr => by unfold stepV; rw [if_pos (by omega)]⟩
/-- gemv.Mul's closure. -/
theorem mcl_any (v x a V X α Ta : Nat) (w : World) (hv : IsF v V) (hx : IsF x X) (ha : IsF a α) (hca : ∀ i, w.cell? ⟨Ta, i, none⟩ = (#[.float .f64 a] : Array Value)[i]?) :
   Calls Try.prog 147 #[.float .f64 v, .float .f64 x, .pointer (some ⟨Ta, 0, none⟩)] w (fun e w' => ∃ r, e = .returned (.float .f64 r) ∧ IsF r (fmul (fmul α X) V) ∧ ∃ o n, w' = ext w o n) := by
  go_enter Try.func147, Try.ntmps147
  go_wp2_with (first | ((with_reducible refine upon_id ?_); refine upon_fop rfl (by assumption) (by assumption) ?_; intro rr nn hr))
  go_ret
  exact ⟨_, rfl, by assumption, by (show Grew _ _; repeat (first | (with_reducible exact Grew.refl _) | (with_reducible assumption) | (with_reducible exact Grew.same_o) | (with_reducible exact Grew.app_o) | (with_reducible refine Grew.ext ?_ _ _) | (with_reducible refine Grew.alloc ?_ _) | ((with_reducible refine Grew.setCell ?_ ?_ _); rotate_left; (focus (dsimp only; first | omega | (simp only [size_ext, World.size_alloc, Array.size_append]; omega)))) | (with_reducible refine Grew.drewN ?_ _) | (with_reducible refine Grew.drew ?_)))⟩
end Go.Proofs.Ytcmggfpcbijcjaa
end
section
/-
  Contract: gemv.columns, of gemv.Mul's closure.
-/
set_option linter.unusedSimpArgs false
set_option linter.unusedVariables false
open Go Go.RowKit Sedge
namespace Go.Proofs.Ytcmggfpcbijcjaa
/-- A row's number: what it began with, and the products of its first j columns. -/
def mulTo (α : Nat) (M : Nat → Nat → Nat) (X : Nat → Nat) (z r : Nat) : Nat → Nat
  | 0 => z
  | j + 1 => fadd (mulTo α M X z r j) (fmul (fmul α (X j)) (M r j))
/-- A number of a matrix, or of a vector, can be read while y's numbers change. -/
def Reads (w : World) (y : VecM) (g b : Nat) (pl : Nat) (v : Nat) : Prop :=
  ∀ w' L s, But w [g] w' → FW w' g L → VH y L s → ∃ r, w'.cell? ⟨b, pl, none⟩ = some (.float .f64 r) ∧ IsF r v
set_option maxRecDepth 100000 in
set_option maxHeartbeats 4000000 in
theorem columns_any (m : MatM) (x y : VecM) (bm cm bx cx g cg a α Ta : Nat) (s0 : Nat → Nat) (L0 : List Nat) (w : World) (ha : IsF a α) (hca : ∀ i, w.cell? ⟨Ta, i, none⟩ = (#[.float .f64 a] : Array Value)[i]?) (kTa : Ta < w.heap.size) (nTa : Ta ≠ g)
    (hF : FW w g L0) (hV : VH y L0 s0) (hm : m.good = true) (hx : x.right = true) (hy : y.right = true) (hwm : m.wf) (hxn : x.n = m.cols) (hyn : y.n = m.rows) (hy0 : 0 < y.n) (hlm : m.ws.length ≤ 1000000) (hlx : x.ws.length ≤ 1000000) (hly : y.ws.length ≤ 1000000)
    (hcolA : ∀ w' L s, But w [g] w' → FW w' g L → VH y L s → ∀ j : Nat, (j : Int) < m.cols → Calls Try.prog 149 #[.agg #[.slice (some ⟨bm, 0, none⟩) m.ws.length cm, .int .i64 m.off, .int .i64 m.rows, .int .i64 m.cols, .int .i64 m.ld], .int .i64 j] w'
      (fun e w2 => e = .returned (.agg #[.slice (some ⟨bm, 0, none⟩) m.ws.length cm, .int .i64 (m.off + j * m.ld), .int .i64 m.rows, .int .i64 1]) ∧ ∃ o n, w2 = ext w' o n))
    (rdm : ∀ i j : Nat, (i : Int) < m.rows → (j : Int) < m.cols → Reads w y g bm (m.place i j) (m.num i j)) (rdx : ∀ j : Nat, (j : Int) < x.n → Reads w y g bx (x.place j) (x.num j)) (kbm : bm < w.heap.size) (kbx : bx < w.heap.size) :
   Calls Try.prog 146 #[.agg #[.slice (some ⟨bm, 0, none⟩) m.ws.length cm, .int .i64 m.off, .int .i64 m.rows, .int .i64 m.cols, .int .i64 m.ld], .agg #[.slice (some ⟨bx, 0, none⟩) x.ws.length cx, .int .i64 x.off, .int .i64 x.n, .int .i64 x.inc], .agg #[.slice (some ⟨g, 0, none⟩) y.ws.length cg, .int .i64 y.off, .int .i64 y.n, .int .i64 y.inc], .func (.func 147) #[] #[.pointer (some ⟨Ta, 0, none⟩)]] w
     (fun e w' => e = .returned (.tuple #[]) ∧ But w [g] w' ∧ ∃ L, FW w' g L ∧ VH y L (fun r => mulTo α m.num x.num (s0 r) r x.n.toNat)) := by
  have hn := MatM.good_n hm
  have hnx := VecM.right_n hx
  have hny := VecM.right_n hy
  have hltg := hF.lt
  have Hm := hid hm
  have Hx := hid hx
  have Hy := hid hy
  have Hxn := hid hxn
  have Hyn := hid hyn
  have hnlx := VecM.right_nle hx hlx
  have hnly := VecM.right_nle hy hly
  have haty : ∀ i : Nat, (i : Int) < y.n → ∀ w', Calls Try.prog 160 #[.agg #[.slice (some ⟨g, 0, none⟩) y.ws.length cg, .int .i64 y.off, .int .i64 y.n, .int .i64 y.inc], .int .i64 i] w' (fun e w2 => e = .returned (.pointer (some ⟨g, y.place i, none⟩)) ∧ ∃ o n, w2 = ext w' o n) := fun i hi w' => gat_any y g cg i w' hy hi hly
  have hatx : ∀ i : Nat, (i : Int) < x.n → ∀ w', Calls Try.prog 160 #[.agg #[.slice (some ⟨bx, 0, none⟩) x.ws.length cx, .int .i64 x.off, .int .i64 x.n, .int .i64 x.inc], .int .i64 i] w' (fun e w2 => e = .returned (.pointer (some ⟨bx, x.place i, none⟩)) ∧ ∃ o n, w2 = ext w' o n) := fun i hi w' => gat_any x bx cx i w' hx hi hlx
  have hatm : ∀ i j : Nat, (i : Int) < m.rows → (j : Int) < m.cols → ∀ w', Calls Try.prog 160 #[.agg #[.slice (some ⟨bm, 0, none⟩) m.ws.length cm, .int .i64 (m.off + j * m.ld), .int .i64 m.rows, .int .i64 1], .int .i64 i] w' (fun e w2 => e = .returned (.pointer (some ⟨bm, m.place i j, none⟩)) ∧ ∃ o n, w2 = ext w' o n) := fun i j hi hj w' => by
    have hr := colV_right hm hj (by omega)
    have h := gat_any (colV m j) bm cm i w' hr hi hlm
    have e1 : (colV m j).place i = m.place i j := by unfold colV VecM.place MatM.place; simp only [show (0 : Int) < m.rows by omega, if_true]; congr 1; omega
    have e2 : (colV m j).off = m.off + j * m.ld := by unfold colV; simp only [show (0 : Int) < m.rows by omega, if_true]
    rw [e1, e2] at h
    exact h
  clear hm hx hy hwm hxn hyn
  have hmc : ∀ v V x X w', IsF v V → IsF x X → (∀ i, w'.cell? ⟨Ta, i, none⟩ = (#[.float .f64 a] : Array Value)[i]?) → Calls Try.prog 147 #[.float .f64 v, .float .f64 x, .pointer (some ⟨Ta, 0, none⟩)] w' (fun e w2 => ∃ r, e = .returned (.float .f64 r) ∧ IsF r (fmul (fmul α X) V) ∧ ∃ o n, w2 = ext w' o n) := fun v V x X w' h1 h2 h3 => mcl_any v x a V X α Ta w' h1 h2 ha h3
  go_enter Try.func146, Try.ntmps146
  refine seq_stop ?_
  go_wp2
  refine stop_go (fun W hW => ?_)
  have s1 : w.heap.size < W.heap.size := by rw [hW]; simp only [World.size_alloc]; omega
  have b1 : ∀ i, W.cell? ⟨w.heap.size, i, none⟩ = (#[.slice (some ⟨bm, 0, none⟩) m.ws.length cm, .int .i64 m.off, .int .i64 m.rows, .int .i64 m.cols, .int .i64 m.ld] : Array Value)[i]? := by intro i; rw [hW]; go_simp
  have s2 : w.heap.size + 1 < W.heap.size := by rw [hW]; simp only [World.size_alloc]; omega
  have b2 : ∀ i, W.cell? ⟨w.heap.size + 1, i, none⟩ = (#[.slice (some ⟨bx, 0, none⟩) x.ws.length cx, .int .i64 x.off, .int .i64 x.n, .int .i64 x.inc] : Array Value)[i]? := by intro i; rw [hW]; go_simp
  have s3 : w.heap.size + 1 + 1 < W.heap.size := by rw [hW]; simp only [World.size_alloc]; omega
  have b3 : ∀ i, W.cell? ⟨w.heap.size + 1 + 1, i, none⟩ = (#[.slice (some ⟨g, 0, none⟩) y.ws.length cg, .int .i64 y.off, .int .i64 y.n, .int .i64 y.inc] : Array Value)[i]? := by intro i; rw [hW]; go_simp
  have g0 : Grew w W := by rw [hW]; exact (((Grew.refl _).alloc _).alloc _).alloc _
  clear hW
  have zW := g0.below.size
  have bw : ∀ w', But W [g] w' → But w [g] w' := fun w' h => ((But.refl w [g]).grew g0).trans h (fun _ hb => .inl hb)
  have c1 : ∀ w', But W [g] w' → ∀ i, w'.cell? ⟨w.heap.size, i, none⟩ = (#[.slice (some ⟨bm, 0, none⟩) m.ws.length cm, .int .i64 m.off, .int .i64 m.rows, .int .i64 m.cols, .int .i64 m.ld] : Array Value)[i]? := fun w' h i => (h.cell s1 (by simp; omega)).trans (b1 i)
  have c2 : ∀ w', But W [g] w' → ∀ i, w'.cell? ⟨w.heap.size + 1, i, none⟩ = (#[.slice (some ⟨bx, 0, none⟩) x.ws.length cx, .int .i64 x.off, .int .i64 x.n, .int .i64 x.inc] : Array Value)[i]? := fun w' h i => (h.cell s2 (by simp; omega)).trans (b2 i)
  have c3 : ∀ w', But W [g] w' → ∀ i, w'.cell? ⟨w.heap.size + 1 + 1, i, none⟩ = (#[.slice (some ⟨g, 0, none⟩) y.ws.length cg, .int .i64 y.off, .int .i64 y.n, .int .i64 y.inc] : Array Value)[i]? := fun w' h i => (h.cell s3 (by simp; omega)).trans (b3 i)
  have cA : ∀ w', But w [g] w' → ∀ i, w'.cell? ⟨Ta, i, none⟩ = (#[.float .f64 a] : Array Value)[i]? := fun w' h i => (h.cell kTa (by simpa using nTa)).trans (hca i)
  have hFW := hF.grew g0
  clear b1 b2 b3
  have t2 := c2 _ (But.refl W [g])
  go_wp2
  clear t2
  go_loopw [13] (fun c wr => ∃ (j : Nat) (L : List Nat), (j : Int) ≤ x.n ∧ c = .int .i64 j ∧ But W [g] wr ∧ FW wr g L ∧ VH y L (fun r => mulTo α m.num x.num (s0 r) r j)) (fun c _ => (x.n - intOf c).toNat)
  case atStart => exact ⟨0, L0, hnx.1, rfl, But.refl _ _, hFW, hV⟩
  case round =>
    obtain ⟨j, L, hj, rfl, hB, hL, hS⟩ := hrel
    have t1 := c1 _ hB
    have zB := hB.size
    have k1 : w.heap.size < wr.heap.size := by omega
    have t3 := c3 _ hB
    have k3 : w.heap.size + 1 + 1 < wr.heap.size := by omega
    by_cases hlt : (j : Int) < x.n
    · have hlt' := hid hlt
      have hjm : (j : Int) < m.cols := by have := Hxn.out; omega
      have hcj := hcolA wr L _ (bw _ hB) hL hS j hjm
      go_wp2_with (first | (go_at_call 149; ((with_reducible refine (hcj).mono ?_); rintro e w1 ⟨rfl, oc, nc, rfl⟩)))
      refine name_any (fun V hV => ?_)
      have gV : Grew wr V := by rw [← hV]; (show Grew _ _; repeat (first | (with_reducible exact Grew.refl _) | (with_reducible assumption) | (with_reducible exact Grew.same_o) | (with_reducible exact Grew.app_o) | (with_reducible refine Grew.ext ?_ _ _) | (with_reducible refine Grew.alloc ?_ _) | ((with_reducible refine Grew.setCell ?_ ?_ _); rotate_left; (focus (dsimp only; first | omega | (simp only [size_ext, World.size_alloc, Array.size_append]; omega)))) | (with_reducible refine Grew.drewN ?_ _) | (with_reducible refine Grew.drew ?_)))
      have BV : But W [g] V := hB.grew gV
      have cT : ∀ i, V.cell? ⟨wr.heap.size + oc.size, i, none⟩ = (#[.slice (some ⟨bm, 0, none⟩) m.ws.length cm, .int .i64 (m.off + j * m.ld), .int .i64 m.rows, .int .i64 1] : Array Value)[i]? := by subst hV; intro i; go_simp
      have kV : wr.heap.size + oc.size < V.heap.size := by rw [← hV]; simp only [World.size_alloc, size_ext]; omega
      obtain ⟨T, hT⟩ : ∃ T, wr.heap.size + oc.size = T := ⟨_, rfl⟩
      have zT : wr.heap.size ≤ T := by omega
      rw [hT] at cT kV
      simp only [hT]
      have ltg2 := hL.lt
      have cV : ∀ w', But V [g] w' → ∀ i, w'.cell? ⟨T, i, none⟩ = (#[.slice (some ⟨bm, 0, none⟩) m.ws.length cm, .int .i64 (m.off + j * m.ld), .int .i64 m.rows, .int .i64 1] : Array Value)[i]? := fun w' h i => (h.cell kV (by simp; omega)).trans (cT i)
      have bV : ∀ w', But V [g] w' → But W [g] w' := fun w' h => BV.trans h (fun _ hb => .inl hb)
      have hLV : FW V g L := hL.grew gV
      clear hV hT cT t3
      go_loopw [21] (fun c wr => ∃ (i : Nat) (L : List Nat), (i : Int) ≤ y.n ∧ c = .int .i64 i ∧ But V [g] wr ∧ FW wr g L ∧ VH y L (fun r => if r < i then mulTo α m.num x.num (s0 r) r (j + 1) else mulTo α m.num x.num (s0 r) r j)) (fun c _ => (y.n - intOf c).toNat)
      case atStart => exact ⟨0, L, hny.1, rfl, But.refl _ _, hLV, hS.congr fun r _ => by simp⟩
      case round =>
        obtain ⟨i, L2, hi, rfl, hB2, hL2, hS2⟩ := hrel
        by_cases hli : (i : Int) < y.n
        · have hli' := hid hli
          have him : (i : Int) < m.rows := by have := Hyn.out; omega
          have tT := cV _ hB2
          have t2 := c2 _ (bV _ hB2)
          have t3 := c3 _ (bV _ hB2)
          have zB2 := hB2.size
          have zBV := BV.size
          have x1 : T < wr.heap.size := by omega
          have x2 : w.heap.size + 1 < wr.heap.size := by omega
          have x3 : w.heap.size + 1 + 1 < wr.heap.size := by omega
          have hgi := hS2.get i hli
          obtain ⟨r0, hr0, hf0⟩ := hL2.get (i := y.place i) (by rw [hS2.len]; exact VecM.place_lt Hy.out hli)
          rw [hgi, if_neg (by omega)] at hf0
          obtain ⟨rm, hrm, hfm⟩ := rdm i j him hjm wr L2 _ (bw _ (bV _ hB2)) hL2 hS2
          obtain ⟨rx, hrx, hfx⟩ := rdx j hlt'.out wr L2 _ (bw _ (bV _ hB2)) hL2 hS2
          have gl := hL2.lt
          have kbm2 : bm < wr.heap.size := by omega
          have kbx2 : bx < wr.heap.size := by omega
          have kTa2 : Ta < wr.heap.size := by omega
          have fz : ∀ i, wr.frozen? ⟨g, i, none⟩ = false := hL2.notFrozen
          have hca2 : ∀ w', Grew wr w' → ∀ i, w'.cell? ⟨Ta, i, none⟩ = (#[.float .f64 a] : Array Value)[i]? := fun w' hg => cA _ (bw _ (bV _ (hB2.grew hg)))
          have hay := haty i hli
          have hax := hatx j hlt'.out
          have ham := hatm i j him hjm
          go_wp2
          refine wp_region_R (Grew wr) [19] [(0,0), (3,1), (3,5), (0,6), (3,7), (0,11), (3,12), (1,2), (3,3), (0,4), (1,8), (3,9), (0,10), (1,13), (3,14), (0,15), (1,16), (1,17), (3,18), (2,19)] (by kernel_rfl) (by kernel_rfl) (fun _ _ _ _ h _ => h) (by first | exact ⟨_, _, ext_drew⟩ | exact ⟨_, _, drew_ext0⟩ | (show Grew _ _; repeat (first | (with_reducible exact Grew.refl _) | (with_reducible assumption) | (with_reducible exact Grew.same_o) | (with_reducible exact Grew.app_o) | (with_reducible refine Grew.ext ?_ _ _) | (with_reducible refine Grew.alloc ?_ _) | ((with_reducible refine Grew.setCell ?_ ?_ _); rotate_left; (focus (dsimp only; first | omega | (simp only [size_ext, World.size_alloc, Array.size_append]; omega)))) | (with_reducible refine Grew.drewN ?_ _) | (with_reducible refine Grew.drew ?_)))) ?_
          go_wp2_with (first | ((with_reducible refine wpR_id ?_); first | (refine wpR_take (v := ?_) rfl rfl ?_ ?_; rotate_left; (focus (rintro w' ⟨o', n', rfl⟩; go_simp; try with_reducible rfl)); simp only [Act.put, List.setIfInBounds_toArray, List.set_cons_zero, List.set_cons_succ]) | (refine wpR_pure (v := ?_) rfl rfl ?_ ?_; rotate_left; (focus (intro w'; go_simp; try with_reducible rfl)); simp only [Act.put, List.setIfInBounds_toArray, List.set_cons_zero, List.set_cons_succ]) | (refine wpR_takeG (v := ?_) rfl rfl rfl rfl rfl ?_ ?_; rotate_left; (focus (rintro w' ⟨o', n', rfl⟩; go_simp; try with_reducible rfl)); simp only [Act.put, List.setIfInBounds_toArray, List.set_cons_zero, List.set_cons_succ]) | (refine wpR_skip rfl rfl rfl rfl rfl rfl ?_; simp only [Act.put, List.setIfInBounds_toArray, List.set_cons_zero, List.set_cons_succ]) | (refine wpR_skipU rfl rfl rfl rfl rfl ?_; simp only [Act.put, List.setIfInBounds_toArray, List.set_cons_zero, List.set_cons_succ]) | (refine wpR_do rfl rfl (fun K hK => ?_)) | (refine wpR_doG rfl rfl rfl rfl rfl (fun K hK => ?_)) | (refine wpR_last rfl rfl (fun K hK => ?_)) | (refine wpR_nil ?_)) | ((with_reducible refine wpR_go ?_ ?_); (focus exact ⟨_, _, rfl⟩)) | ((with_reducible refine upon_id ?_); refine upon_fop rfl (by assumption) (by assumption) ?_; intro rr nn hr) | (go_at_call 160; ((with_reducible refine (hay _).mono ?_); rintro e w1 ⟨rfl, o1, n1, rfl⟩)) | (go_at_call 160; ((with_reducible refine (ham _).mono ?_); rintro e w1 ⟨rfl, o2, n2, rfl⟩)) | (go_at_call 160; ((with_reducible refine (hax _).mono ?_); rintro e w1 ⟨rfl, o3, n3, rfl⟩)) | (go_at_call 147; ((with_reducible refine (hmc rm _ rx _ _ hfm hfx (hca2 _ (by (show Grew _ _; repeat (first | (with_reducible exact Grew.refl _) | (with_reducible assumption) | (with_reducible exact Grew.same_o) | (with_reducible exact Grew.app_o) | (with_reducible refine Grew.ext ?_ _ _) | (with_reducible refine Grew.alloc ?_ _) | ((with_reducible refine Grew.setCell ?_ ?_ _); rotate_left; (focus (dsimp only; first | omega | (simp only [size_ext, World.size_alloc, Array.size_append]; omega)))) | (with_reducible refine Grew.drewN ?_ _) | (with_reducible refine Grew.drew ?_)))))).mono ?_); rintro e w1 ⟨rc, rfl, hrc, o4, n4, rfl⟩)))
          go_roundw
          case rel =>
            refine ⟨i + 1, _, by have := hli'.out; omega, by go_num, (hB2.setc hL2 (by simp)).grew ⟨_, _, rfl⟩, (hL2.setc (k := y.place i) hr).ext _ _, (hS2.set Hy.out hli'.out).congr fun r hr => ?_⟩
            by_cases e : r = i
            · subst e; simp [mulTo]; rfl
            · rw [if_neg e]
              by_cases h2 : r < i
              · rw [if_pos h2, if_pos (by omega)]
              · rw [if_neg h2, if_neg (by omega)]
          case measure => (have := hli'.out; simp [intOf]; omega)
        · go_wp2
          go_roundw
          case rel => exact ⟨j + 1, L2, by have := hlt'.out; omega, by go_num, bV _ hB2, hL2, hS2.congr fun r hr => by rw [if_pos (by omega)]⟩
          case measure => (have := hlt'.out; simp [intOf]; omega)
    · have e : j = x.n.toNat := by omega
      go_wp2
      go_end0
      exact ⟨rfl, bw _ hB, L, hL, hS.congr fun r hr => by rw [e]⟩
end Go.Proofs.Ytcmggfpcbijcjaa
end
