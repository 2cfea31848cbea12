/-
  Contracts: gemv.check and gemv.Mul, where all is well.
-/
import Derived.Test.YtcmggfpcbijcjaaGemv2
set_option linter.unusedSimpArgs false
set_option linter.unusedVariables false
open Go Go.RowKit Sedge
namespace Go.Proofs.Ytcmggfpcbijcjaa
/-- What is asked of a product: all is well. -/
structure MulOk (m : MatM) (x y : VecM) (bm cm bx cx g cg : Nat) (rows cols : Int) (w : World) : Prop where
  M : FS w (.slice (some ⟨bm, 0, none⟩) m.ws.length cm) m.ws
  X : FS w (.slice (some ⟨bx, 0, none⟩) x.ws.length cx) x.ws
  Y : FS w (.slice (some ⟨g, 0, none⟩) y.ws.length cg) y.ws
  pM : Plain w bm
  pX : Plain w bx
  pY : Plain w g
  good : m.good = true
  rx : x.right = true
  ry : y.right = true
  xn : x.n = cols
  yn : y.n = rows
  m1 : meetM (rowM y) m (decide (g = bm)) = false
  m2 : meetM (rowM y) (rowM x) (decide (g = bx)) = false
  wm : m.wf
  wx : x.wf
  wy : y.wf
  lm : m.ws.length ≤ 1000000
  lx : x.ws.length ≤ 1000000
  ly : y.ws.length ≤ 1000000
set_option maxRecDepth 100000 in
set_option maxHeartbeats 2000000 in
/-- gemv.check, where all is well. -/
theorem vcheck_ok (m : MatM) (x y : VecM) (bm cm bx cx g cg : Nat) (rows cols : Int) (w : World) (H : MulOk m x y bm cm bx cx g cg rows cols w) :
   Calls Try.prog 144 #[.agg #[(.slice (some ⟨bm, 0, none⟩) m.ws.length cm), .int .i64 m.off, .int .i64 m.rows, .int .i64 m.cols, .int .i64 m.ld], .int .i64 rows, .int .i64 cols, .agg #[(.slice (some ⟨bx, 0, none⟩) x.ws.length cx), .int .i64 x.off, .int .i64 x.n, .int .i64 x.inc], .agg #[(.slice (some ⟨g, 0, none⟩) y.ws.length cg), .int .i64 y.off, .int .i64 y.n, .int .i64 y.inc]] w (fun e w' => e = .returned (.int .i64 0) ∧ ∃ o n, w' = ext w o n) := by
  have cG : ∀ w', FS w' (.slice (some ⟨bm, 0, none⟩) m.ws.length cm) m.ws → Calls Try.prog 130 #[.agg #[(.slice (some ⟨bm, 0, none⟩) m.ws.length cm), .int .i64 m.off, .int .i64 m.rows, .int .i64 m.cols, .int .i64 m.ld]] w' (fun e w2 => e = .returned (.bool true) ∧ ∃ o n, w2 = ext w' o n) := fun w' h => by
    have := good_any m _ w' h H.wm; rw [H.good] at this; exact this
  have cX : ∀ w', FS w' (.slice (some ⟨bx, 0, none⟩) x.ws.length cx) x.ws → Calls Try.prog 135 #[.agg #[(.slice (some ⟨bx, 0, none⟩) x.ws.length cx), .int .i64 x.off, .int .i64 x.n, .int .i64 x.inc]] w' (fun e w2 => e = .returned (.bool true) ∧ ∃ o n, w2 = ext w' o n) := fun w' h => by
    have := right_any x _ w' h H.wx; rw [H.rx] at this; exact this
  have cY : ∀ w', FS w' (.slice (some ⟨g, 0, none⟩) y.ws.length cg) y.ws → Calls Try.prog 135 #[.agg #[(.slice (some ⟨g, 0, none⟩) y.ws.length cg), .int .i64 y.off, .int .i64 y.n, .int .i64 y.inc]] w' (fun e w2 => e = .returned (.bool true) ∧ ∃ o n, w2 = ext w' o n) := fun w' h => by
    have := right_any y _ w' h H.wy; rw [H.ry] at this; exact this
  have cM1 : ∀ w', FS w' (.slice (some ⟨g, 0, none⟩) y.ws.length cg) y.ws → FS w' (.slice (some ⟨bm, 0, none⟩) m.ws.length cm) m.ws → Plain w' g → Plain w' bm → Calls Try.prog 136 #[.agg #[(.slice (some ⟨g, 0, none⟩) y.ws.length cg), .int .i64 y.off, .int .i64 1, .int .i64 y.n, .int .i64 y.inc], .agg #[(.slice (some ⟨bm, 0, none⟩) m.ws.length cm), .int .i64 m.off, .int .i64 m.rows, .int .i64 m.cols, .int .i64 m.ld]] w' (fun e w2 => e = .returned (.bool false) ∧ ∃ o n, w2 = ext w' o n) := fun w' h1 h2 p1 p2 => by
    have := meetM_any (rowM y) m g bm cg cm w' h1 h2 p1 p2 (rowM_wf H.wy) H.wm H.ly H.lm
    rw [H.m1] at this; exact this
  have cM2 : ∀ w', FS w' (.slice (some ⟨g, 0, none⟩) y.ws.length cg) y.ws → FS w' (.slice (some ⟨bx, 0, none⟩) x.ws.length cx) x.ws → Plain w' g → Plain w' bx → Calls Try.prog 136 #[.agg #[(.slice (some ⟨g, 0, none⟩) y.ws.length cg), .int .i64 y.off, .int .i64 1, .int .i64 y.n, .int .i64 y.inc], .agg #[(.slice (some ⟨bx, 0, none⟩) x.ws.length cx), .int .i64 x.off, .int .i64 1, .int .i64 x.n, .int .i64 x.inc]] w' (fun e w2 => e = .returned (.bool false) ∧ ∃ o n, w2 = ext w' o n) := fun w' h1 h2 p1 p2 => by
    have := meetM_any (rowM y) (rowM x) g bx cg cx w' h1 h2 p1 p2 (rowM_wf H.wy) (rowM_wf H.wx) H.ly H.lx
    rw [H.m2] at this; exact this
  have hM := H.M
  have hX := H.X
  have hY := H.Y
  have pM := H.pM
  have pX := H.pX
  have pY := H.pY
  have d1 : (x.n != cols) = false := by simpa using H.xn
  have d2 : (y.n != rows) = false := by simpa using H.yn
  clear H
  go_enter Try.func144, Try.ntmps144
  refine seq_stop ?_
  go_wp2
  refine stop_go (fun W hW => ?_)
  have s1 : w.heap.size < W.heap.size := by rw [hW]; simp only [World.size_alloc]; omega
  have b1 : ∀ i, W.cell? ⟨w.heap.size, i, none⟩ = (#[(.slice (some ⟨bm, 0, none⟩) m.ws.length cm), .int .i64 m.off, .int .i64 m.rows, .int .i64 m.cols, .int .i64 m.ld] : Array Value)[i]? := by intro i; rw [hW]; go_simp
  have s2 : w.heap.size + 1 < W.heap.size := by rw [hW]; simp only [World.size_alloc]; omega
  have b2 : ∀ i, W.cell? ⟨w.heap.size + 1, i, none⟩ = (#[(.slice (some ⟨bx, 0, none⟩) x.ws.length cx), .int .i64 x.off, .int .i64 x.n, .int .i64 x.inc] : Array Value)[i]? := by intro i; rw [hW]; go_simp
  have s3 : w.heap.size + 1 + 1 < W.heap.size := by rw [hW]; simp only [World.size_alloc]; omega
  have b3 : ∀ i, W.cell? ⟨w.heap.size + 1 + 1, i, none⟩ = (#[(.slice (some ⟨g, 0, none⟩) y.ws.length cg), .int .i64 y.off, .int .i64 y.n, .int .i64 y.inc] : Array Value)[i]? := by intro i; rw [hW]; go_simp
  have g0 : Grew w W := by rw [hW]; exact (((Grew.refl _).alloc _).alloc _).alloc _
  clear hW
  have hMW := hM.grew g0
  have hXW := hX.grew g0
  have hYW := hY.grew g0
  go_wp2_with (first | (go_at_call 130; ((with_reducible refine (cG _ ?_).mono ?_); (focus (first | (with_reducible assumption) | (with_reducible refine FS.ext ?_ _ _; with_reducible assumption) | (with_reducible refine IS.ext ?_ _ _; with_reducible assumption) | (refine hDu _ ?_; with_reducible assumption) | (refine hOu _ ?_; with_reducible assumption) | (refine hDa _ ?_; with_reducible assumption) | (refine hDb _ ?_; with_reducible assumption) | (refine hDc _ ?_; with_reducible assumption) | (refine hDd _ ?_; with_reducible assumption) | (refine FW.fs ?_ (by omega) _; with_reducible assumption) | (refine WS.fs ?_; with_reducible assumption) | (refine FW.fs ?_ (by omega) _; assumption) | omega | assumption)); rintro e w1 ⟨rfl, oa, na, rfl⟩)) | (go_at_call 135; ((with_reducible refine (cX _ ?_).mono ?_); (focus (first | (with_reducible assumption) | (with_reducible refine FS.ext ?_ _ _; with_reducible assumption) | (with_reducible refine IS.ext ?_ _ _; with_reducible assumption) | (refine hDu _ ?_; with_reducible assumption) | (refine hOu _ ?_; with_reducible assumption) | (refine hDa _ ?_; with_reducible assumption) | (refine hDb _ ?_; with_reducible assumption) | (refine hDc _ ?_; with_reducible assumption) | (refine hDd _ ?_; with_reducible assumption) | (refine FW.fs ?_ (by omega) _; with_reducible assumption) | (refine WS.fs ?_; with_reducible assumption) | (refine FW.fs ?_ (by omega) _; assumption) | omega | assumption)); rintro e w1 ⟨rfl, ob, nb, rfl⟩)) | (go_at_call 135; ((with_reducible refine (cY _ ?_).mono ?_); (focus (first | (with_reducible assumption) | (with_reducible refine FS.ext ?_ _ _; with_reducible assumption) | (with_reducible refine IS.ext ?_ _ _; with_reducible assumption) | (refine hDu _ ?_; with_reducible assumption) | (refine hOu _ ?_; with_reducible assumption) | (refine hDa _ ?_; with_reducible assumption) | (refine hDb _ ?_; with_reducible assumption) | (refine hDc _ ?_; with_reducible assumption) | (refine hDd _ ?_; with_reducible assumption) | (refine FW.fs ?_ (by omega) _; with_reducible assumption) | (refine WS.fs ?_; with_reducible assumption) | (refine FW.fs ?_ (by omega) _; assumption) | omega | assumption)); rintro e w1 ⟨rfl, oc, nc, rfl⟩)))
  refine wp_region_R (Grew W) [] [(0,0), (0,2), (1,1), (1,3), (0,4), (0,5), (0,7), (1,6), (1,8), (1,9), (0,10), (0,11)] (by kernel_rfl) (by kernel_rfl) (fun _ _ _ _ h _ => h) (by first | exact ⟨_, _, ext_drew⟩ | exact ⟨_, _, drew_ext0⟩) ?_
  go_wp2_with (first | ((with_reducible refine wpR_id ?_); first | (refine wpR_take (v := ?_) rfl rfl ?_ ?_; rotate_left; (focus (rintro w' ⟨o', n', rfl⟩; go_simp; try with_reducible rfl)); simp only [Act.put, List.setIfInBounds_toArray, List.set_cons_zero, List.set_cons_succ]) | (refine wpR_pure (v := ?_) rfl rfl ?_ ?_; rotate_left; (focus (intro w'; go_simp; try with_reducible rfl)); simp only [Act.put, List.setIfInBounds_toArray, List.set_cons_zero, List.set_cons_succ]) | (refine wpR_takeG (v := ?_) rfl rfl rfl rfl rfl ?_ ?_; rotate_left; (focus (rintro w' ⟨o', n', rfl⟩; go_simp; try with_reducible rfl)); simp only [Act.put, List.setIfInBounds_toArray, List.set_cons_zero, List.set_cons_succ]) | (refine wpR_skip rfl rfl rfl rfl rfl rfl ?_; simp only [Act.put, List.setIfInBounds_toArray, List.set_cons_zero, List.set_cons_succ]) | (refine wpR_skipU rfl rfl rfl rfl rfl ?_; simp only [Act.put, List.setIfInBounds_toArray, List.set_cons_zero, List.set_cons_succ]) | (refine wpR_do rfl rfl (fun K hK => ?_)) | (refine wpR_doG rfl rfl rfl rfl rfl (fun K hK => ?_)) | (refine wpR_last rfl rfl (fun K hK => ?_)) | (refine wpR_nil ?_)) | ((with_reducible refine wpR_go ?_ ?_); (focus exact ⟨_, _, rfl⟩)) | ((with_reducible refine upon_id ?_); refine upon_fop rfl (by assumption) (by assumption) ?_; intro rr nn hr) | (go_at_call 196; ((with_reducible refine (vrow_any y _ _ _ _).mono ?_); rintro e w1 ⟨rfl, od, nd, rfl⟩)) | (go_at_call 196; ((with_reducible refine (vrow_any x _ _ _ _).mono ?_); rintro e w1 ⟨rfl, od, nd, rfl⟩)) | (go_at_call 136; ((with_reducible refine (cM1 _ ?_ ?_ (pY.grew (by (show Grew _ _; repeat (first | (with_reducible exact Grew.refl _) | (with_reducible assumption) | (with_reducible refine Grew.ext ?_ _ _) | (with_reducible refine Grew.alloc ?_ _) | ((with_reducible refine Grew.setCell ?_ ?_ _); rotate_left; (focus (dsimp only; first | omega | (simp only [size_ext, World.size_alloc, Array.size_append]; omega)))) | (with_reducible refine Grew.drewN ?_ _) | (with_reducible refine Grew.drew ?_))))) (pM.grew (by (show Grew _ _; repeat (first | (with_reducible exact Grew.refl _) | (with_reducible assumption) | (with_reducible refine Grew.ext ?_ _ _) | (with_reducible refine Grew.alloc ?_ _) | ((with_reducible refine Grew.setCell ?_ ?_ _); rotate_left; (focus (dsimp only; first | omega | (simp only [size_ext, World.size_alloc, Array.size_append]; omega)))) | (with_reducible refine Grew.drewN ?_ _) | (with_reducible refine Grew.drew ?_)))))).mono ?_); (focus (first | (with_reducible assumption) | (with_reducible refine FS.ext ?_ _ _; with_reducible assumption) | (with_reducible refine IS.ext ?_ _ _; with_reducible assumption) | (refine hDu _ ?_; with_reducible assumption) | (refine hOu _ ?_; with_reducible assumption) | (refine hDa _ ?_; with_reducible assumption) | (refine hDb _ ?_; with_reducible assumption) | (refine hDc _ ?_; with_reducible assumption) | (refine hDd _ ?_; with_reducible assumption) | (refine FW.fs ?_ (by omega) _; with_reducible assumption) | (refine WS.fs ?_; with_reducible assumption) | (refine FW.fs ?_ (by omega) _; assumption) | omega | assumption)); (focus (first | (with_reducible assumption) | (with_reducible refine FS.ext ?_ _ _; with_reducible assumption) | (with_reducible refine IS.ext ?_ _ _; with_reducible assumption) | (refine hDu _ ?_; with_reducible assumption) | (refine hOu _ ?_; with_reducible assumption) | (refine hDa _ ?_; with_reducible assumption) | (refine hDb _ ?_; with_reducible assumption) | (refine hDc _ ?_; with_reducible assumption) | (refine hDd _ ?_; with_reducible assumption) | (refine FW.fs ?_ (by omega) _; with_reducible assumption) | (refine WS.fs ?_; with_reducible assumption) | (refine FW.fs ?_ (by omega) _; assumption) | omega | assumption)); rintro e w1 ⟨rfl, oe, ne, rfl⟩)) | (go_at_call 136; ((with_reducible refine (cM2 _ ?_ ?_ (pY.grew (by (show Grew _ _; repeat (first | (with_reducible exact Grew.refl _) | (with_reducible assumption) | (with_reducible refine Grew.ext ?_ _ _) | (with_reducible refine Grew.alloc ?_ _) | ((with_reducible refine Grew.setCell ?_ ?_ _); rotate_left; (focus (dsimp only; first | omega | (simp only [size_ext, World.size_alloc, Array.size_append]; omega)))) | (with_reducible refine Grew.drewN ?_ _) | (with_reducible refine Grew.drew ?_))))) (pX.grew (by (show Grew _ _; repeat (first | (with_reducible exact Grew.refl _) | (with_reducible assumption) | (with_reducible refine Grew.ext ?_ _ _) | (with_reducible refine Grew.alloc ?_ _) | ((with_reducible refine Grew.setCell ?_ ?_ _); rotate_left; (focus (dsimp only; first | omega | (simp only [size_ext, World.size_alloc, Array.size_append]; omega)))) | (with_reducible refine Grew.drewN ?_ _) | (with_reducible refine Grew.drew ?_)))))).mono ?_); (focus (first | (with_reducible assumption) | (with_reducible refine FS.ext ?_ _ _; with_reducible assumption) | (with_reducible refine IS.ext ?_ _ _; with_reducible assumption) | (refine hDu _ ?_; with_reducible assumption) | (refine hOu _ ?_; with_reducible assumption) | (refine hDa _ ?_; with_reducible assumption) | (refine hDb _ ?_; with_reducible assumption) | (refine hDc _ ?_; with_reducible assumption) | (refine hDd _ ?_; with_reducible assumption) | (refine FW.fs ?_ (by omega) _; with_reducible assumption) | (refine WS.fs ?_; with_reducible assumption) | (refine FW.fs ?_ (by omega) _; assumption) | omega | assumption)); (focus (first | (with_reducible assumption) | (with_reducible refine FS.ext ?_ _ _; with_reducible assumption) | (with_reducible refine IS.ext ?_ _ _; with_reducible assumption) | (refine hDu _ ?_; with_reducible assumption) | (refine hOu _ ?_; with_reducible assumption) | (refine hDa _ ?_; with_reducible assumption) | (refine hDb _ ?_; with_reducible assumption) | (refine hDc _ ?_; with_reducible assumption) | (refine hDd _ ?_; with_reducible assumption) | (refine FW.fs ?_ (by omega) _; with_reducible assumption) | (refine WS.fs ?_; with_reducible assumption) | (refine FW.fs ?_ (by omega) _; assumption) | omega | assumption)); rintro e w1 ⟨rfl, of, nf, rfl⟩)))
  go_ret
  exact ⟨rfl, by (show Grew _ _; repeat (first | (with_reducible exact Grew.refl _) | (with_reducible assumption) | (with_reducible refine Grew.ext ?_ _ _) | (with_reducible refine Grew.alloc ?_ _) | ((with_reducible refine Grew.setCell ?_ ?_ _); rotate_left; (focus (dsimp only; first | omega | (simp only [size_ext, World.size_alloc, Array.size_append]; omega)))) | (with_reducible refine Grew.drewN ?_ _) | (with_reducible refine Grew.drew ?_)))⟩
set_option maxRecDepth 100000 in
set_option maxHeartbeats 2000000 in
/-- gemv.Mul, where all is well. -/
theorem mul_ok (a α b β : Nat) (m : MatM) (x y : VecM) (bm cm bx cx g cg : Nat) (w : World) (ha : IsF a α) (hb : IsF b β) (H : MulOk m x y bm cm bx cx g cg m.rows m.cols w) (hF : FW w g y.ws) (hy0 : 0 < y.n) (hmg : bm = g → m.ws = y.ws) (hxg : bx = g → x.ws = y.ws) (kbm : bm < w.heap.size) (kbx : bx < w.heap.size) :
   Calls Try.prog 71 #[.float .f64 a, .agg #[(.slice (some ⟨bm, 0, none⟩) m.ws.length cm), .int .i64 m.off, .int .i64 m.rows, .int .i64 m.cols, .int .i64 m.ld], .agg #[(.slice (some ⟨bx, 0, none⟩) x.ws.length cx), .int .i64 x.off, .int .i64 x.n, .int .i64 x.inc], .float .f64 b, .agg #[(.slice (some ⟨g, 0, none⟩) y.ws.length cg), .int .i64 y.off, .int .i64 y.n, .int .i64 y.inc]] w
     (fun e w' => e = .returned (.int .i64 0) ∧ But w [g] w' ∧ ∃ L, FW w' g L ∧ VH y L (fun r => mulTo α m.num x.num (beginF β (y.num r)) r x.n.toNat)) := by
  have hck : ∀ w', Grew w w' → Calls Try.prog 144 #[.agg #[(.slice (some ⟨bm, 0, none⟩) m.ws.length cm), .int .i64 m.off, .int .i64 m.rows, .int .i64 m.cols, .int .i64 m.ld], .int .i64 m.rows, .int .i64 m.cols, .agg #[(.slice (some ⟨bx, 0, none⟩) x.ws.length cx), .int .i64 x.off, .int .i64 x.n, .int .i64 x.inc], .agg #[(.slice (some ⟨g, 0, none⟩) y.ws.length cg), .int .i64 y.off, .int .i64 y.n, .int .i64 y.inc]] w' (fun e w2 => e = .returned (.int .i64 0) ∧ ∃ o n, w2 = ext w' o n) := fun w' hg =>
    vcheck_ok m x y bm cm bx cx g cg m.rows m.cols w' ⟨H.M.grew hg, H.X.grew hg, H.Y.grew hg, H.pM.grew hg, H.pX.grew hg, H.pY.grew hg, H.good, H.rx, H.ry, H.xn, H.yn, H.m1, H.m2, H.wm, H.wx, H.wy, H.lm, H.lx, H.ly⟩
  have hltg := hF.lt
  have H' := hid H
  have hny := VecM.right_n H.ry
  have Hmg := hid hmg
  have Hxg := hid hxg
  have d0 : decide (0 < y.n) = true := by simpa using hy0
  clear H hmg hxg
  go_enter Try.func71, Try.ntmps71
  refine seq_stop ?_
  go_wp2
  refine stop_go (fun W hW => ?_)
  have s1 : w.heap.size < W.heap.size := by rw [hW]; simp only [World.size_alloc]; omega
  have b1 : ∀ i, W.cell? ⟨w.heap.size, i, none⟩ = (#[.float .f64 a] : Array Value)[i]? := by intro i; rw [hW]; go_simp
  have s2 : w.heap.size + 1 < W.heap.size := by rw [hW]; simp only [World.size_alloc]; omega
  have b2 : ∀ i, W.cell? ⟨w.heap.size + 1, i, none⟩ = (#[(.slice (some ⟨bm, 0, none⟩) m.ws.length cm), .int .i64 m.off, .int .i64 m.rows, .int .i64 m.cols, .int .i64 m.ld] : Array Value)[i]? := by intro i; rw [hW]; go_simp
  have s3 : w.heap.size + 1 + 1 < W.heap.size := by rw [hW]; simp only [World.size_alloc]; omega
  have b3 : ∀ i, W.cell? ⟨w.heap.size + 1 + 1, i, none⟩ = (#[(.slice (some ⟨bx, 0, none⟩) x.ws.length cx), .int .i64 x.off, .int .i64 x.n, .int .i64 x.inc] : Array Value)[i]? := by intro i; rw [hW]; go_simp
  have s4 : w.heap.size + 1 + 1 + 1 < W.heap.size := by rw [hW]; simp only [World.size_alloc]; omega
  have b4 : ∀ i, W.cell? ⟨w.heap.size + 1 + 1 + 1, i, none⟩ = (#[(.slice (some ⟨g, 0, none⟩) y.ws.length cg), .int .i64 y.off, .int .i64 y.n, .int .i64 y.inc] : Array Value)[i]? := by intro i; rw [hW]; go_simp
  have g0 : Grew w W := by rw [hW]; exact ((((Grew.refl _).alloc _).alloc _).alloc _).alloc _
  clear hW
  have hFW := hF.grew g0
  have zW := g0.below.size
  have hmf := hmf
  go_wp2_with (first | (go_at_call 144; ((with_reducible refine (hck _ (g0.trans (by (show Grew _ _; repeat (first | (with_reducible exact Grew.refl _) | (with_reducible assumption) | (with_reducible refine Grew.ext ?_ _ _) | (with_reducible refine Grew.alloc ?_ _) | ((with_reducible refine Grew.setCell ?_ ?_ _); rotate_left; (focus (dsimp only; first | omega | (simp only [size_ext, World.size_alloc, Array.size_append]; omega)))) | (with_reducible refine Grew.drewN ?_ _) | (with_reducible refine Grew.drew ?_)))))).mono ?_); rintro e w1 ⟨rfl, oa, na, rfl⟩)))
  refine name_call (fun V hV => ?_)
  have gV : Grew W V := by rw [← hV]; (show Grew _ _; repeat (first | (with_reducible exact Grew.refl _) | (with_reducible assumption) | (with_reducible refine Grew.ext ?_ _ _) | (with_reducible refine Grew.alloc ?_ _) | ((with_reducible refine Grew.setCell ?_ ?_ _); rotate_left; (focus (dsimp only; first | omega | (simp only [size_ext, World.size_alloc, Array.size_append]; omega)))) | (with_reducible refine Grew.drewN ?_ _) | (with_reducible refine Grew.drew ?_)))
  have gw : Grew w V := g0.trans gV
  have zV := gV.below.size
  have hFV := hF.grew gw
  have c1 : ∀ w', But V [g] w' → ∀ i, w'.cell? ⟨w.heap.size, i, none⟩ = (#[.float .f64 a] : Array Value)[i]? := fun w' h i => (h.cell (by omega) (by simp; omega)).trans ((gV.cell s1).trans (b1 i))
  have c2 : ∀ w', But V [g] w' → ∀ i, w'.cell? ⟨w.heap.size + 1, i, none⟩ = (#[(.slice (some ⟨bm, 0, none⟩) m.ws.length cm), .int .i64 m.off, .int .i64 m.rows, .int .i64 m.cols, .int .i64 m.ld] : Array Value)[i]? := fun w' h i => (h.cell (by omega) (by simp; omega)).trans ((gV.cell s2).trans (b2 i))
  have c3 : ∀ w', But V [g] w' → ∀ i, w'.cell? ⟨w.heap.size + 1 + 1, i, none⟩ = (#[(.slice (some ⟨bx, 0, none⟩) x.ws.length cx), .int .i64 x.off, .int .i64 x.n, .int .i64 x.inc] : Array Value)[i]? := fun w' h i => (h.cell (by omega) (by simp; omega)).trans ((gV.cell s3).trans (b3 i))
  have c4 : ∀ w', But V [g] w' → ∀ i, w'.cell? ⟨w.heap.size + 1 + 1 + 1, i, none⟩ = (#[(.slice (some ⟨g, 0, none⟩) y.ws.length cg), .int .i64 y.off, .int .i64 y.n, .int .i64 y.inc] : Array Value)[i]? := fun w' h i => (h.cell (by omega) (by simp; omega)).trans ((gV.cell s4).trans (b4 i))
  clear hV b1 b2 b3 b4 hck
  refine (begin_any b β y g cg y.num y.ws V hb hFV (VH.start y) H'.out.ry H'.out.ly).mono ?_
  rintro e w1 ⟨rfl, hB1, L1, hL1, hS1⟩
  have t1 := c2 _ hB1
  have t2 := c3 _ hB1
  have t3 := c4 _ hB1
  have z1 := hB1.size
  have k1 : w.heap.size + 1 < w1.heap.size := by omega
  have k2 : w.heap.size + 1 + 1 < w1.heap.size := by omega
  have k3 : w.heap.size + 1 + 1 + 1 < w1.heap.size := by omega
  have bw : ∀ w', But w1 [g] w' → But w [g] w' := fun w' h => (((But.refl w [g]).grew gw).trans hB1 (fun _ hb => .inl hb)).trans h (fun _ hb => .inl hb)
  have bV : ∀ w', But w1 [g] w' → But V [g] w' := fun w' h => hB1.trans h (fun _ hb => .inl hb)
  have hcol : Calls Try.prog 146 #[.agg #[(.slice (some ⟨bm, 0, none⟩) m.ws.length cm), .int .i64 m.off, .int .i64 m.rows, .int .i64 m.cols, .int .i64 m.ld], .agg #[(.slice (some ⟨bx, 0, none⟩) x.ws.length cx), .int .i64 x.off, .int .i64 x.n, .int .i64 x.inc], .agg #[(.slice (some ⟨g, 0, none⟩) y.ws.length cg), .int .i64 y.off, .int .i64 y.n, .int .i64 y.inc], .func (.func 147) #[] #[.pointer (some ⟨w.heap.size, 0, none⟩)]] w1
     (fun e w' => e = .returned (.tuple #[]) ∧ But w1 [g] w' ∧ ∃ L, FW w' g L ∧ VH y L (fun r => mulTo α m.num x.num (beginF β (y.num r)) r x.n.toNat)) := by
    have H := H'.out
    refine columns_any m x y bm cm bx cx g cg a α w.heap.size (fun r => beginF β (y.num r)) L1 w1 ha (fun i => c1 _ hB1 i) (by omega) (by omega) hL1 hS1 H.good H.rx H.ry H.wm H.xn H.yn hy0 H.lm H.lx H.ly ?_ ?_ ?_ (by have := gw.below.size; omega) (by have := gw.below.size; omega)
    · intro w' L s hB hL hS j hj
      have hr0 : 0 < m.rows := by have := H.yn; omega
      by_cases hbg : bm = g
      · have hl : L.length = m.ws.length := by rw [hS.len, Hmg.out hbg]
        have h1 := hL.fs (by rw [hl]; have := H.lm; omega) cm
        rw [hl, ← hbg] at h1
        have := col_any (withL m L) (.slice (some ⟨bm, 0, none⟩) m.ws.length cm) j w' h1 (by rw [withL_good hl]; exact H.good) H.wm hj
        have e : (colV (withL m L) j).off = m.off + j * m.ld := by unfold colV withL; simp [hr0]
        rw [e] at this
        exact this
      · have h1 := (bw _ hB).fs_ne H.M hbg
        have := col_any m (.slice (some ⟨bm, 0, none⟩) m.ws.length cm) j w' h1 H.good H.wm hj
        have e : (colV m j).off = m.off + j * m.ld := by unfold colV; simp [hr0]
        rw [e] at this
        exact this
    · intro i j hi hj w' L s hB hL hS
      have hpl := (MatM.places H.good).lt i j (by omega) (by omega)
      by_cases hbg : bm = g
      · have hm1 := H.m1
        rw [show decide (g = bm) = true by simpa using hbg.symm] at hm1
        obtain ⟨r, h1, h2⟩ := hL.get (i := m.place i j) (by rw [hS.len, ← Hmg.out hbg]; exact hpl)
        refine ⟨r, by rw [hbg]; exact h1, ?_⟩
        rw [hS.rest _ (fun q hq => meet_no H.ry H.good hm1 hq hi hj), ← Hmg.out hbg] at h2
        exact h2
      · have h1 := (bw _ hB).fs_ne H.M hbg
        obtain ⟨blk, o, h2, _, h3⟩ := h1.at.2 (by omega)
        cases h2
        obtain ⟨r, h4, h5⟩ := h3 _ hpl
        rw [Nat.zero_add] at h4
        exact ⟨r, h4, h5⟩
    · intro j hj w' L s hB hL hS
      have hpl := VecM.place_lt H.rx hj
      by_cases hbg : bx = g
      · have hm2 := H.m2
        rw [show decide (g = bx) = true by simpa using hbg.symm] at hm2
        obtain ⟨r, h1, h2⟩ := hL.get (i := x.place j) (by rw [hS.len, ← Hxg.out hbg]; exact hpl)
        refine ⟨r, by rw [hbg]; exact h1, ?_⟩
        have ep : (rowM x).place 0 j = x.place j := by unfold MatM.place VecM.place rowM; simp
        rw [hS.rest _ (fun q hq => by rw [← ep]; exact meet_no H.ry (rowM_good H.rx) hm2 hq (i := 0) (j := j) (by show (0 : Int) < 1; omega) hj), ← Hxg.out hbg] at h2
        exact h2
      · have h1 := (bw _ hB).fs_ne H.X hbg
        obtain ⟨blk, o, h2, _, h3⟩ := h1.at.2 (by omega)
        cases h2
        obtain ⟨r, h4, h5⟩ := h3 _ hpl
        rw [Nat.zero_add] at h4
        exact ⟨r, h4, h5⟩
  go_wp2_with (first | (go_at_call 146; ((with_reducible refine (hcol).mono ?_); rintro e w1 ⟨rfl, hB2, L2, hL2, hS2⟩)))
  go_ret
  exact ⟨rfl, bw _ hB2, L2, hL2, hS2⟩
end Go.Proofs.Ytcmggfpcbijcjaa
