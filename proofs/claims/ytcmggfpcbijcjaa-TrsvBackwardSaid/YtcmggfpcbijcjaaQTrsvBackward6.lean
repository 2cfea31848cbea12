/-
  Texts laid one behind the other (a claim has at most 60 files): Gemv3, Gemv4, FltVal, FltVal2, FltErr, FltScale, FltLd.
-/
import Derived.Test.YtcmggfpcbijcjaaQTrsvBackward1
import Derived.Test.YtcmggfpcbijcjaaQTrsvBackward2
import Derived.Test.YtcmggfpcbijcjaaQTrsvBackward3
import Derived.Test.YtcmggfpcbijcjaaQTrsvBackward4
import Derived.Test.YtcmggfpcbijcjaaQTrsvBackward5
section
/-
  Contracts: gemv.check and gemv.Mul, where all is well.
-/
set_option linter.unusedSimpArgs false
set_option linter.unusedVariables false
open Go Go.RowKit Sedge
namespace Go.Proofs.Ytcmggfpcbijcjaa
/-- What is asked of a product: all is well. -/
structure MulOk (m : MatM) (x y : VecM) (bm cm bx cx g cg : Nat) (rows cols : Int) (w : World) : Prop where
  M : FS w (.slice (some ⟨bm, 0, none⟩) m.ws.length cm) m.ws
  X : FS w (.slice (some ⟨bx, 0, none⟩) x.ws.length cx) x.ws
  Y : FS w (.slice (some ⟨g, 0, none⟩) y.ws.length cg) y.ws
  pM : Plain w bm
  pX : Plain w bx
  pY : Plain w g
  good : m.good = true
  rx : x.right = true
  ry : y.right = true
  xn : x.n = cols
  yn : y.n = rows
  m1 : meetM (rowM y) m (decide (g = bm)) = false
  m2 : meetM (rowM y) (rowM x) (decide (g = bx)) = false
  wm : m.wf
  wx : x.wf
  wy : y.wf
  lm : m.ws.length ≤ 1000000
  lx : x.ws.length ≤ 1000000
  ly : y.ws.length ≤ 1000000
set_option maxRecDepth 100000 in
set_option maxHeartbeats 2000000 in
/-- gemv.check, where all is well. -/
theorem vcheck_ok (m : MatM) (x y : VecM) (bm cm bx cx g cg : Nat) (rows cols : Int) (w : World) (H : MulOk m x y bm cm bx cx g cg rows cols w) :
   Calls Try.prog 144 #[.agg #[(.slice (some ⟨bm, 0, none⟩) m.ws.length cm), .int .i64 m.off, .int .i64 m.rows, .int .i64 m.cols, .int .i64 m.ld], .int .i64 rows, .int .i64 cols, .agg #[(.slice (some ⟨bx, 0, none⟩) x.ws.length cx), .int .i64 x.off, .int .i64 x.n, .int .i64 x.inc], .agg #[(.slice (some ⟨g, 0, none⟩) y.ws.length cg), .int .i64 y.off, .int .i64 y.n, .int .i64 y.inc]] w (fun e w' => e = .returned (.int .i64 0) ∧ ∃ o n, w' = ext w o n) := by
  have cG : ∀ w', FS w' (.slice (some ⟨bm, 0, none⟩) m.ws.length cm) m.ws → Calls Try.prog 130 #[.agg #[(.slice (some ⟨bm, 0, none⟩) m.ws.length cm), .int .i64 m.off, .int .i64 m.rows, .int .i64 m.cols, .int .i64 m.ld]] w' (fun e w2 => e = .returned (.bool true) ∧ ∃ o n, w2 = ext w' o n) := fun w' h => by
    have := good_any m _ w' h H.wm; rw [H.good] at this; exact this
  have cX : ∀ w', FS w' (.slice (some ⟨bx, 0, none⟩) x.ws.length cx) x.ws → Calls Try.prog 135 #[.agg #[(.slice (some ⟨bx, 0, none⟩) x.ws.length cx), .int .i64 x.off, .int .i64 x.n, .int .i64 x.inc]] w' (fun e w2 => e = .returned (.bool true) ∧ ∃ o n, w2 = ext w' o n) := fun w' h => by
    have := right_any x _ w' h H.wx; rw [H.rx] at this; exact this
  have cY : ∀ w', FS w' (.slice (some ⟨g, 0, none⟩) y.ws.length cg) y.ws → Calls Try.prog 135 #[.agg #[(.slice (some ⟨g, 0, none⟩) y.ws.length cg), .int .i64 y.off, .int .i64 y.n, .int .i64 y.inc]] w' (fun e w2 => e = .returned (.bool true) ∧ ∃ o n, w2 = ext w' o n) := fun w' h => by
    have := right_any y _ w' h H.wy; rw [H.ry] at this; exact this
  have cM1 : ∀ w', FS w' (.slice (some ⟨g, 0, none⟩) y.ws.length cg) y.ws → FS w' (.slice (some ⟨bm, 0, none⟩) m.ws.length cm) m.ws → Plain w' g → Plain w' bm → Calls Try.prog 136 #[.agg #[(.slice (some ⟨g, 0, none⟩) y.ws.length cg), .int .i64 y.off, .int .i64 1, .int .i64 y.n, .int .i64 y.inc], .agg #[(.slice (some ⟨bm, 0, none⟩) m.ws.length cm), .int .i64 m.off, .int .i64 m.rows, .int .i64 m.cols, .int .i64 m.ld]] w' (fun e w2 => e = .returned (.bool false) ∧ ∃ o n, w2 = ext w' o n) := fun w' h1 h2 p1 p2 => by
    have := meetM_any (rowM y) m g bm cg cm w' h1 h2 p1 p2 (rowM_wf H.wy) H.wm H.ly H.lm
    rw [H.m1] at this; exact this
  have cM2 : ∀ w', FS w' (.slice (some ⟨g, 0, none⟩) y.ws.length cg) y.ws → FS w' (.slice (some ⟨bx, 0, none⟩) x.ws.length cx) x.ws → Plain w' g → Plain w' bx → Calls Try.prog 136 #[.agg #[(.slice (some ⟨g, 0, none⟩) y.ws.length cg), .int .i64 y.off, .int .i64 1, .int .i64 y.n, .int .i64 y.inc], .agg #[(.slice (some ⟨bx, 0, none⟩) x.ws.length cx), .int .i64 x.off, .int .i64 1, .int .i64 x.n, .int .i64 x.inc]] w' (fun e w2 => e = .returned (.bool false) ∧ ∃ o n, w2 = ext w' o n) := fun w' h1 h2 p1 p2 => by
    have := meetM_any (rowM y) (rowM x) g bx cg cx w' h1 h2 p1 p2 (rowM_wf H.wy) (rowM_wf H.wx) H.ly H.lx
    rw [H.m2] at this; exact this
  have hM := H.M
  have hX := H.X
  have hY := H.Y
  have pM := H.pM
  have pX := H.pX
  have pY := H.pY
  have d1 : (x.n != cols) = false := by simpa using H.xn
  have d2 : (y.n != rows) = false := by simpa using H.yn
  clear H
  go_enter Try.func144, Try.ntmps144
  refine seq_stop ?_
  go_wp2
  refine stop_go (fun W hW => ?_)
  have s1 : w.heap.size < W.heap.size := by rw [hW]; simp only [World.size_alloc]; omega
  have b1 : ∀ i, W.cell? ⟨w.heap.size, i, none⟩ = (#[(.slice (some ⟨bm, 0, none⟩) m.ws.length cm), .int .i64 m.off, .int .i64 m.rows, .int .i64 m.cols, .int .i64 m.ld] : Array Value)[i]? := by intro i; rw [hW]; go_simp
  have s2 : w.heap.size + 1 < W.heap.size := by rw [hW]; simp only [World.size_alloc]; omega
  have b2 : ∀ i, W.cell? ⟨w.heap.size + 1, i, none⟩ = (#[(.slice (some ⟨bx, 0, none⟩) x.ws.length cx), .int .i64 x.off, .int .i64 x.n, .int .i64 x.inc] : Array Value)[i]? := by intro i; rw [hW]; go_simp
  have s3 : w.heap.size + 1 + 1 < W.heap.size := by rw [hW]; simp only [World.size_alloc]; omega
  have b3 : ∀ i, W.cell? ⟨w.heap.size + 1 + 1, i, none⟩ = (#[(.slice (some ⟨g, 0, none⟩) y.ws.length cg), .int .i64 y.off, .int .i64 y.n, .int .i64 y.inc] : Array Value)[i]? := by intro i; rw [hW]; go_simp
  have g0 : Grew w W := by rw [hW]; exact (((Grew.refl _).alloc _).alloc _).alloc _
  clear hW
  have hMW := hM.grew g0
  have hXW := hX.grew g0
  have hYW := hY.grew g0
  go_wp2_with (first | (go_at_call 130; ((with_reducible refine (cG _ ?_).mono ?_); (focus (first | (with_reducible assumption) | (with_reducible refine FS.ext ?_ _ _; with_reducible assumption) | (with_reducible refine IS.ext ?_ _ _; with_reducible assumption) | (refine hDu _ ?_; with_reducible assumption) | (refine hOu _ ?_; with_reducible assumption) | (refine hDa _ ?_; with_reducible assumption) | (refine hDb _ ?_; with_reducible assumption) | (refine hDc _ ?_; with_reducible assumption) | (refine hDd _ ?_; with_reducible assumption) | (refine FW.fs ?_ (by omega) _; with_reducible assumption) | (refine WS.fs ?_; with_reducible assumption) | (refine FW.fs ?_ (by omega) _; assumption) | omega | assumption)); rintro e w1 ⟨rfl, oa, na, rfl⟩)) | (go_at_call 135; ((with_reducible refine (cX _ ?_).mono ?_); (focus (first | (with_reducible assumption) | (with_reducible refine FS.ext ?_ _ _; with_reducible assumption) | (with_reducible refine IS.ext ?_ _ _; with_reducible assumption) | (refine hDu _ ?_; with_reducible assumption) | (refine hOu _ ?_; with_reducible assumption) | (refine hDa _ ?_; with_reducible assumption) | (refine hDb _ ?_; with_reducible assumption) | (refine hDc _ ?_; with_reducible assumption) | (refine hDd _ ?_; with_reducible assumption) | (refine FW.fs ?_ (by omega) _; with_reducible assumption) | (refine WS.fs ?_; with_reducible assumption) | (refine FW.fs ?_ (by omega) _; assumption) | omega | assumption)); rintro e w1 ⟨rfl, ob, nb, rfl⟩)) | (go_at_call 135; ((with_reducible refine (cY _ ?_).mono ?_); (focus (first | (with_reducible assumption) | (with_reducible refine FS.ext ?_ _ _; with_reducible assumption) | (with_reducible refine IS.ext ?_ _ _; with_reducible assumption) | (refine hDu _ ?_; with_reducible assumption) | (refine hOu _ ?_; with_reducible assumption) | (refine hDa _ ?_; with_reducible assumption) | (refine hDb _ ?_; with_reducible assumption) | (refine hDc _ ?_; with_reducible assumption) | (refine hDd _ ?_; with_reducible assumption) | (refine FW.fs ?_ (by omega) _; with_reducible assumption) | (refine WS.fs ?_; with_reducible assumption) | (refine FW.fs ?_ (by omega) _; assumption) | omega | assumption)); rintro e w1 ⟨rfl, oc, nc, rfl⟩)))
  refine wp_region_R (Grew W) [] [(0,0), (0,2), (1,1), (1,3), (0,4), (0,5), (0,7), (1,6), (1,8), (1,9), (0,10), (0,11)] (by kernel_rfl) (by kernel_rfl) (fun _ _ _ _ h _ => h) (by first | exact ⟨_, _, ext_drew⟩ | exact ⟨_, _, drew_ext0⟩ | (show Grew _ _; repeat (first | (with_reducible exact Grew.refl _) | (with_reducible assumption) | (with_reducible exact Grew.same_o) | (with_reducible exact Grew.app_o) | (with_reducible refine Grew.ext ?_ _ _) | (with_reducible refine Grew.alloc ?_ _) | ((with_reducible refine Grew.setCell ?_ ?_ _); rotate_left; (focus (dsimp only; first | omega | (simp only [size_ext, World.size_alloc, Array.size_append]; omega)))) | (with_reducible refine Grew.drewN ?_ _) | (with_reducible refine Grew.drew ?_)))) ?_
  go_wp2_with (first | ((with_reducible refine wpR_id ?_); first | (refine wpR_take (v := ?_) rfl rfl ?_ ?_; rotate_left; (focus (rintro w' ⟨o', n', rfl⟩; go_simp; try with_reducible rfl)); simp only [Act.put, List.setIfInBounds_toArray, List.set_cons_zero, List.set_cons_succ]) | (refine wpR_pure (v := ?_) rfl rfl ?_ ?_; rotate_left; (focus (intro w'; go_simp; try with_reducible rfl)); simp only [Act.put, List.setIfInBounds_toArray, List.set_cons_zero, List.set_cons_succ]) | (refine wpR_takeG (v := ?_) rfl rfl rfl rfl rfl ?_ ?_; rotate_left; (focus (rintro w' ⟨o', n', rfl⟩; go_simp; try with_reducible rfl)); simp only [Act.put, List.setIfInBounds_toArray, List.set_cons_zero, List.set_cons_succ]) | (refine wpR_skip rfl rfl rfl rfl rfl rfl ?_; simp only [Act.put, List.setIfInBounds_toArray, List.set_cons_zero, List.set_cons_succ]) | (refine wpR_skipU rfl rfl rfl rfl rfl ?_; simp only [Act.put, List.setIfInBounds_toArray, List.set_cons_zero, List.set_cons_succ]) | (refine wpR_do rfl rfl (fun K hK => ?_)) | (refine wpR_doG rfl rfl rfl rfl rfl (fun K hK => ?_)) | (refine wpR_last rfl rfl (fun K hK => ?_)) | (refine wpR_nil ?_)) | ((with_reducible refine wpR_go ?_ ?_); (focus exact ⟨_, _, rfl⟩)) | ((with_reducible refine upon_id ?_); refine upon_fop rfl (by assumption) (by assumption) ?_; intro rr nn hr) | (go_at_call 196; ((with_reducible refine (vrow_any y _ _ _ _).mono ?_); rintro e w1 ⟨rfl, od, nd, rfl⟩)) | (go_at_call 196; ((with_reducible refine (vrow_any x _ _ _ _).mono ?_); rintro e w1 ⟨rfl, od, nd, rfl⟩)) | (go_at_call 136; ((with_reducible refine (cM1 _ ?_ ?_ (pY.grew (by (show Grew _ _; repeat (first | (with_reducible exact Grew.refl _) | (with_reducible assumption) | (with_reducible exact Grew.same_o) | (with_reducible exact Grew.app_o) | (with_reducible refine Grew.ext ?_ _ _) | (with_reducible refine Grew.alloc ?_ _) | ((with_reducible refine Grew.setCell ?_ ?_ _); rotate_left; (focus (dsimp only; first | omega | (simp only [size_ext, World.size_alloc, Array.size_append]; omega)))) | (with_reducible refine Grew.drewN ?_ _) | (with_reducible refine Grew.drew ?_))))) (pM.grew (by (show Grew _ _; repeat (first | (with_reducible exact Grew.refl _) | (with_reducible assumption) | (with_reducible exact Grew.same_o) | (with_reducible exact Grew.app_o) | (with_reducible refine Grew.ext ?_ _ _) | (with_reducible refine Grew.alloc ?_ _) | ((with_reducible refine Grew.setCell ?_ ?_ _); rotate_left; (focus (dsimp only; first | omega | (simp only [size_ext, World.size_alloc, Array.size_append]; omega)))) | (with_reducible refine Grew.drewN ?_ _) | (with_reducible refine Grew.drew ?_)))))).mono ?_); (focus (first | (with_reducible assumption) | (with_reducible refine FS.ext ?_ _ _; with_reducible assumption) | (with_reducible refine IS.ext ?_ _ _; with_reducible assumption) | (refine hDu _ ?_; with_reducible assumption) | (refine hOu _ ?_; with_reducible assumption) | (refine hDa _ ?_; with_reducible assumption) | (refine hDb _ ?_; with_reducible assumption) | (refine hDc _ ?_; with_reducible assumption) | (refine hDd _ ?_; with_reducible assumption) | (refine FW.fs ?_ (by omega) _; with_reducible assumption) | (refine WS.fs ?_; with_reducible assumption) | (refine FW.fs ?_ (by omega) _; assumption) | omega | assumption)); (focus (first | (with_reducible assumption) | (with_reducible refine FS.ext ?_ _ _; with_reducible assumption) | (with_reducible refine IS.ext ?_ _ _; with_reducible assumption) | (refine hDu _ ?_; with_reducible assumption) | (refine hOu _ ?_; with_reducible assumption) | (refine hDa _ ?_; with_reducible assumption) | (refine hDb _ ?_; with_reducible assumption) | (refine hDc _ ?_; with_reducible assumption) | (refine hDd _ ?_; with_reducible assumption) | (refine FW.fs ?_ (by omega) _; with_reducible assumption) | (refine WS.fs ?_; with_reducible assumption) | (refine FW.fs ?_ (by omega) _; assumption) | omega | assumption)); rintro e w1 ⟨rfl, oe, ne, rfl⟩)) | (go_at_call 136; ((with_reducible refine (cM2 _ ?_ ?_ (pY.grew (by (show Grew _ _; repeat (first | (with_reducible exact Grew.refl _) | (with_reducible assumption) | (with_reducible exact Grew.same_o) | (with_reducible exact Grew.app_o) | (with_reducible refine Grew.ext ?_ _ _) | (with_reducible refine Grew.alloc ?_ _) | ((with_reducible refine Grew.setCell ?_ ?_ _); rotate_left; (focus (dsimp only; first | omega | (simp only [size_ext, World.size_alloc, Array.size_append]; omega)))) | (with_reducible refine Grew.drewN ?_ _) | (with_reducible refine Grew.drew ?_))))) (pX.grew (by (show Grew _ _; repeat (first | (with_reducible exact Grew.refl _) | (with_reducible assumption) | (with_reducible exact Grew.same_o) | (with_reducible exact Grew.app_o) | (with_reducible refine Grew.ext ?_ _ _) | (with_reducible refine Grew.alloc ?_ _) | ((with_reducible refine Grew.setCell ?_ ?_ _); rotate_left; (focus (dsimp only; first | omega | (simp only [size_ext, World.size_alloc, Array.size_append]; omega)))) | (with_reducible refine Grew.drewN ?_ _) | (with_reducible refine Grew.drew ?_)))))).mono ?_); (focus (first | (with_reducible assumption) | (with_reducible refine FS.ext ?_ _ _; with_reducible assumption) | (with_reducible refine IS.ext ?_ _ _; with_reducible assumption) | (refine hDu _ ?_; with_reducible assumption) | (refine hOu _ ?_; with_reducible assumption) | (refine hDa _ ?_; with_reducible assumption) | (refine hDb _ ?_; with_reducible assumption) | (refine hDc _ ?_; with_reducible assumption) | (refine hDd _ ?_; with_reducible assumption) | (refine FW.fs ?_ (by omega) _; with_reducible assumption) | (refine WS.fs ?_; with_reducible assumption) | (refine FW.fs ?_ (by omega) _; assumption) | omega | assumption)); (focus (first | (with_reducible assumption) | (with_reducible refine FS.ext ?_ _ _; with_reducible assumption) | (with_reducible refine IS.ext ?_ _ _; with_reducible assumption) | (refine hDu _ ?_; with_reducible assumption) | (refine hOu _ ?_; with_reducible assumption) | (refine hDa _ ?_; with_reducible assumption) | (refine hDb _ ?_; with_reducible assumption) | (refine hDc _ ?_; with_reducible assumption) | (refine hDd _ ?_; with_reducible assumption) | (refine FW.fs ?_ (by omega) _; with_reducible assumption) | (refine WS.fs ?_; with_reducible assumption) | (refine FW.fs ?_ (by omega) _; assumption) | omega | assumption)); rintro e w1 ⟨rfl, of, nf, rfl⟩)))
  go_ret
  exact ⟨rfl, by (show Grew _ _; repeat (first | (with_reducible exact Grew.refl _) | (with_reducible assumption) | (with_reducible exact Grew.same_o) | (with_reducible exact Grew.app_o) | (with_reducible refine Grew.ext ?_ _ _) | (with_reducible refine Grew.alloc ?_ _) | ((with_reducible refine Grew.setCell ?_ ?_ _); rotate_left; (focus (dsimp only; first | omega | (simp only [size_ext, World.size_alloc, Array.size_append]; omega)))) | (with_reducible refine Grew.drewN ?_ _) | (with_reducible refine Grew.drew ?_)))⟩
set_option maxRecDepth 100000 in
set_option maxHeartbeats 2000000 in
/-- gemv.Mul, where all is well. -/
theorem mul_ok (a α b β : Nat) (m : MatM) (x y : VecM) (bm cm bx cx g cg : Nat) (w : World) (ha : IsF a α) (hb : IsF b β) (H : MulOk m x y bm cm bx cx g cg m.rows m.cols w) (hF : FW w g y.ws) (hy0 : 0 < y.n) (hmg : bm = g → m.ws = y.ws) (hxg : bx = g → x.ws = y.ws) (kbm : bm < w.heap.size) (kbx : bx < w.heap.size) :
   Calls Try.prog 71 #[.float .f64 a, .agg #[(.slice (some ⟨bm, 0, none⟩) m.ws.length cm), .int .i64 m.off, .int .i64 m.rows, .int .i64 m.cols, .int .i64 m.ld], .agg #[(.slice (some ⟨bx, 0, none⟩) x.ws.length cx), .int .i64 x.off, .int .i64 x.n, .int .i64 x.inc], .float .f64 b, .agg #[(.slice (some ⟨g, 0, none⟩) y.ws.length cg), .int .i64 y.off, .int .i64 y.n, .int .i64 y.inc]] w
     (fun e w' => e = .returned (.int .i64 0) ∧ But w [g] w' ∧ ∃ L, FW w' g L ∧ VH y L (fun r => mulTo α m.num x.num (beginF β (y.num r)) r x.n.toNat)) := by
  have hck : ∀ w', Grew w w' → Calls Try.prog 144 #[.agg #[(.slice (some ⟨bm, 0, none⟩) m.ws.length cm), .int .i64 m.off, .int .i64 m.rows, .int .i64 m.cols, .int .i64 m.ld], .int .i64 m.rows, .int .i64 m.cols, .agg #[(.slice (some ⟨bx, 0, none⟩) x.ws.length cx), .int .i64 x.off, .int .i64 x.n, .int .i64 x.inc], .agg #[(.slice (some ⟨g, 0, none⟩) y.ws.length cg), .int .i64 y.off, .int .i64 y.n, .int .i64 y.inc]] w' (fun e w2 => e = .returned (.int .i64 0) ∧ ∃ o n, w2 = ext w' o n) := fun w' hg =>
    vcheck_ok m x y bm cm bx cx g cg m.rows m.cols w' ⟨H.M.grew hg, H.X.grew hg, H.Y.grew hg, H.pM.grew hg, H.pX.grew hg, H.pY.grew hg, H.good, H.rx, H.ry, H.xn, H.yn, H.m1, H.m2, H.wm, H.wx, H.wy, H.lm, H.lx, H.ly⟩
  have hltg := hF.lt
  have H' := hid H
  have hny := VecM.right_n H.ry
  have Hmg := hid hmg
  have Hxg := hid hxg
  have d0 : decide (0 < y.n) = true := by simpa using hy0
  clear H hmg hxg
  go_enter Try.func71, Try.ntmps71
  refine seq_stop ?_
  go_wp2
  refine stop_go (fun W hW => ?_)
  have s1 : w.heap.size < W.heap.size := by rw [hW]; simp only [World.size_alloc]; omega
  have b1 : ∀ i, W.cell? ⟨w.heap.size, i, none⟩ = (#[.float .f64 a] : Array Value)[i]? := by intro i; rw [hW]; go_simp
  have s2 : w.heap.size + 1 < W.heap.size := by rw [hW]; simp only [World.size_alloc]; omega
  have b2 : ∀ i, W.cell? ⟨w.heap.size + 1, i, none⟩ = (#[(.slice (some ⟨bm, 0, none⟩) m.ws.length cm), .int .i64 m.off, .int .i64 m.rows, .int .i64 m.cols, .int .i64 m.ld] : Array Value)[i]? := by intro i; rw [hW]; go_simp
  have s3 : w.heap.size + 1 + 1 < W.heap.size := by rw [hW]; simp only [World.size_alloc]; omega
  have b3 : ∀ i, W.cell? ⟨w.heap.size + 1 + 1, i, none⟩ = (#[(.slice (some ⟨bx, 0, none⟩) x.ws.length cx), .int .i64 x.off, .int .i64 x.n, .int .i64 x.inc] : Array Value)[i]? := by intro i; rw [hW]; go_simp
  have s4 : w.heap.size + 1 + 1 + 1 < W.heap.size := by rw [hW]; simp only [World.size_alloc]; omega
  have b4 : ∀ i, W.cell? ⟨w.heap.size + 1 + 1 + 1, i, none⟩ = (#[(.slice (some ⟨g, 0, none⟩) y.ws.length cg), .int .i64 y.off, .int .i64 y.n, .int .i64 y.inc] : Array Value)[i]? := by intro i; rw [hW]; go_simp
  have g0 : Grew w W := by rw [hW]; exact ((((Grew.refl _).alloc _).alloc _).alloc _).alloc _
  clear hW
  have hFW := hF.grew g0
  have zW := g0.below.size
  have hmf := hmf
  go_wp2_with (first | (go_at_call 144; ((with_reducible refine (hck _ (g0.trans (by (show Grew _ _; repeat (first | (with_reducible exact Grew.refl _) | (with_reducible assumption) | (with_reducible exact Grew.same_o) | (with_reducible exact Grew.app_o) | (with_reducible refine Grew.ext ?_ _ _) | (with_reducible refine Grew.alloc ?_ _) | ((with_reducible refine Grew.setCell ?_ ?_ _); rotate_left; (focus (dsimp only; first | omega | (simp only [size_ext, World.size_alloc, Array.size_append]; omega)))) | (with_reducible refine Grew.drewN ?_ _) | (with_reducible refine Grew.drew ?_)))))).mono ?_); rintro e w1 ⟨rfl, oa, na, rfl⟩)))
  refine name_call (fun V hV => ?_)
  have gV : Grew W V := by rw [← hV]; (show Grew _ _; repeat (first | (with_reducible exact Grew.refl _) | (with_reducible assumption) | (with_reducible exact Grew.same_o) | (with_reducible exact Grew.app_o) | (with_reducible refine Grew.ext ?_ _ _) | (with_reducible refine Grew.alloc ?_ _) | ((with_reducible refine Grew.setCell ?_ ?_ _); rotate_left; (focus (dsimp only; first | omega | (simp only [size_ext, World.size_alloc, Array.size_append]; omega)))) | (with_reducible refine Grew.drewN ?_ _) | (with_reducible refine Grew.drew ?_)))
  have gw : Grew w V := g0.trans gV
  have zV := gV.below.size
  have hFV := hF.grew gw
  have c1 : ∀ w', But V [g] w' → ∀ i, w'.cell? ⟨w.heap.size, i, none⟩ = (#[.float .f64 a] : Array Value)[i]? := fun w' h i => (h.cell (by omega) (by simp; omega)).trans ((gV.cell s1).trans (b1 i))
  have c2 : ∀ w', But V [g] w' → ∀ i, w'.cell? ⟨w.heap.size + 1, i, none⟩ = (#[(.slice (some ⟨bm, 0, none⟩) m.ws.length cm), .int .i64 m.off, .int .i64 m.rows, .int .i64 m.cols, .int .i64 m.ld] : Array Value)[i]? := fun w' h i => (h.cell (by omega) (by simp; omega)).trans ((gV.cell s2).trans (b2 i))
  have c3 : ∀ w', But V [g] w' → ∀ i, w'.cell? ⟨w.heap.size + 1 + 1, i, none⟩ = (#[(.slice (some ⟨bx, 0, none⟩) x.ws.length cx), .int .i64 x.off, .int .i64 x.n, .int .i64 x.inc] : Array Value)[i]? := fun w' h i => (h.cell (by omega) (by simp; omega)).trans ((gV.cell s3).trans (b3 i))
  have c4 : ∀ w', But V [g] w' → ∀ i, w'.cell? ⟨w.heap.size + 1 + 1 + 1, i, none⟩ = (#[(.slice (some ⟨g, 0, none⟩) y.ws.length cg), .int .i64 y.off, .int .i64 y.n, .int .i64 y.inc] : Array Value)[i]? := fun w' h i => (h.cell (by omega) (by simp; omega)).trans ((gV.cell s4).trans (b4 i))
  clear hV b1 b2 b3 b4 hck
  refine (begin_any b β y g cg y.num y.ws V hb hFV (VH.start y) H'.out.ry H'.out.ly).mono ?_
  rintro e w1 ⟨rfl, hB1, L1, hL1, hS1⟩
  have t1 := c2 _ hB1
  have t2 := c3 _ hB1
  have t3 := c4 _ hB1
  have z1 := hB1.size
  have k1 : w.heap.size + 1 < w1.heap.size := by omega
  have k2 : w.heap.size + 1 + 1 < w1.heap.size := by omega
  have k3 : w.heap.size + 1 + 1 + 1 < w1.heap.size := by omega
  have bw : ∀ w', But w1 [g] w' → But w [g] w' := fun w' h => (((But.refl w [g]).grew gw).trans hB1 (fun _ hb => .inl hb)).trans h (fun _ hb => .inl hb)
  have bV : ∀ w', But w1 [g] w' → But V [g] w' := fun w' h => hB1.trans h (fun _ hb => .inl hb)
  have hcol : Calls Try.prog 146 #[.agg #[(.slice (some ⟨bm, 0, none⟩) m.ws.length cm), .int .i64 m.off, .int .i64 m.rows, .int .i64 m.cols, .int .i64 m.ld], .agg #[(.slice (some ⟨bx, 0, none⟩) x.ws.length cx), .int .i64 x.off, .int .i64 x.n, .int .i64 x.inc], .agg #[(.slice (some ⟨g, 0, none⟩) y.ws.length cg), .int .i64 y.off, .int .i64 y.n, .int .i64 y.inc], .func (.func 147) #[] #[.pointer (some ⟨w.heap.size, 0, none⟩)]] w1
     (fun e w' => e = .returned (.tuple #[]) ∧ But w1 [g] w' ∧ ∃ L, FW w' g L ∧ VH y L (fun r => mulTo α m.num x.num (beginF β (y.num r)) r x.n.toNat)) := by
    have H := H'.out
    refine columns_any m x y bm cm bx cx g cg a α w.heap.size (fun r => beginF β (y.num r)) L1 w1 ha (fun i => c1 _ hB1 i) (by omega) (by omega) hL1 hS1 H.good H.rx H.ry H.wm H.xn H.yn hy0 H.lm H.lx H.ly ?_ ?_ ?_ (by have := gw.below.size; omega) (by have := gw.below.size; omega)
    · intro w' L s hB hL hS j hj
      have hr0 : 0 < m.rows := by have := H.yn; omega
      by_cases hbg : bm = g
      · have hl : L.length = m.ws.length := by rw [hS.len, Hmg.out hbg]
        have h1 := hL.fs (by rw [hl]; have := H.lm; omega) cm
        rw [hl, ← hbg] at h1
        have := col_any (withL m L) (.slice (some ⟨bm, 0, none⟩) m.ws.length cm) j w' h1 (by rw [withL_good hl]; exact H.good) H.wm hj
        have e : (colV (withL m L) j).off = m.off + j * m.ld := by unfold colV withL; simp [hr0]
        rw [e] at this
        exact this
      · have h1 := (bw _ hB).fs_ne H.M hbg
        have := col_any m (.slice (some ⟨bm, 0, none⟩) m.ws.length cm) j w' h1 H.good H.wm hj
        have e : (colV m j).off = m.off + j * m.ld := by unfold colV; simp [hr0]
        rw [e] at this
        exact this
    · intro i j hi hj w' L s hB hL hS
      have hpl := (MatM.places H.good).lt i j (by omega) (by omega)
      by_cases hbg : bm = g
      · have hm1 := H.m1
        rw [show decide (g = bm) = true by simpa using hbg.symm] at hm1
        obtain ⟨r, h1, h2⟩ := hL.get (i := m.place i j) (by rw [hS.len, ← Hmg.out hbg]; exact hpl)
        refine ⟨r, by rw [hbg]; exact h1, ?_⟩
        rw [hS.rest _ (fun q hq => meet_no H.ry H.good hm1 hq hi hj), ← Hmg.out hbg] at h2
        exact h2
      · have h1 := (bw _ hB).fs_ne H.M hbg
        obtain ⟨blk, o, h2, _, h3⟩ := h1.at.2 (by omega)
        cases h2
        obtain ⟨r, h4, h5⟩ := h3 _ hpl
        rw [Nat.zero_add] at h4
        exact ⟨r, h4, h5⟩
    · intro j hj w' L s hB hL hS
      have hpl := VecM.place_lt H.rx hj
      by_cases hbg : bx = g
      · have hm2 := H.m2
        rw [show decide (g = bx) = true by simpa using hbg.symm] at hm2
        obtain ⟨r, h1, h2⟩ := hL.get (i := x.place j) (by rw [hS.len, ← Hxg.out hbg]; exact hpl)
        refine ⟨r, by rw [hbg]; exact h1, ?_⟩
        have ep : (rowM x).place 0 j = x.place j := by unfold MatM.place VecM.place rowM; simp
        rw [hS.rest _ (fun q hq => by rw [← ep]; exact meet_no H.ry (rowM_good H.rx) hm2 hq (i := 0) (j := j) (by show (0 : Int) < 1; omega) hj), ← Hxg.out hbg] at h2
        exact h2
      · have h1 := (bw _ hB).fs_ne H.X hbg
        obtain ⟨blk, o, h2, _, h3⟩ := h1.at.2 (by omega)
        cases h2
        obtain ⟨r, h4, h5⟩ := h3 _ hpl
        rw [Nat.zero_add] at h4
        exact ⟨r, h4, h5⟩
  go_wp2_with (first | (go_at_call 146; ((with_reducible refine (hcol).mono ?_); rintro e w1 ⟨rfl, hB2, L2, hL2, hS2⟩)))
  go_ret
  exact ⟨rfl, bw _ hB2, L2, hL2, hS2⟩
end Go.Proofs.Ytcmggfpcbijcjaa
end
section
/-
  Contracts: gemv.Mul where all is well, x a slice that came in (its place in the block any).
-/
set_option linter.unusedSimpArgs false
set_option linter.unusedVariables false
open Go Go.RowKit Sedge
namespace Go.Proofs.Ytcmggfpcbijcjaa
/-- Block b holds cells. -/
def Held (w : World) (b : Nat) : Prop := ∃ c e f, w.heap[b]? = some (.cells c e f) ∧ c.size ≠ 0
theorem Held.grew {w w' : World} {b : Nat} (h : Held w b) (g : Grew w w') : Held w' b := by
  obtain ⟨c, e, f, h, k⟩ := h; exact ⟨c, e, f, by rw [g.below.block b (some_lt' h)]; exact h, k⟩
theorem held_cell {w : World} {b i : Nat} {v : Value} (h : w.cell? ⟨b, i, none⟩ = some v) : Held w b := by
  unfold World.cell? at h
  simp only at h
  cases hb : w.heap[b]? with
  | none => rw [hb] at h; cases h
  | some x =>
    rw [hb] at h
    cases x with
    | cells c e f =>
      refine ⟨c, e, f, hb, fun h0 => ?_⟩
      simp only [Option.isSome_none, Bool.false_eq_true, if_false] at h
      rw [Array.getElem?_eq_none (by omega)] at h
      cases h
    | _ => cases h
theorem held_fs {w : World} {b o n c : Nat} {ws : List Nat} (h : FS w (.slice (some ⟨b, o, none⟩) n c) ws) (hn : 0 < ws.length) : Held w b := by
  obtain ⟨blk, so, e, _, hc⟩ := h.at.2 hn
  cases e
  obtain ⟨r, h1, _⟩ := hc 0 hn
  exact held_cell h1
theorem sameAddr_held {w : World} {a b : Addr} {ca cb : Array Value} {ta tb : TypeId} {fb : Nat × Nat} (hne : a.block ≠ b.block) (ha : w.heap[a.block]? = some (.cells ca ta (0, 0))) (hb : w.heap[b.block]? = some (.cells cb tb fb)) (hs : cb.size ≠ 0) :
    (sameAddr a b).run Try.prog w = .ok false w := by
  obtain ⟨f1, f2⟩ := fb
  simp [sameAddr, hne, World.frozen?, ha, hb, noView, viewAt, World.shape?, mayBeOne, stringish, hs]
theorem eql_held {w : World} {a b i j : Nat} (ha : Plain w a) (hb : Held w b) (hne : a ≠ b) : (binOp .eql 142 (.pointer (some ⟨a, i, none⟩)) (.pointer (some ⟨b, j, none⟩))).run Try.prog w = .ok (.bool false) w := by
  obtain ⟨t, hj, hs⟩ := info22
  obtain ⟨ca, ta, ha⟩ := ha
  obtain ⟨cb, tb, fb, hb, hz⟩ := hb
  have h : ∀ d : Nat, (Op.equalIn (d + 1) 142 (.pointer (some ⟨a, i, none⟩)) (.pointer (some ⟨b, j, none⟩))).run Try.prog w = .ok false w := fun d => by
    simp [Op.equalIn, run_underlying und142, sizeOf, typeInfo, hj, hs, sameAddr_held (w := w) (a := ⟨a, i, none⟩) (b := ⟨b, j, none⟩) hne ha hb hz]
  simp only [binOp]
  simp [Op.equal, Op.maxDepth, h 9999]
set_option maxRecDepth 100000 in
set_option maxHeartbeats 4000000 in
theorem meetO_any (x y : MatM) (a b ob ca cb : Nat) (w : World) (hA : FS w (.slice (some ⟨a, 0, none⟩) x.ws.length ca) x.ws) (hB : FS w (.slice (some ⟨b, ob, none⟩) y.ws.length cb) y.ws) (hPa : Plain w a) (hPb : Held w b) (hab : a ≠ b) (hwx : x.wf) (hwy : y.wf) (hlx : x.ws.length ≤ 1000000) (hly : y.ws.length ≤ 1000000) :
   Calls Try.prog 136 #[.agg #[.slice (some ⟨a, 0, none⟩) x.ws.length ca, .int .i64 x.off, .int .i64 x.rows, .int .i64 x.cols, .int .i64 x.ld], .agg #[.slice (some ⟨b, ob, none⟩) y.ws.length cb, .int .i64 y.off, .int .i64 y.rows, .int .i64 y.cols, .int .i64 y.ld]] w
     (fun e w' => e = .returned (.bool false) ∧ ∃ o n, w' = ext w o n) := by
  have Hwx := hid hwx
  have Hwy := hid hwy
  clear hwx hwy
  have hne : ∀ W', Grew w W' → a ≠ b → (binOp .eql 142 (.pointer (some ⟨a, 0, none⟩)) (.pointer (some ⟨b, ob, none⟩))).run Try.prog W' = .ok (.bool false) W' := fun W' g h => eql_held (hPa.grew g) (hPb.grew g) h
  obtain ⟨l1, hl1⟩ : ∃ z, Hid (z = spanLo x) := ⟨_, hid rfl⟩
  obtain ⟨h1, hh1⟩ : ∃ z, Hid (z = spanHi x) := ⟨_, hid rfl⟩
  obtain ⟨l2, hl2⟩ : ∃ z, Hid (z = spanLo y) := ⟨_, hid rfl⟩
  obtain ⟨h2, hh2⟩ : ∃ z, Hid (z = spanHi y) := ⟨_, hid rfl⟩
  have hM : ∀ one, meetM x y one = (MatM.full x && MatM.full y && one && decide (l1 ≤ h2) && decide (l2 ≤ h1)) := fun one => by unfold meetM; rw [hl1.out, hh1.out, hl2.out, hh2.out]
  have sx : ∀ w', FS w' (.slice (some ⟨a, 0, none⟩) x.ws.length ca) x.ws → Calls Try.prog 194 #[.agg #[.slice (some ⟨a, 0, none⟩) x.ws.length ca, .int .i64 x.off, .int .i64 x.rows, .int .i64 x.cols, .int .i64 x.ld]] w' (fun e w2 => e = .returned (.tuple #[.int .i64 l1, .int .i64 h1, .bool (MatM.full x)]) ∧ ∃ o n, w2 = ext w' o n) := fun w' h => by
    rw [hl1.out, hh1.out]; exact span_any x _ w' h Hwx.out hlx
  have sy : ∀ w', FS w' (.slice (some ⟨b, ob, none⟩) y.ws.length cb) y.ws → Calls Try.prog 194 #[.agg #[.slice (some ⟨b, ob, none⟩) y.ws.length cb, .int .i64 y.off, .int .i64 y.rows, .int .i64 y.cols, .int .i64 y.ld]] w' (fun e w2 => e = .returned (.tuple #[.int .i64 l2, .int .i64 h2, .bool (MatM.full y)]) ∧ ∃ o n, w2 = ext w' o n) := fun w' h => by
    rw [hl2.out, hh2.out]; exact span_any y _ w' h Hwy.out hly
  have px : MatM.full x = true → 0 < x.ws.length := fun h => by have := MatM.full_place h; omega
  have py : MatM.full y = true → 0 < y.ws.length := fun h => by have := MatM.full_place h; omega
  cases fx : MatM.full x
  · have q := hid (show meetM x y false = false by rw [hM, fx]; rfl)
    clear hM px py hne
    go_enter Try.func136, Try.ntmps136
    refine seq_stop ?_
    go_wp2
    refine stop_go (fun W hW => ?_)
    have s1 : w.heap.size < W.heap.size := by rw [hW]; simp only [World.size_alloc]; omega
    have b1 : ∀ i, W.cell? ⟨w.heap.size, i, none⟩ = (#[.slice (some ⟨a, 0, none⟩) x.ws.length ca, .int .i64 x.off, .int .i64 x.rows, .int .i64 x.cols, .int .i64 x.ld] : Array Value)[i]? := by intro i; rw [hW]; go_simp
    have s2 : w.heap.size + 1 < W.heap.size := by rw [hW]; simp only [World.size_alloc]; omega
    have b2 : ∀ i, W.cell? ⟨w.heap.size + 1, i, none⟩ = (#[.slice (some ⟨b, ob, none⟩) y.ws.length cb, .int .i64 y.off, .int .i64 y.rows, .int .i64 y.cols, .int .i64 y.ld] : Array Value)[i]? := by intro i; rw [hW]; go_simp
    have g0 : Grew w W := by rw [hW]; exact ((Grew.refl _).alloc _).alloc _
    clear hW
    have hAW := hA.grew g0
    have hBW := hB.grew g0
    go_wp2_with (first | (go_at_call 194; ((with_reducible refine (sx _ ?_).mono ?_); (focus (first | (with_reducible assumption) | (with_reducible refine FS.ext ?_ _ _; with_reducible assumption) | (with_reducible refine IS.ext ?_ _ _; with_reducible assumption) | (refine hDu _ ?_; with_reducible assumption) | (refine hOu _ ?_; with_reducible assumption) | (refine hDa _ ?_; with_reducible assumption) | (refine hDb _ ?_; with_reducible assumption) | (refine hDc _ ?_; with_reducible assumption) | (refine hDd _ ?_; with_reducible assumption) | (refine FW.fs ?_ (by omega) _; with_reducible assumption) | (refine WS.fs ?_; with_reducible assumption) | (refine FW.fs ?_ (by omega) _; assumption) | omega | assumption)); rintro e w1 ⟨rfl, o1, n1, rfl⟩)) | (go_at_call 194; ((with_reducible refine (sy _ ?_).mono ?_); (focus (first | (with_reducible assumption) | (with_reducible refine FS.ext ?_ _ _; with_reducible assumption) | (with_reducible refine IS.ext ?_ _ _; with_reducible assumption) | (refine hDu _ ?_; with_reducible assumption) | (refine hOu _ ?_; with_reducible assumption) | (refine hDa _ ?_; with_reducible assumption) | (refine hDb _ ?_; with_reducible assumption) | (refine hDc _ ?_; with_reducible assumption) | (refine hDd _ ?_; with_reducible assumption) | (refine FW.fs ?_ (by omega) _; with_reducible assumption) | (refine WS.fs ?_; with_reducible assumption) | (refine FW.fs ?_ (by omega) _; assumption) | omega | assumption)); rintro e w1 ⟨rfl, o2, n2, rfl⟩)))
    skip
    refine wp_region_R (Grew W) [] [(0,0), (0,1), (0,2), (0,3), (0,4), (0,5), (0,6), (0,7), (0,8), (0,9), (0,10), (0,11), (0,12), (0,13), (0,14), (0,15), (0,16), (0,17), (0,18), (0,19), (0,20), (0,21), (0,22), (0,23)] (by kernel_rfl) (by kernel_rfl) (fun _ _ _ _ h _ => h) (by first | exact ⟨_, _, ext_drew⟩ | exact ⟨_, _, drew_ext0⟩ | (show Grew _ _; repeat (first | (with_reducible exact Grew.refl _) | (with_reducible assumption) | (with_reducible exact Grew.same_o) | (with_reducible exact Grew.app_o) | (with_reducible refine Grew.ext ?_ _ _) | (with_reducible refine Grew.alloc ?_ _) | ((with_reducible refine Grew.setCell ?_ ?_ _); rotate_left; (focus (dsimp only; first | omega | (simp only [size_ext, World.size_alloc, Array.size_append]; omega)))) | (with_reducible refine Grew.drewN ?_ _) | (with_reducible refine Grew.drew ?_)))) ?_
    go_wp2_with (first | ((with_reducible refine wpR_id ?_); first | (refine wpR_take (v := ?_) rfl rfl ?_ ?_; rotate_left; (focus (rintro w' ⟨o', n', rfl⟩; go_simp; try with_reducible rfl)); simp only [Act.put, List.setIfInBounds_toArray, List.set_cons_zero, List.set_cons_succ]) | (refine wpR_pure (v := ?_) rfl rfl ?_ ?_; rotate_left; (focus (intro w'; go_simp; try with_reducible rfl)); simp only [Act.put, List.setIfInBounds_toArray, List.set_cons_zero, List.set_cons_succ]) | (refine wpR_takeG (v := ?_) rfl rfl rfl rfl rfl ?_ ?_; rotate_left; (focus (rintro w' ⟨o', n', rfl⟩; go_simp; try with_reducible rfl)); simp only [Act.put, List.setIfInBounds_toArray, List.set_cons_zero, List.set_cons_succ]) | (refine wpR_skip rfl rfl rfl rfl rfl rfl ?_; simp only [Act.put, List.setIfInBounds_toArray, List.set_cons_zero, List.set_cons_succ]) | (refine wpR_skipU rfl rfl rfl rfl rfl ?_; simp only [Act.put, List.setIfInBounds_toArray, List.set_cons_zero, List.set_cons_succ]) | (refine wpR_do rfl rfl (fun K hK => ?_)) | (refine wpR_doG rfl rfl rfl rfl rfl (fun K hK => ?_)) | (refine wpR_last rfl rfl (fun K hK => ?_)) | (refine wpR_nil ?_)) | ((with_reducible refine wpR_go ?_ ?_); (focus exact ⟨_, _, rfl⟩)) | ((with_reducible refine upon_id ?_); refine upon_fop rfl (by assumption) (by assumption) ?_; intro rr nn hr))
    go_ret
    exact ⟨by first | rfl | simp, by (show Grew _ _; repeat (first | (with_reducible exact Grew.refl _) | (with_reducible assumption) | (with_reducible exact Grew.same_o) | (with_reducible exact Grew.app_o) | (with_reducible refine Grew.ext ?_ _ _) | (with_reducible refine Grew.alloc ?_ _) | ((with_reducible refine Grew.setCell ?_ ?_ _); rotate_left; (focus (dsimp only; first | omega | (simp only [size_ext, World.size_alloc, Array.size_append]; omega)))) | (with_reducible refine Grew.drewN ?_ _) | (with_reducible refine Grew.drew ?_)))⟩
  · cases fy : MatM.full y
    · have q := hid (show meetM x y false = false by rw [hM, fx, fy]; rfl)
      clear hM px py hne
      go_enter Try.func136, Try.ntmps136
      refine seq_stop ?_
      go_wp2
      refine stop_go (fun W hW => ?_)
      have s1 : w.heap.size < W.heap.size := by rw [hW]; simp only [World.size_alloc]; omega
      have b1 : ∀ i, W.cell? ⟨w.heap.size, i, none⟩ = (#[.slice (some ⟨a, 0, none⟩) x.ws.length ca, .int .i64 x.off, .int .i64 x.rows, .int .i64 x.cols, .int .i64 x.ld] : Array Value)[i]? := by intro i; rw [hW]; go_simp
      have s2 : w.heap.size + 1 < W.heap.size := by rw [hW]; simp only [World.size_alloc]; omega
      have b2 : ∀ i, W.cell? ⟨w.heap.size + 1, i, none⟩ = (#[.slice (some ⟨b, ob, none⟩) y.ws.length cb, .int .i64 y.off, .int .i64 y.rows, .int .i64 y.cols, .int .i64 y.ld] : Array Value)[i]? := by intro i; rw [hW]; go_simp
      have g0 : Grew w W := by rw [hW]; exact ((Grew.refl _).alloc _).alloc _
      clear hW
      have hAW := hA.grew g0
      have hBW := hB.grew g0
      go_wp2_with (first | (go_at_call 194; ((with_reducible refine (sx _ ?_).mono ?_); (focus (first | (with_reducible assumption) | (with_reducible refine FS.ext ?_ _ _; with_reducible assumption) | (with_reducible refine IS.ext ?_ _ _; with_reducible assumption) | (refine hDu _ ?_; with_reducible assumption) | (refine hOu _ ?_; with_reducible assumption) | (refine hDa _ ?_; with_reducible assumption) | (refine hDb _ ?_; with_reducible assumption) | (refine hDc _ ?_; with_reducible assumption) | (refine hDd _ ?_; with_reducible assumption) | (refine FW.fs ?_ (by omega) _; with_reducible assumption) | (refine WS.fs ?_; with_reducible assumption) | (refine FW.fs ?_ (by omega) _; assumption) | omega | assumption)); rintro e w1 ⟨rfl, o1, n1, rfl⟩)) | (go_at_call 194; ((with_reducible refine (sy _ ?_).mono ?_); (focus (first | (with_reducible assumption) | (with_reducible refine FS.ext ?_ _ _; with_reducible assumption) | (with_reducible refine IS.ext ?_ _ _; with_reducible assumption) | (refine hDu _ ?_; with_reducible assumption) | (refine hOu _ ?_; with_reducible assumption) | (refine hDa _ ?_; with_reducible assumption) | (refine hDb _ ?_; with_reducible assumption) | (refine hDc _ ?_; with_reducible assumption) | (refine hDd _ ?_; with_reducible assumption) | (refine FW.fs ?_ (by omega) _; with_reducible assumption) | (refine WS.fs ?_; with_reducible assumption) | (refine FW.fs ?_ (by omega) _; assumption) | omega | assumption)); rintro e w1 ⟨rfl, o2, n2, rfl⟩)))
      skip
      refine wp_region_R (Grew W) [] [(0,0), (0,1), (0,2), (0,3), (0,4), (0,5), (0,6), (0,7), (0,8), (0,9), (0,10), (0,11), (0,12), (0,13), (0,14), (0,15), (0,16), (0,17), (0,18), (0,19), (0,20), (0,21), (0,22), (0,23)] (by kernel_rfl) (by kernel_rfl) (fun _ _ _ _ h _ => h) (by first | exact ⟨_, _, ext_drew⟩ | exact ⟨_, _, drew_ext0⟩ | (show Grew _ _; repeat (first | (with_reducible exact Grew.refl _) | (with_reducible assumption) | (with_reducible exact Grew.same_o) | (with_reducible exact Grew.app_o) | (with_reducible refine Grew.ext ?_ _ _) | (with_reducible refine Grew.alloc ?_ _) | ((with_reducible refine Grew.setCell ?_ ?_ _); rotate_left; (focus (dsimp only; first | omega | (simp only [size_ext, World.size_alloc, Array.size_append]; omega)))) | (with_reducible refine Grew.drewN ?_ _) | (with_reducible refine Grew.drew ?_)))) ?_
      go_wp2_with (first | ((with_reducible refine wpR_id ?_); first | (refine wpR_take (v := ?_) rfl rfl ?_ ?_; rotate_left; (focus (rintro w' ⟨o', n', rfl⟩; go_simp; try with_reducible rfl)); simp only [Act.put, List.setIfInBounds_toArray, List.set_cons_zero, List.set_cons_succ]) | (refine wpR_pure (v := ?_) rfl rfl ?_ ?_; rotate_left; (focus (intro w'; go_simp; try with_reducible rfl)); simp only [Act.put, List.setIfInBounds_toArray, List.set_cons_zero, List.set_cons_succ]) | (refine wpR_takeG (v := ?_) rfl rfl rfl rfl rfl ?_ ?_; rotate_left; (focus (rintro w' ⟨o', n', rfl⟩; go_simp; try with_reducible rfl)); simp only [Act.put, List.setIfInBounds_toArray, List.set_cons_zero, List.set_cons_succ]) | (refine wpR_skip rfl rfl rfl rfl rfl rfl ?_; simp only [Act.put, List.setIfInBounds_toArray, List.set_cons_zero, List.set_cons_succ]) | (refine wpR_skipU rfl rfl rfl rfl rfl ?_; simp only [Act.put, List.setIfInBounds_toArray, List.set_cons_zero, List.set_cons_succ]) | (refine wpR_do rfl rfl (fun K hK => ?_)) | (refine wpR_doG rfl rfl rfl rfl rfl (fun K hK => ?_)) | (refine wpR_last rfl rfl (fun K hK => ?_)) | (refine wpR_nil ?_)) | ((with_reducible refine wpR_go ?_ ?_); (focus exact ⟨_, _, rfl⟩)) | ((with_reducible refine upon_id ?_); refine upon_fop rfl (by assumption) (by assumption) ?_; intro rr nn hr))
      go_ret
      exact ⟨by first | rfl | simp, by (show Grew _ _; repeat (first | (with_reducible exact Grew.refl _) | (with_reducible assumption) | (with_reducible exact Grew.same_o) | (with_reducible exact Grew.app_o) | (with_reducible refine Grew.ext ?_ _ _) | (with_reducible refine Grew.alloc ?_ _) | ((with_reducible refine Grew.setCell ?_ ?_ _); rotate_left; (focus (dsimp only; first | omega | (simp only [size_ext, World.size_alloc, Array.size_append]; omega)))) | (with_reducible refine Grew.drewN ?_ _) | (with_reducible refine Grew.drew ?_)))⟩
    · have lx := px fx
      have ly := py fy
      have q := hid (show meetM x y false = false by rw [hM]; simp)
      clear hM px py
      go_enter Try.func136, Try.ntmps136
      refine seq_stop ?_
      go_wp2
      refine stop_go (fun W hW => ?_)
      have s1 : w.heap.size < W.heap.size := by rw [hW]; simp only [World.size_alloc]; omega
      have b1 : ∀ i, W.cell? ⟨w.heap.size, i, none⟩ = (#[.slice (some ⟨a, 0, none⟩) x.ws.length ca, .int .i64 x.off, .int .i64 x.rows, .int .i64 x.cols, .int .i64 x.ld] : Array Value)[i]? := by intro i; rw [hW]; go_simp
      have s2 : w.heap.size + 1 < W.heap.size := by rw [hW]; simp only [World.size_alloc]; omega
      have b2 : ∀ i, W.cell? ⟨w.heap.size + 1, i, none⟩ = (#[.slice (some ⟨b, ob, none⟩) y.ws.length cb, .int .i64 y.off, .int .i64 y.rows, .int .i64 y.cols, .int .i64 y.ld] : Array Value)[i]? := by intro i; rw [hW]; go_simp
      have g0 : Grew w W := by rw [hW]; exact ((Grew.refl _).alloc _).alloc _
      clear hW
      have hAW := hA.grew g0
      have hBW := hB.grew g0
      go_wp2_with (first | (go_at_call 194; ((with_reducible refine (sx _ ?_).mono ?_); (focus (first | (with_reducible assumption) | (with_reducible refine FS.ext ?_ _ _; with_reducible assumption) | (with_reducible refine IS.ext ?_ _ _; with_reducible assumption) | (refine hDu _ ?_; with_reducible assumption) | (refine hOu _ ?_; with_reducible assumption) | (refine hDa _ ?_; with_reducible assumption) | (refine hDb _ ?_; with_reducible assumption) | (refine hDc _ ?_; with_reducible assumption) | (refine hDd _ ?_; with_reducible assumption) | (refine FW.fs ?_ (by omega) _; with_reducible assumption) | (refine WS.fs ?_; with_reducible assumption) | (refine FW.fs ?_ (by omega) _; assumption) | omega | assumption)); rintro e w1 ⟨rfl, o1, n1, rfl⟩)) | (go_at_call 194; ((with_reducible refine (sy _ ?_).mono ?_); (focus (first | (with_reducible assumption) | (with_reducible refine FS.ext ?_ _ _; with_reducible assumption) | (with_reducible refine IS.ext ?_ _ _; with_reducible assumption) | (refine hDu _ ?_; with_reducible assumption) | (refine hOu _ ?_; with_reducible assumption) | (refine hDa _ ?_; with_reducible assumption) | (refine hDb _ ?_; with_reducible assumption) | (refine hDc _ ?_; with_reducible assumption) | (refine hDd _ ?_; with_reducible assumption) | (refine FW.fs ?_ (by omega) _; with_reducible assumption) | (refine WS.fs ?_; with_reducible assumption) | (refine FW.fs ?_ (by omega) _; assumption) | omega | assumption)); rintro e w1 ⟨rfl, o2, n2, rfl⟩)))
      have hnn : ∀ o n, (binOp .eql 142 (.pointer (some ⟨a, 0, none⟩)) (.pointer (some ⟨b, ob, none⟩))).run Try.prog (ext W o n) = .ok (.bool false) (ext W o n) := fun o n => hne _ (g0.ext o n) hab
      refine wp_region_R (Grew W) [] [(0,0), (0,1), (0,2), (0,3), (0,4), (0,5), (0,6), (0,7), (0,8), (0,9), (0,10), (0,11), (0,12), (0,13), (0,14), (0,15), (0,16), (0,17), (0,18), (0,19), (0,20), (0,21), (0,22), (0,23)] (by kernel_rfl) (by kernel_rfl) (fun _ _ _ _ h _ => h) (by first | exact ⟨_, _, ext_drew⟩ | exact ⟨_, _, drew_ext0⟩ | (show Grew _ _; repeat (first | (with_reducible exact Grew.refl _) | (with_reducible assumption) | (with_reducible exact Grew.same_o) | (with_reducible exact Grew.app_o) | (with_reducible refine Grew.ext ?_ _ _) | (with_reducible refine Grew.alloc ?_ _) | ((with_reducible refine Grew.setCell ?_ ?_ _); rotate_left; (focus (dsimp only; first | omega | (simp only [size_ext, World.size_alloc, Array.size_append]; omega)))) | (with_reducible refine Grew.drewN ?_ _) | (with_reducible refine Grew.drew ?_)))) ?_
      go_wp2_with (first | ((with_reducible refine wpR_id ?_); first | (refine wpR_take (v := ?_) rfl rfl ?_ ?_; rotate_left; (focus (rintro w' ⟨o', n', rfl⟩; go_simp; try with_reducible rfl)); simp only [Act.put, List.setIfInBounds_toArray, List.set_cons_zero, List.set_cons_succ]) | (refine wpR_pure (v := ?_) rfl rfl ?_ ?_; rotate_left; (focus (intro w'; go_simp; try with_reducible rfl)); simp only [Act.put, List.setIfInBounds_toArray, List.set_cons_zero, List.set_cons_succ]) | (refine wpR_takeG (v := ?_) rfl rfl rfl rfl rfl ?_ ?_; rotate_left; (focus (rintro w' ⟨o', n', rfl⟩; go_simp; try with_reducible rfl)); simp only [Act.put, List.setIfInBounds_toArray, List.set_cons_zero, List.set_cons_succ]) | (refine wpR_skip rfl rfl rfl rfl rfl rfl ?_; simp only [Act.put, List.setIfInBounds_toArray, List.set_cons_zero, List.set_cons_succ]) | (refine wpR_skipU rfl rfl rfl rfl rfl ?_; simp only [Act.put, List.setIfInBounds_toArray, List.set_cons_zero, List.set_cons_succ]) | (refine wpR_do rfl rfl (fun K hK => ?_)) | (refine wpR_doG rfl rfl rfl rfl rfl (fun K hK => ?_)) | (refine wpR_last rfl rfl (fun K hK => ?_)) | (refine wpR_nil ?_)) | ((with_reducible refine wpR_go ?_ ?_); (focus exact ⟨_, _, rfl⟩)) | ((with_reducible refine upon_id ?_); refine upon_fop rfl (by assumption) (by assumption) ?_; intro rr nn hr))
      go_ret
      exact ⟨by first | rfl | simp, by (show Grew _ _; repeat (first | (with_reducible exact Grew.refl _) | (with_reducible assumption) | (with_reducible exact Grew.same_o) | (with_reducible exact Grew.app_o) | (with_reducible refine Grew.ext ?_ _ _) | (with_reducible refine Grew.alloc ?_ _) | ((with_reducible refine Grew.setCell ?_ ?_ _); rotate_left; (focus (dsimp only; first | omega | (simp only [size_ext, World.size_alloc, Array.size_append]; omega)))) | (with_reducible refine Grew.drewN ?_ _) | (with_reducible refine Grew.drew ?_)))⟩
set_option maxRecDepth 100000 in
set_option maxHeartbeats 4000000 in
theorem gatO_any (x : VecM) (g og cap i : Nat) (w : World) (hx : x.right = true) (hi : (i : Int) < x.n) (hl : x.ws.length ≤ 1000000) :
   Calls Try.prog 160 #[.agg #[.slice (some ⟨g, og, none⟩) x.ws.length cap, .int .i64 x.off, .int .i64 x.n, .int .i64 x.inc], .int .i64 i] w
     (fun e w' => e = .returned (.pointer (some ⟨g, og + x.place i, none⟩)) ∧ ∃ o n, w' = ext w o n) := by
  have hp := VecM.right_place hx hi
  have hn := VecM.right_n hx
  have r1 : IntKind.i64.wrap (i * x.inc) = i * x.inc := IntWalk.i64_in _ (by omega)
  have r2 : IntKind.i64.wrap (x.off + i * x.inc) = x.off + i * x.inc := IntWalk.i64_in _ (by omega)
  unfold VecM.place
  clear hx
  go_enter Try.func160, Try.ntmps160
  refine seq_stop ?_
  go_wp2
  refine stop_go (fun W hW => ?_)
  have s1 : w.heap.size < W.heap.size := by rw [hW]; simp only [World.size_alloc]; omega
  have b1 : ∀ i, W.cell? ⟨w.heap.size, i, none⟩ = (#[.slice (some ⟨g, og, none⟩) x.ws.length cap, .int .i64 x.off, .int .i64 x.n, .int .i64 x.inc] : Array Value)[i]? := by intro i; rw [hW]; go_simp
  have g0 : Grew w W := by rw [hW]; exact (Grew.refl _).alloc _
  clear hW
  go_wp2
  go_ret
  exact ⟨rfl, by (show Grew _ _; repeat (first | (with_reducible exact Grew.refl _) | (with_reducible assumption) | (with_reducible exact Grew.same_o) | (with_reducible exact Grew.app_o) | (with_reducible refine Grew.ext ?_ _ _) | (with_reducible refine Grew.alloc ?_ _) | ((with_reducible refine Grew.setCell ?_ ?_ _); rotate_left; (focus (dsimp only; first | omega | (simp only [size_ext, World.size_alloc, Array.size_append]; omega)))) | (with_reducible refine Grew.drewN ?_ _) | (with_reducible refine Grew.drew ?_)))⟩
set_option maxRecDepth 100000 in
set_option maxHeartbeats 4000000 in
theorem columnsO_any (m : MatM) (x y : VecM) (bm cm bx ox cx g cg a α Ta : Nat) (s0 : Nat → Nat) (L0 : List Nat) (w : World) (ha : IsF a α) (hca : ∀ i, w.cell? ⟨Ta, i, none⟩ = (#[.float .f64 a] : Array Value)[i]?) (kTa : Ta < w.heap.size) (nTa : Ta ≠ g)
    (hF : FW w g L0) (hV : VH y L0 s0) (hm : m.good = true) (hx : x.right = true) (hy : y.right = true) (hwm : m.wf) (hxn : x.n = m.cols) (hyn : y.n = m.rows) (hy0 : 0 < y.n) (hlm : m.ws.length ≤ 1000000) (hlx : x.ws.length ≤ 1000000) (hly : y.ws.length ≤ 1000000)
    (hcolA : ∀ w' L s, But w [g] w' → FW w' g L → VH y L s → ∀ j : Nat, (j : Int) < m.cols → Calls Try.prog 149 #[.agg #[.slice (some ⟨bm, 0, none⟩) m.ws.length cm, .int .i64 m.off, .int .i64 m.rows, .int .i64 m.cols, .int .i64 m.ld], .int .i64 j] w'
      (fun e w2 => e = .returned (.agg #[.slice (some ⟨bm, 0, none⟩) m.ws.length cm, .int .i64 (m.off + j * m.ld), .int .i64 m.rows, .int .i64 1]) ∧ ∃ o n, w2 = ext w' o n))
    (rdm : ∀ i j : Nat, (i : Int) < m.rows → (j : Int) < m.cols → Reads w y g bm (m.place i j) (m.num i j)) (rdx : ∀ j : Nat, (j : Int) < x.n → Reads w y g bx (ox + x.place j) (x.num j)) (kbm : bm < w.heap.size) (kbx : bx < w.heap.size) :
   Calls Try.prog 146 #[.agg #[.slice (some ⟨bm, 0, none⟩) m.ws.length cm, .int .i64 m.off, .int .i64 m.rows, .int .i64 m.cols, .int .i64 m.ld], .agg #[.slice (some ⟨bx, ox, none⟩) x.ws.length cx, .int .i64 x.off, .int .i64 x.n, .int .i64 x.inc], .agg #[.slice (some ⟨g, 0, none⟩) y.ws.length cg, .int .i64 y.off, .int .i64 y.n, .int .i64 y.inc], .func (.func 147) #[] #[.pointer (some ⟨Ta, 0, none⟩)]] w
     (fun e w' => e = .returned (.tuple #[]) ∧ But w [g] w' ∧ ∃ L, FW w' g L ∧ VH y L (fun r => mulTo α m.num x.num (s0 r) r x.n.toNat)) := by
  have hn := MatM.good_n hm
  have hnx := VecM.right_n hx
  have hny := VecM.right_n hy
  have hltg := hF.lt
  have Hm := hid hm
  have Hx := hid hx
  have Hy := hid hy
  have Hxn := hid hxn
  have Hyn := hid hyn
  have hnlx := VecM.right_nle hx hlx
  have hnly := VecM.right_nle hy hly
  have haty : ∀ i : Nat, (i : Int) < y.n → ∀ w', Calls Try.prog 160 #[.agg #[.slice (some ⟨g, 0, none⟩) y.ws.length cg, .int .i64 y.off, .int .i64 y.n, .int .i64 y.inc], .int .i64 i] w' (fun e w2 => e = .returned (.pointer (some ⟨g, y.place i, none⟩)) ∧ ∃ o n, w2 = ext w' o n) := fun i hi w' => gat_any y g cg i w' hy hi hly
  have hatx : ∀ i : Nat, (i : Int) < x.n → ∀ w', Calls Try.prog 160 #[.agg #[.slice (some ⟨bx, ox, none⟩) x.ws.length cx, .int .i64 x.off, .int .i64 x.n, .int .i64 x.inc], .int .i64 i] w' (fun e w2 => e = .returned (.pointer (some ⟨bx, ox + x.place i, none⟩)) ∧ ∃ o n, w2 = ext w' o n) := fun i hi w' => gatO_any x bx ox cx i w' hx hi hlx
  have hatm : ∀ i j : Nat, (i : Int) < m.rows → (j : Int) < m.cols → ∀ w', Calls Try.prog 160 #[.agg #[.slice (some ⟨bm, 0, none⟩) m.ws.length cm, .int .i64 (m.off + j * m.ld), .int .i64 m.rows, .int .i64 1], .int .i64 i] w' (fun e w2 => e = .returned (.pointer (some ⟨bm, m.place i j, none⟩)) ∧ ∃ o n, w2 = ext w' o n) := fun i j hi hj w' => by
    have hr := colV_right hm hj (by omega)
    have h := gat_any (colV m j) bm cm i w' hr hi hlm
    have e1 : (colV m j).place i = m.place i j := by unfold colV VecM.place MatM.place; simp only [show (0 : Int) < m.rows by omega, if_true]; congr 1; omega
    have e2 : (colV m j).off = m.off + j * m.ld := by unfold colV; simp only [show (0 : Int) < m.rows by omega, if_true]
    rw [e1, e2] at h
    exact h
  clear hm hx hy hwm hxn hyn
  have hmc : ∀ v V x X w', IsF v V → IsF x X → (∀ i, w'.cell? ⟨Ta, i, none⟩ = (#[.float .f64 a] : Array Value)[i]?) → Calls Try.prog 147 #[.float .f64 v, .float .f64 x, .pointer (some ⟨Ta, 0, none⟩)] w' (fun e w2 => ∃ r, e = .returned (.float .f64 r) ∧ IsF r (fmul (fmul α X) V) ∧ ∃ o n, w2 = ext w' o n) := fun v V x X w' h1 h2 h3 => mcl_any v x a V X α Ta w' h1 h2 ha h3
  go_enter Try.func146, Try.ntmps146
  refine seq_stop ?_
  go_wp2
  refine stop_go (fun W hW => ?_)
  have s1 : w.heap.size < W.heap.size := by rw [hW]; simp only [World.size_alloc]; omega
  have b1 : ∀ i, W.cell? ⟨w.heap.size, i, none⟩ = (#[.slice (some ⟨bm, 0, none⟩) m.ws.length cm, .int .i64 m.off, .int .i64 m.rows, .int .i64 m.cols, .int .i64 m.ld] : Array Value)[i]? := by intro i; rw [hW]; go_simp
  have s2 : w.heap.size + 1 < W.heap.size := by rw [hW]; simp only [World.size_alloc]; omega
  have b2 : ∀ i, W.cell? ⟨w.heap.size + 1, i, none⟩ = (#[.slice (some ⟨bx, ox, none⟩) x.ws.length cx, .int .i64 x.off, .int .i64 x.n, .int .i64 x.inc] : Array Value)[i]? := by intro i; rw [hW]; go_simp
  have s3 : w.heap.size + 1 + 1 < W.heap.size := by rw [hW]; simp only [World.size_alloc]; omega
  have b3 : ∀ i, W.cell? ⟨w.heap.size + 1 + 1, i, none⟩ = (#[.slice (some ⟨g, 0, none⟩) y.ws.length cg, .int .i64 y.off, .int .i64 y.n, .int .i64 y.inc] : Array Value)[i]? := by intro i; rw [hW]; go_simp
  have g0 : Grew w W := by rw [hW]; exact (((Grew.refl _).alloc _).alloc _).alloc _
  clear hW
  have zW := g0.below.size
  have bw : ∀ w', But W [g] w' → But w [g] w' := fun w' h => ((But.refl w [g]).grew g0).trans h (fun _ hb => .inl hb)
  have c1 : ∀ w', But W [g] w' → ∀ i, w'.cell? ⟨w.heap.size, i, none⟩ = (#[.slice (some ⟨bm, 0, none⟩) m.ws.length cm, .int .i64 m.off, .int .i64 m.rows, .int .i64 m.cols, .int .i64 m.ld] : Array Value)[i]? := fun w' h i => (h.cell s1 (by simp; omega)).trans (b1 i)
  have c2 : ∀ w', But W [g] w' → ∀ i, w'.cell? ⟨w.heap.size + 1, i, none⟩ = (#[.slice (some ⟨bx, ox, none⟩) x.ws.length cx, .int .i64 x.off, .int .i64 x.n, .int .i64 x.inc] : Array Value)[i]? := fun w' h i => (h.cell s2 (by simp; omega)).trans (b2 i)
  have c3 : ∀ w', But W [g] w' → ∀ i, w'.cell? ⟨w.heap.size + 1 + 1, i, none⟩ = (#[.slice (some ⟨g, 0, none⟩) y.ws.length cg, .int .i64 y.off, .int .i64 y.n, .int .i64 y.inc] : Array Value)[i]? := fun w' h i => (h.cell s3 (by simp; omega)).trans (b3 i)
  have cA : ∀ w', But w [g] w' → ∀ i, w'.cell? ⟨Ta, i, none⟩ = (#[.float .f64 a] : Array Value)[i]? := fun w' h i => (h.cell kTa (by simpa using nTa)).trans (hca i)
  have hFW := hF.grew g0
  clear b1 b2 b3
  have t2 := c2 _ (But.refl W [g])
  go_wp2
  clear t2
  go_loopw [13] (fun c wr => ∃ (j : Nat) (L : List Nat), (j : Int) ≤ x.n ∧ c = .int .i64 j ∧ But W [g] wr ∧ FW wr g L ∧ VH y L (fun r => mulTo α m.num x.num (s0 r) r j)) (fun c _ => (x.n - intOf c).toNat)
  case atStart => exact ⟨0, L0, hnx.1, rfl, But.refl _ _, hFW, hV⟩
  case round =>
    obtain ⟨j, L, hj, rfl, hB, hL, hS⟩ := hrel
    have t1 := c1 _ hB
    have zB := hB.size
    have k1 : w.heap.size < wr.heap.size := by omega
    have t3 := c3 _ hB
    have k3 : w.heap.size + 1 + 1 < wr.heap.size := by omega
    by_cases hlt : (j : Int) < x.n
    · have hlt' := hid hlt
      have hjm : (j : Int) < m.cols := by have := Hxn.out; omega
      have hcj := hcolA wr L _ (bw _ hB) hL hS j hjm
      go_wp2_with (first | (go_at_call 149; ((with_reducible refine (hcj).mono ?_); rintro e w1 ⟨rfl, oc, nc, rfl⟩)))
      refine name_any (fun V hV => ?_)
      have gV : Grew wr V := by rw [← hV]; (show Grew _ _; repeat (first | (with_reducible exact Grew.refl _) | (with_reducible assumption) | (with_reducible exact Grew.same_o) | (with_reducible exact Grew.app_o) | (with_reducible refine Grew.ext ?_ _ _) | (with_reducible refine Grew.alloc ?_ _) | ((with_reducible refine Grew.setCell ?_ ?_ _); rotate_left; (focus (dsimp only; first | omega | (simp only [size_ext, World.size_alloc, Array.size_append]; omega)))) | (with_reducible refine Grew.drewN ?_ _) | (with_reducible refine Grew.drew ?_)))
      have BV : But W [g] V := hB.grew gV
      have cT : ∀ i, V.cell? ⟨wr.heap.size + oc.size, i, none⟩ = (#[.slice (some ⟨bm, 0, none⟩) m.ws.length cm, .int .i64 (m.off + j * m.ld), .int .i64 m.rows, .int .i64 1] : Array Value)[i]? := by subst hV; intro i; go_simp
      have kV : wr.heap.size + oc.size < V.heap.size := by rw [← hV]; simp only [World.size_alloc, size_ext]; omega
      obtain ⟨T, hT⟩ : ∃ T, wr.heap.size + oc.size = T := ⟨_, rfl⟩
      have zT : wr.heap.size ≤ T := by omega
      rw [hT] at cT kV
      simp only [hT]
      have ltg2 := hL.lt
      have cV : ∀ w', But V [g] w' → ∀ i, w'.cell? ⟨T, i, none⟩ = (#[.slice (some ⟨bm, 0, none⟩) m.ws.length cm, .int .i64 (m.off + j * m.ld), .int .i64 m.rows, .int .i64 1] : Array Value)[i]? := fun w' h i => (h.cell kV (by simp; omega)).trans (cT i)
      have bV : ∀ w', But V [g] w' → But W [g] w' := fun w' h => BV.trans h (fun _ hb => .inl hb)
      have hLV : FW V g L := hL.grew gV
      clear hV hT cT t3
      go_loopw [21] (fun c wr => ∃ (i : Nat) (L : List Nat), (i : Int) ≤ y.n ∧ c = .int .i64 i ∧ But V [g] wr ∧ FW wr g L ∧ VH y L (fun r => if r < i then mulTo α m.num x.num (s0 r) r (j + 1) else mulTo α m.num x.num (s0 r) r j)) (fun c _ => (y.n - intOf c).toNat)
      case atStart => exact ⟨0, L, hny.1, rfl, But.refl _ _, hLV, hS.congr fun r _ => by simp⟩
      case round =>
        obtain ⟨i, L2, hi, rfl, hB2, hL2, hS2⟩ := hrel
        by_cases hli : (i : Int) < y.n
        · have hli' := hid hli
          have him : (i : Int) < m.rows := by have := Hyn.out; omega
          have tT := cV _ hB2
          have t2 := c2 _ (bV _ hB2)
          have t3 := c3 _ (bV _ hB2)
          have zB2 := hB2.size
          have zBV := BV.size
          have x1 : T < wr.heap.size := by omega
          have x2 : w.heap.size + 1 < wr.heap.size := by omega
          have x3 : w.heap.size + 1 + 1 < wr.heap.size := by omega
          have hgi := hS2.get i hli
          obtain ⟨r0, hr0, hf0⟩ := hL2.get (i := y.place i) (by rw [hS2.len]; exact VecM.place_lt Hy.out hli)
          rw [hgi, if_neg (by omega)] at hf0
          obtain ⟨rm, hrm, hfm⟩ := rdm i j him hjm wr L2 _ (bw _ (bV _ hB2)) hL2 hS2
          obtain ⟨rx, hrx, hfx⟩ := rdx j hlt'.out wr L2 _ (bw _ (bV _ hB2)) hL2 hS2
          have gl := hL2.lt
          have kbm2 : bm < wr.heap.size := by omega
          have kbx2 : bx < wr.heap.size := by omega
          have kTa2 : Ta < wr.heap.size := by omega
          have fz : ∀ i, wr.frozen? ⟨g, i, none⟩ = false := hL2.notFrozen
          have hca2 : ∀ w', Grew wr w' → ∀ i, w'.cell? ⟨Ta, i, none⟩ = (#[.float .f64 a] : Array Value)[i]? := fun w' hg => cA _ (bw _ (bV _ (hB2.grew hg)))
          have hay := haty i hli
          have hax := hatx j hlt'.out
          have ham := hatm i j him hjm
          go_wp2
          refine wp_region_R (Grew wr) [19] [(0,0), (3,1), (3,5), (0,6), (3,7), (0,11), (3,12), (1,2), (3,3), (0,4), (1,8), (3,9), (0,10), (1,13), (3,14), (0,15), (1,16), (1,17), (3,18), (2,19)] (by kernel_rfl) (by kernel_rfl) (fun _ _ _ _ h _ => h) (by first | exact ⟨_, _, ext_drew⟩ | exact ⟨_, _, drew_ext0⟩ | (show Grew _ _; repeat (first | (with_reducible exact Grew.refl _) | (with_reducible assumption) | (with_reducible exact Grew.same_o) | (with_reducible exact Grew.app_o) | (with_reducible refine Grew.ext ?_ _ _) | (with_reducible refine Grew.alloc ?_ _) | ((with_reducible refine Grew.setCell ?_ ?_ _); rotate_left; (focus (dsimp only; first | omega | (simp only [size_ext, World.size_alloc, Array.size_append]; omega)))) | (with_reducible refine Grew.drewN ?_ _) | (with_reducible refine Grew.drew ?_)))) ?_
          go_wp2_with (first | ((with_reducible refine wpR_id ?_); first | (refine wpR_take (v := ?_) rfl rfl ?_ ?_; rotate_left; (focus (rintro w' ⟨o', n', rfl⟩; go_simp; try with_reducible rfl)); simp only [Act.put, List.setIfInBounds_toArray, List.set_cons_zero, List.set_cons_succ]) | (refine wpR_pure (v := ?_) rfl rfl ?_ ?_; rotate_left; (focus (intro w'; go_simp; try with_reducible rfl)); simp only [Act.put, List.setIfInBounds_toArray, List.set_cons_zero, List.set_cons_succ]) | (refine wpR_takeG (v := ?_) rfl rfl rfl rfl rfl ?_ ?_; rotate_left; (focus (rintro w' ⟨o', n', rfl⟩; go_simp; try with_reducible rfl)); simp only [Act.put, List.setIfInBounds_toArray, List.set_cons_zero, List.set_cons_succ]) | (refine wpR_skip rfl rfl rfl rfl rfl rfl ?_; simp only [Act.put, List.setIfInBounds_toArray, List.set_cons_zero, List.set_cons_succ]) | (refine wpR_skipU rfl rfl rfl rfl rfl ?_; simp only [Act.put, List.setIfInBounds_toArray, List.set_cons_zero, List.set_cons_succ]) | (refine wpR_do rfl rfl (fun K hK => ?_)) | (refine wpR_doG rfl rfl rfl rfl rfl (fun K hK => ?_)) | (refine wpR_last rfl rfl (fun K hK => ?_)) | (refine wpR_nil ?_)) | ((with_reducible refine wpR_go ?_ ?_); (focus exact ⟨_, _, rfl⟩)) | ((with_reducible refine upon_id ?_); refine upon_fop rfl (by assumption) (by assumption) ?_; intro rr nn hr) | (go_at_call 160; ((with_reducible refine (hay _).mono ?_); rintro e w1 ⟨rfl, o1, n1, rfl⟩)) | (go_at_call 160; ((with_reducible refine (ham _).mono ?_); rintro e w1 ⟨rfl, o2, n2, rfl⟩)) | (go_at_call 160; ((with_reducible refine (hax _).mono ?_); rintro e w1 ⟨rfl, o3, n3, rfl⟩)) | (go_at_call 147; ((with_reducible refine (hmc rm _ rx _ _ hfm hfx (hca2 _ (by (show Grew _ _; repeat (first | (with_reducible exact Grew.refl _) | (with_reducible assumption) | (with_reducible exact Grew.same_o) | (with_reducible exact Grew.app_o) | (with_reducible refine Grew.ext ?_ _ _) | (with_reducible refine Grew.alloc ?_ _) | ((with_reducible refine Grew.setCell ?_ ?_ _); rotate_left; (focus (dsimp only; first | omega | (simp only [size_ext, World.size_alloc, Array.size_append]; omega)))) | (with_reducible refine Grew.drewN ?_ _) | (with_reducible refine Grew.drew ?_)))))).mono ?_); rintro e w1 ⟨rc, rfl, hrc, o4, n4, rfl⟩)))
          go_roundw
          case rel =>
            refine ⟨i + 1, _, by have := hli'.out; omega, by go_num, (hB2.setc hL2 (by simp)).grew ⟨_, _, rfl⟩, (hL2.setc (k := y.place i) hr).ext _ _, (hS2.set Hy.out hli'.out).congr fun r hr => ?_⟩
            by_cases e : r = i
            · subst e; simp [mulTo]; rfl
            · rw [if_neg e]
              by_cases h2 : r < i
              · rw [if_pos h2, if_pos (by omega)]
              · rw [if_neg h2, if_neg (by omega)]
          case measure => (have := hli'.out; simp [intOf]; omega)
        · go_wp2
          go_roundw
          case rel => exact ⟨j + 1, L2, by have := hlt'.out; omega, by go_num, bV _ hB2, hL2, hS2.congr fun r hr => by rw [if_pos (by omega)]⟩
          case measure => (have := hlt'.out; simp [intOf]; omega)
    · have e : j = x.n.toNat := by omega
      go_wp2
      go_end0
      exact ⟨rfl, bw _ hB, L, hL, hS.congr fun r hr => by rw [e]⟩
/-- What is asked of a product: all is well. -/
structure MulOkO (m : MatM) (x y : VecM) (bm cm bx ox cx g cg : Nat) (rows cols : Int) (w : World) : Prop where
  M : FS w (.slice (some ⟨bm, 0, none⟩) m.ws.length cm) m.ws
  X : FS w (.slice (some ⟨bx, ox, none⟩) x.ws.length cx) x.ws
  Y : FS w (.slice (some ⟨g, 0, none⟩) y.ws.length cg) y.ws
  pM : Plain w bm
  pX : Held w bx
  pY : Plain w g
  good : m.good = true
  rx : x.right = true
  ry : y.right = true
  xn : x.n = cols
  yn : y.n = rows
  m1 : meetM (rowM y) m (decide (g = bm)) = false
  m2 : g ≠ bx
  wm : m.wf
  wx : x.wf
  wy : y.wf
  lm : m.ws.length ≤ 1000000
  lx : x.ws.length ≤ 1000000
  ly : y.ws.length ≤ 1000000
set_option maxRecDepth 100000 in
set_option maxHeartbeats 4000000 in
/-- gemv.check, where all is well. -/
theorem vcheckO_ok (m : MatM) (x y : VecM) (bm cm bx ox cx g cg : Nat) (rows cols : Int) (w : World) (H : MulOkO m x y bm cm bx ox cx g cg rows cols w) :
   Calls Try.prog 144 #[.agg #[(.slice (some ⟨bm, 0, none⟩) m.ws.length cm), .int .i64 m.off, .int .i64 m.rows, .int .i64 m.cols, .int .i64 m.ld], .int .i64 rows, .int .i64 cols, .agg #[(.slice (some ⟨bx, ox, none⟩) x.ws.length cx), .int .i64 x.off, .int .i64 x.n, .int .i64 x.inc], .agg #[(.slice (some ⟨g, 0, none⟩) y.ws.length cg), .int .i64 y.off, .int .i64 y.n, .int .i64 y.inc]] w (fun e w' => e = .returned (.int .i64 0) ∧ ∃ o n, w' = ext w o n) := by
  have cG : ∀ w', FS w' (.slice (some ⟨bm, 0, none⟩) m.ws.length cm) m.ws → Calls Try.prog 130 #[.agg #[(.slice (some ⟨bm, 0, none⟩) m.ws.length cm), .int .i64 m.off, .int .i64 m.rows, .int .i64 m.cols, .int .i64 m.ld]] w' (fun e w2 => e = .returned (.bool true) ∧ ∃ o n, w2 = ext w' o n) := fun w' h => by
    have := good_any m _ w' h H.wm; rw [H.good] at this; exact this
  have cX : ∀ w', FS w' (.slice (some ⟨bx, ox, none⟩) x.ws.length cx) x.ws → Calls Try.prog 135 #[.agg #[(.slice (some ⟨bx, ox, none⟩) x.ws.length cx), .int .i64 x.off, .int .i64 x.n, .int .i64 x.inc]] w' (fun e w2 => e = .returned (.bool true) ∧ ∃ o n, w2 = ext w' o n) := fun w' h => by
    have := right_any x _ w' h H.wx; rw [H.rx] at this; exact this
  have cY : ∀ w', FS w' (.slice (some ⟨g, 0, none⟩) y.ws.length cg) y.ws → Calls Try.prog 135 #[.agg #[(.slice (some ⟨g, 0, none⟩) y.ws.length cg), .int .i64 y.off, .int .i64 y.n, .int .i64 y.inc]] w' (fun e w2 => e = .returned (.bool true) ∧ ∃ o n, w2 = ext w' o n) := fun w' h => by
    have := right_any y _ w' h H.wy; rw [H.ry] at this; exact this
  have cM1 : ∀ w', FS w' (.slice (some ⟨g, 0, none⟩) y.ws.length cg) y.ws → FS w' (.slice (some ⟨bm, 0, none⟩) m.ws.length cm) m.ws → Plain w' g → Plain w' bm → Calls Try.prog 136 #[.agg #[(.slice (some ⟨g, 0, none⟩) y.ws.length cg), .int .i64 y.off, .int .i64 1, .int .i64 y.n, .int .i64 y.inc], .agg #[(.slice (some ⟨bm, 0, none⟩) m.ws.length cm), .int .i64 m.off, .int .i64 m.rows, .int .i64 m.cols, .int .i64 m.ld]] w' (fun e w2 => e = .returned (.bool false) ∧ ∃ o n, w2 = ext w' o n) := fun w' h1 h2 p1 p2 => by
    have := meetM_any (rowM y) m g bm cg cm w' h1 h2 p1 p2 (rowM_wf H.wy) H.wm H.ly H.lm
    rw [H.m1] at this; exact this
  have cM2 : ∀ w', FS w' (.slice (some ⟨g, 0, none⟩) y.ws.length cg) y.ws → FS w' (.slice (some ⟨bx, ox, none⟩) x.ws.length cx) x.ws → Plain w' g → Held w' bx → Calls Try.prog 136 #[.agg #[(.slice (some ⟨g, 0, none⟩) y.ws.length cg), .int .i64 y.off, .int .i64 1, .int .i64 y.n, .int .i64 y.inc], .agg #[(.slice (some ⟨bx, ox, none⟩) x.ws.length cx), .int .i64 x.off, .int .i64 1, .int .i64 x.n, .int .i64 x.inc]] w' (fun e w2 => e = .returned (.bool false) ∧ ∃ o n, w2 = ext w' o n) := fun w' h1 h2 p1 p2 => by
    exact meetO_any (rowM y) (rowM x) g bx ox cg cx w' h1 h2 p1 p2 H.m2 (rowM_wf H.wy) (rowM_wf H.wx) H.ly H.lx
  have hM := H.M
  have hX := H.X
  have hY := H.Y
  have pM := H.pM
  have pX := H.pX
  have pY := H.pY
  have d1 : (x.n != cols) = false := by simpa using H.xn
  have d2 : (y.n != rows) = false := by simpa using H.yn
  clear H
  go_enter Try.func144, Try.ntmps144
  refine seq_stop ?_
  go_wp2
  refine stop_go (fun W hW => ?_)
  have s1 : w.heap.size < W.heap.size := by rw [hW]; simp only [World.size_alloc]; omega
  have b1 : ∀ i, W.cell? ⟨w.heap.size, i, none⟩ = (#[(.slice (some ⟨bm, 0, none⟩) m.ws.length cm), .int .i64 m.off, .int .i64 m.rows, .int .i64 m.cols, .int .i64 m.ld] : Array Value)[i]? := by intro i; rw [hW]; go_simp
  have s2 : w.heap.size + 1 < W.heap.size := by rw [hW]; simp only [World.size_alloc]; omega
  have b2 : ∀ i, W.cell? ⟨w.heap.size + 1, i, none⟩ = (#[(.slice (some ⟨bx, ox, none⟩) x.ws.length cx), .int .i64 x.off, .int .i64 x.n, .int .i64 x.inc] : Array Value)[i]? := by intro i; rw [hW]; go_simp
  have s3 : w.heap.size + 1 + 1 < W.heap.size := by rw [hW]; simp only [World.size_alloc]; omega
  have b3 : ∀ i, W.cell? ⟨w.heap.size + 1 + 1, i, none⟩ = (#[(.slice (some ⟨g, 0, none⟩) y.ws.length cg), .int .i64 y.off, .int .i64 y.n, .int .i64 y.inc] : Array Value)[i]? := by intro i; rw [hW]; go_simp
  have g0 : Grew w W := by rw [hW]; exact (((Grew.refl _).alloc _).alloc _).alloc _
  clear hW
  have hMW := hM.grew g0
  have hXW := hX.grew g0
  have hYW := hY.grew g0
  go_wp2_with (first | (go_at_call 130; ((with_reducible refine (cG _ ?_).mono ?_); (focus (first | (with_reducible assumption) | (with_reducible refine FS.ext ?_ _ _; with_reducible assumption) | (with_reducible refine IS.ext ?_ _ _; with_reducible assumption) | (refine hDu _ ?_; with_reducible assumption) | (refine hOu _ ?_; with_reducible assumption) | (refine hDa _ ?_; with_reducible assumption) | (refine hDb _ ?_; with_reducible assumption) | (refine hDc _ ?_; with_reducible assumption) | (refine hDd _ ?_; with_reducible assumption) | (refine FW.fs ?_ (by omega) _; with_reducible assumption) | (refine WS.fs ?_; with_reducible assumption) | (refine FW.fs ?_ (by omega) _; assumption) | omega | assumption)); rintro e w1 ⟨rfl, oa, na, rfl⟩)) | (go_at_call 135; ((with_reducible refine (cX _ ?_).mono ?_); (focus (first | (with_reducible assumption) | (with_reducible refine FS.ext ?_ _ _; with_reducible assumption) | (with_reducible refine IS.ext ?_ _ _; with_reducible assumption) | (refine hDu _ ?_; with_reducible assumption) | (refine hOu _ ?_; with_reducible assumption) | (refine hDa _ ?_; with_reducible assumption) | (refine hDb _ ?_; with_reducible assumption) | (refine hDc _ ?_; with_reducible assumption) | (refine hDd _ ?_; with_reducible assumption) | (refine FW.fs ?_ (by omega) _; with_reducible assumption) | (refine WS.fs ?_; with_reducible assumption) | (refine FW.fs ?_ (by omega) _; assumption) | omega | assumption)); rintro e w1 ⟨rfl, ob, nb, rfl⟩)) | (go_at_call 135; ((with_reducible refine (cY _ ?_).mono ?_); (focus (first | (with_reducible assumption) | (with_reducible refine FS.ext ?_ _ _; with_reducible assumption) | (with_reducible refine IS.ext ?_ _ _; with_reducible assumption) | (refine hDu _ ?_; with_reducible assumption) | (refine hOu _ ?_; with_reducible assumption) | (refine hDa _ ?_; with_reducible assumption) | (refine hDb _ ?_; with_reducible assumption) | (refine hDc _ ?_; with_reducible assumption) | (refine hDd _ ?_; with_reducible assumption) | (refine FW.fs ?_ (by omega) _; with_reducible assumption) | (refine WS.fs ?_; with_reducible assumption) | (refine FW.fs ?_ (by omega) _; assumption) | omega | assumption)); rintro e w1 ⟨rfl, oc, nc, rfl⟩)))
  refine wp_region_R (Grew W) [] [(0,0), (0,2), (1,1), (1,3), (0,4), (0,5), (0,7), (1,6), (1,8), (1,9), (0,10), (0,11)] (by kernel_rfl) (by kernel_rfl) (fun _ _ _ _ h _ => h) (by first | exact ⟨_, _, ext_drew⟩ | exact ⟨_, _, drew_ext0⟩ | (show Grew _ _; repeat (first | (with_reducible exact Grew.refl _) | (with_reducible assumption) | (with_reducible exact Grew.same_o) | (with_reducible exact Grew.app_o) | (with_reducible refine Grew.ext ?_ _ _) | (with_reducible refine Grew.alloc ?_ _) | ((with_reducible refine Grew.setCell ?_ ?_ _); rotate_left; (focus (dsimp only; first | omega | (simp only [size_ext, World.size_alloc, Array.size_append]; omega)))) | (with_reducible refine Grew.drewN ?_ _) | (with_reducible refine Grew.drew ?_)))) ?_
  go_wp2_with (first | ((with_reducible refine wpR_id ?_); first | (refine wpR_take (v := ?_) rfl rfl ?_ ?_; rotate_left; (focus (rintro w' ⟨o', n', rfl⟩; go_simp; try with_reducible rfl)); simp only [Act.put, List.setIfInBounds_toArray, List.set_cons_zero, List.set_cons_succ]) | (refine wpR_pure (v := ?_) rfl rfl ?_ ?_; rotate_left; (focus (intro w'; go_simp; try with_reducible rfl)); simp only [Act.put, List.setIfInBounds_toArray, List.set_cons_zero, List.set_cons_succ]) | (refine wpR_takeG (v := ?_) rfl rfl rfl rfl rfl ?_ ?_; rotate_left; (focus (rintro w' ⟨o', n', rfl⟩; go_simp; try with_reducible rfl)); simp only [Act.put, List.setIfInBounds_toArray, List.set_cons_zero, List.set_cons_succ]) | (refine wpR_skip rfl rfl rfl rfl rfl rfl ?_; simp only [Act.put, List.setIfInBounds_toArray, List.set_cons_zero, List.set_cons_succ]) | (refine wpR_skipU rfl rfl rfl rfl rfl ?_; simp only [Act.put, List.setIfInBounds_toArray, List.set_cons_zero, List.set_cons_succ]) | (refine wpR_do rfl rfl (fun K hK => ?_)) | (refine wpR_doG rfl rfl rfl rfl rfl (fun K hK => ?_)) | (refine wpR_last rfl rfl (fun K hK => ?_)) | (refine wpR_nil ?_)) | ((with_reducible refine wpR_go ?_ ?_); (focus exact ⟨_, _, rfl⟩)) | ((with_reducible refine upon_id ?_); refine upon_fop rfl (by assumption) (by assumption) ?_; intro rr nn hr) | (go_at_call 196; ((with_reducible refine (vrow_any y _ _ _ _).mono ?_); rintro e w1 ⟨rfl, od, nd, rfl⟩)) | (go_at_call 196; ((with_reducible refine (vrow_any x _ _ _ _).mono ?_); rintro e w1 ⟨rfl, od, nd, rfl⟩)) | (go_at_call 136; ((with_reducible refine (cM1 _ ?_ ?_ (pY.grew (by (show Grew _ _; repeat (first | (with_reducible exact Grew.refl _) | (with_reducible assumption) | (with_reducible exact Grew.same_o) | (with_reducible exact Grew.app_o) | (with_reducible refine Grew.ext ?_ _ _) | (with_reducible refine Grew.alloc ?_ _) | ((with_reducible refine Grew.setCell ?_ ?_ _); rotate_left; (focus (dsimp only; first | omega | (simp only [size_ext, World.size_alloc, Array.size_append]; omega)))) | (with_reducible refine Grew.drewN ?_ _) | (with_reducible refine Grew.drew ?_))))) (pM.grew (by (show Grew _ _; repeat (first | (with_reducible exact Grew.refl _) | (with_reducible assumption) | (with_reducible exact Grew.same_o) | (with_reducible exact Grew.app_o) | (with_reducible refine Grew.ext ?_ _ _) | (with_reducible refine Grew.alloc ?_ _) | ((with_reducible refine Grew.setCell ?_ ?_ _); rotate_left; (focus (dsimp only; first | omega | (simp only [size_ext, World.size_alloc, Array.size_append]; omega)))) | (with_reducible refine Grew.drewN ?_ _) | (with_reducible refine Grew.drew ?_)))))).mono ?_); (focus (first | (with_reducible assumption) | (with_reducible refine FS.ext ?_ _ _; with_reducible assumption) | (with_reducible refine IS.ext ?_ _ _; with_reducible assumption) | (refine hDu _ ?_; with_reducible assumption) | (refine hOu _ ?_; with_reducible assumption) | (refine hDa _ ?_; with_reducible assumption) | (refine hDb _ ?_; with_reducible assumption) | (refine hDc _ ?_; with_reducible assumption) | (refine hDd _ ?_; with_reducible assumption) | (refine FW.fs ?_ (by omega) _; with_reducible assumption) | (refine WS.fs ?_; with_reducible assumption) | (refine FW.fs ?_ (by omega) _; assumption) | omega | assumption)); (focus (first | (with_reducible assumption) | (with_reducible refine FS.ext ?_ _ _; with_reducible assumption) | (with_reducible refine IS.ext ?_ _ _; with_reducible assumption) | (refine hDu _ ?_; with_reducible assumption) | (refine hOu _ ?_; with_reducible assumption) | (refine hDa _ ?_; with_reducible assumption) | (refine hDb _ ?_; with_reducible assumption) | (refine hDc _ ?_; with_reducible assumption) | (refine hDd _ ?_; with_reducible assumption) | (refine FW.fs ?_ (by omega) _; with_reducible assumption) | (refine WS.fs ?_; with_reducible assumption) | (refine FW.fs ?_ (by omega) _; assumption) | omega | assumption)); rintro e w1 ⟨rfl, oe, ne, rfl⟩)) | (go_at_call 136; ((with_reducible refine (cM2 _ ?_ ?_ (pY.grew (by (show Grew _ _; repeat (first | (with_reducible exact Grew.refl _) | (with_reducible assumption) | (with_reducible exact Grew.same_o) | (with_reducible exact Grew.app_o) | (with_reducible refine Grew.ext ?_ _ _) | (with_reducible refine Grew.alloc ?_ _) | ((with_reducible refine Grew.setCell ?_ ?_ _); rotate_left; (focus (dsimp only; first | omega | (simp only [size_ext, World.size_alloc, Array.size_append]; omega)))) | (with_reducible refine Grew.drewN ?_ _) | (with_reducible refine Grew.drew ?_))))) (pX.grew (by (show Grew _ _; repeat (first | (with_reducible exact Grew.refl _) | (with_reducible assumption) | (with_reducible exact Grew.same_o) | (with_reducible exact Grew.app_o) | (with_reducible refine Grew.ext ?_ _ _) | (with_reducible refine Grew.alloc ?_ _) | ((with_reducible refine Grew.setCell ?_ ?_ _); rotate_left; (focus (dsimp only; first | omega | (simp only [size_ext, World.size_alloc, Array.size_append]; omega)))) | (with_reducible refine Grew.drewN ?_ _) | (with_reducible refine Grew.drew ?_)))))).mono ?_); (focus (first | (with_reducible assumption) | (with_reducible refine FS.ext ?_ _ _; with_reducible assumption) | (with_reducible refine IS.ext ?_ _ _; with_reducible assumption) | (refine hDu _ ?_; with_reducible assumption) | (refine hOu _ ?_; with_reducible assumption) | (refine hDa _ ?_; with_reducible assumption) | (refine hDb _ ?_; with_reducible assumption) | (refine hDc _ ?_; with_reducible assumption) | (refine hDd _ ?_; with_reducible assumption) | (refine FW.fs ?_ (by omega) _; with_reducible assumption) | (refine WS.fs ?_; with_reducible assumption) | (refine FW.fs ?_ (by omega) _; assumption) | omega | assumption)); (focus (first | (with_reducible assumption) | (with_reducible refine FS.ext ?_ _ _; with_reducible assumption) | (with_reducible refine IS.ext ?_ _ _; with_reducible assumption) | (refine hDu _ ?_; with_reducible assumption) | (refine hOu _ ?_; with_reducible assumption) | (refine hDa _ ?_; with_reducible assumption) | (refine hDb _ ?_; with_reducible assumption) | (refine hDc _ ?_; with_reducible assumption) | (refine hDd _ ?_; with_reducible assumption) | (refine FW.fs ?_ (by omega) _; with_reducible assumption) | (refine WS.fs ?_; with_reducible assumption) | (refine FW.fs ?_ (by omega) _; assumption) | omega | assumption)); rintro e w1 ⟨rfl, of, nf, rfl⟩)))
  go_ret
  exact ⟨rfl, by (show Grew _ _; repeat (first | (with_reducible exact Grew.refl _) | (with_reducible assumption) | (with_reducible exact Grew.same_o) | (with_reducible exact Grew.app_o) | (with_reducible refine Grew.ext ?_ _ _) | (with_reducible refine Grew.alloc ?_ _) | ((with_reducible refine Grew.setCell ?_ ?_ _); rotate_left; (focus (dsimp only; first | omega | (simp only [size_ext, World.size_alloc, Array.size_append]; omega)))) | (with_reducible refine Grew.drewN ?_ _) | (with_reducible refine Grew.drew ?_)))⟩
set_option maxRecDepth 100000 in
set_option maxHeartbeats 4000000 in
/-- gemv.Mul, where all is well. -/
theorem mulO_ok (a α b β : Nat) (m : MatM) (x y : VecM) (bm cm bx ox cx g cg : Nat) (w : World) (ha : IsF a α) (hb : IsF b β) (H : MulOkO m x y bm cm bx ox cx g cg m.rows m.cols w) (hF : FW w g y.ws) (hy0 : 0 < y.n) (hmg : bm = g → m.ws = y.ws) (kbm : bm < w.heap.size) (kbx : bx < w.heap.size) :
   Calls Try.prog 71 #[.float .f64 a, .agg #[(.slice (some ⟨bm, 0, none⟩) m.ws.length cm), .int .i64 m.off, .int .i64 m.rows, .int .i64 m.cols, .int .i64 m.ld], .agg #[(.slice (some ⟨bx, ox, none⟩) x.ws.length cx), .int .i64 x.off, .int .i64 x.n, .int .i64 x.inc], .float .f64 b, .agg #[(.slice (some ⟨g, 0, none⟩) y.ws.length cg), .int .i64 y.off, .int .i64 y.n, .int .i64 y.inc]] w
     (fun e w' => e = .returned (.int .i64 0) ∧ But w [g] w' ∧ ∃ L, FW w' g L ∧ VH y L (fun r => mulTo α m.num x.num (beginF β (y.num r)) r x.n.toNat)) := by
  have hck : ∀ w', Grew w w' → Calls Try.prog 144 #[.agg #[(.slice (some ⟨bm, 0, none⟩) m.ws.length cm), .int .i64 m.off, .int .i64 m.rows, .int .i64 m.cols, .int .i64 m.ld], .int .i64 m.rows, .int .i64 m.cols, .agg #[(.slice (some ⟨bx, ox, none⟩) x.ws.length cx), .int .i64 x.off, .int .i64 x.n, .int .i64 x.inc], .agg #[(.slice (some ⟨g, 0, none⟩) y.ws.length cg), .int .i64 y.off, .int .i64 y.n, .int .i64 y.inc]] w' (fun e w2 => e = .returned (.int .i64 0) ∧ ∃ o n, w2 = ext w' o n) := fun w' hg =>
    vcheckO_ok m x y bm cm bx ox cx g cg m.rows m.cols w' ⟨H.M.grew hg, H.X.grew hg, H.Y.grew hg, H.pM.grew hg, H.pX.grew hg, H.pY.grew hg, H.good, H.rx, H.ry, H.xn, H.yn, H.m1, H.m2, H.wm, H.wx, H.wy, H.lm, H.lx, H.ly⟩
  have hltg := hF.lt
  have H' := hid H
  have hny := VecM.right_n H.ry
  have Hmg := hid hmg
  have d0 : decide (0 < y.n) = true := by simpa using hy0
  clear H hmg
  go_enter Try.func71, Try.ntmps71
  refine seq_stop ?_
  go_wp2
  refine stop_go (fun W hW => ?_)
  have s1 : w.heap.size < W.heap.size := by rw [hW]; simp only [World.size_alloc]; omega
  have b1 : ∀ i, W.cell? ⟨w.heap.size, i, none⟩ = (#[.float .f64 a] : Array Value)[i]? := by intro i; rw [hW]; go_simp
  have s2 : w.heap.size + 1 < W.heap.size := by rw [hW]; simp only [World.size_alloc]; omega
  have b2 : ∀ i, W.cell? ⟨w.heap.size + 1, i, none⟩ = (#[(.slice (some ⟨bm, 0, none⟩) m.ws.length cm), .int .i64 m.off, .int .i64 m.rows, .int .i64 m.cols, .int .i64 m.ld] : Array Value)[i]? := by intro i; rw [hW]; go_simp
  have s3 : w.heap.size + 1 + 1 < W.heap.size := by rw [hW]; simp only [World.size_alloc]; omega
  have b3 : ∀ i, W.cell? ⟨w.heap.size + 1 + 1, i, none⟩ = (#[(.slice (some ⟨bx, ox, none⟩) x.ws.length cx), .int .i64 x.off, .int .i64 x.n, .int .i64 x.inc] : Array Value)[i]? := by intro i; rw [hW]; go_simp
  have s4 : w.heap.size + 1 + 1 + 1 < W.heap.size := by rw [hW]; simp only [World.size_alloc]; omega
  have b4 : ∀ i, W.cell? ⟨w.heap.size + 1 + 1 + 1, i, none⟩ = (#[(.slice (some ⟨g, 0, none⟩) y.ws.length cg), .int .i64 y.off, .int .i64 y.n, .int .i64 y.inc] : Array Value)[i]? := by intro i; rw [hW]; go_simp
  have g0 : Grew w W := by rw [hW]; exact ((((Grew.refl _).alloc _).alloc _).alloc _).alloc _
  clear hW
  have hFW := hF.grew g0
  have zW := g0.below.size
  have hmf := hmf
  go_wp2_with (first | (go_at_call 144; ((with_reducible refine (hck _ (g0.trans (by (show Grew _ _; repeat (first | (with_reducible exact Grew.refl _) | (with_reducible assumption) | (with_reducible exact Grew.same_o) | (with_reducible exact Grew.app_o) | (with_reducible refine Grew.ext ?_ _ _) | (with_reducible refine Grew.alloc ?_ _) | ((with_reducible refine Grew.setCell ?_ ?_ _); rotate_left; (focus (dsimp only; first | omega | (simp only [size_ext, World.size_alloc, Array.size_append]; omega)))) | (with_reducible refine Grew.drewN ?_ _) | (with_reducible refine Grew.drew ?_)))))).mono ?_); rintro e w1 ⟨rfl, oa, na, rfl⟩)))
  refine name_call (fun V hV => ?_)
  have gV : Grew W V := by rw [← hV]; (show Grew _ _; repeat (first | (with_reducible exact Grew.refl _) | (with_reducible assumption) | (with_reducible exact Grew.same_o) | (with_reducible exact Grew.app_o) | (with_reducible refine Grew.ext ?_ _ _) | (with_reducible refine Grew.alloc ?_ _) | ((with_reducible refine Grew.setCell ?_ ?_ _); rotate_left; (focus (dsimp only; first | omega | (simp only [size_ext, World.size_alloc, Array.size_append]; omega)))) | (with_reducible refine Grew.drewN ?_ _) | (with_reducible refine Grew.drew ?_)))
  have gw : Grew w V := g0.trans gV
  have zV := gV.below.size
  have hFV := hF.grew gw
  have c1 : ∀ w', But V [g] w' → ∀ i, w'.cell? ⟨w.heap.size, i, none⟩ = (#[.float .f64 a] : Array Value)[i]? := fun w' h i => (h.cell (by omega) (by simp; omega)).trans ((gV.cell s1).trans (b1 i))
  have c2 : ∀ w', But V [g] w' → ∀ i, w'.cell? ⟨w.heap.size + 1, i, none⟩ = (#[(.slice (some ⟨bm, 0, none⟩) m.ws.length cm), .int .i64 m.off, .int .i64 m.rows, .int .i64 m.cols, .int .i64 m.ld] : Array Value)[i]? := fun w' h i => (h.cell (by omega) (by simp; omega)).trans ((gV.cell s2).trans (b2 i))
  have c3 : ∀ w', But V [g] w' → ∀ i, w'.cell? ⟨w.heap.size + 1 + 1, i, none⟩ = (#[(.slice (some ⟨bx, ox, none⟩) x.ws.length cx), .int .i64 x.off, .int .i64 x.n, .int .i64 x.inc] : Array Value)[i]? := fun w' h i => (h.cell (by omega) (by simp; omega)).trans ((gV.cell s3).trans (b3 i))
  have c4 : ∀ w', But V [g] w' → ∀ i, w'.cell? ⟨w.heap.size + 1 + 1 + 1, i, none⟩ = (#[(.slice (some ⟨g, 0, none⟩) y.ws.length cg), .int .i64 y.off, .int .i64 y.n, .int .i64 y.inc] : Array Value)[i]? := fun w' h i => (h.cell (by omega) (by simp; omega)).trans ((gV.cell s4).trans (b4 i))
  clear hV b1 b2 b3 b4 hck
  refine (begin_any b β y g cg y.num y.ws V hb hFV (VH.start y) H'.out.ry H'.out.ly).mono ?_
  rintro e w1 ⟨rfl, hB1, L1, hL1, hS1⟩
  have t1 := c2 _ hB1
  have t2 := c3 _ hB1
  have t3 := c4 _ hB1
  have z1 := hB1.size
  have k1 : w.heap.size + 1 < w1.heap.size := by omega
  have k2 : w.heap.size + 1 + 1 < w1.heap.size := by omega
  have k3 : w.heap.size + 1 + 1 + 1 < w1.heap.size := by omega
  have bw : ∀ w', But w1 [g] w' → But w [g] w' := fun w' h => (((But.refl w [g]).grew gw).trans hB1 (fun _ hb => .inl hb)).trans h (fun _ hb => .inl hb)
  have bV : ∀ w', But w1 [g] w' → But V [g] w' := fun w' h => hB1.trans h (fun _ hb => .inl hb)
  have hcol : Calls Try.prog 146 #[.agg #[(.slice (some ⟨bm, 0, none⟩) m.ws.length cm), .int .i64 m.off, .int .i64 m.rows, .int .i64 m.cols, .int .i64 m.ld], .agg #[(.slice (some ⟨bx, ox, none⟩) x.ws.length cx), .int .i64 x.off, .int .i64 x.n, .int .i64 x.inc], .agg #[(.slice (some ⟨g, 0, none⟩) y.ws.length cg), .int .i64 y.off, .int .i64 y.n, .int .i64 y.inc], .func (.func 147) #[] #[.pointer (some ⟨w.heap.size, 0, none⟩)]] w1
     (fun e w' => e = .returned (.tuple #[]) ∧ But w1 [g] w' ∧ ∃ L, FW w' g L ∧ VH y L (fun r => mulTo α m.num x.num (beginF β (y.num r)) r x.n.toNat)) := by
    have H := H'.out
    refine columnsO_any m x y bm cm bx ox cx g cg a α w.heap.size (fun r => beginF β (y.num r)) L1 w1 ha (fun i => c1 _ hB1 i) (by omega) (by omega) hL1 hS1 H.good H.rx H.ry H.wm H.xn H.yn hy0 H.lm H.lx H.ly ?_ ?_ ?_ (by have := gw.below.size; omega) (by have := gw.below.size; omega)
    · intro w' L s hB hL hS j hj
      have hr0 : 0 < m.rows := by have := H.yn; omega
      by_cases hbg : bm = g
      · have hl : L.length = m.ws.length := by rw [hS.len, Hmg.out hbg]
        have h1 := hL.fs (by rw [hl]; have := H.lm; omega) cm
        rw [hl, ← hbg] at h1
        have := col_any (withL m L) (.slice (some ⟨bm, 0, none⟩) m.ws.length cm) j w' h1 (by rw [withL_good hl]; exact H.good) H.wm hj
        have e : (colV (withL m L) j).off = m.off + j * m.ld := by unfold colV withL; simp [hr0]
        rw [e] at this
        exact this
      · have h1 := (bw _ hB).fs_ne H.M hbg
        have := col_any m (.slice (some ⟨bm, 0, none⟩) m.ws.length cm) j w' h1 H.good H.wm hj
        have e : (colV m j).off = m.off + j * m.ld := by unfold colV; simp [hr0]
        rw [e] at this
        exact this
    · intro i j hi hj w' L s hB hL hS
      have hpl := (MatM.places H.good).lt i j (by omega) (by omega)
      by_cases hbg : bm = g
      · have hm1 := H.m1
        rw [show decide (g = bm) = true by simpa using hbg.symm] at hm1
        obtain ⟨r, h1, h2⟩ := hL.get (i := m.place i j) (by rw [hS.len, ← Hmg.out hbg]; exact hpl)
        refine ⟨r, by rw [hbg]; exact h1, ?_⟩
        rw [hS.rest _ (fun q hq => meet_no H.ry H.good hm1 hq hi hj), ← Hmg.out hbg] at h2
        exact h2
      · have h1 := (bw _ hB).fs_ne H.M hbg
        obtain ⟨blk, o, h2, _, h3⟩ := h1.at.2 (by omega)
        cases h2
        obtain ⟨r, h4, h5⟩ := h3 _ hpl
        rw [Nat.zero_add] at h4
        exact ⟨r, h4, h5⟩
    · intro j hj w' L s hB hL hS
      have hpl := VecM.place_lt H.rx hj
      obtain ⟨blk, o, h2, hb2, h3⟩ := H.X.at.2 (by omega)
      cases h2
      obtain ⟨r, h4, h5⟩ := h3 _ hpl
      exact ⟨r, ((bw _ hB).cell hb2 (by simpa using fun e => H.m2 e.symm)).trans h4, h5⟩
  go_wp2_with (first | (go_at_call 146; ((with_reducible refine (hcol).mono ?_); rintro e w1 ⟨rfl, hB2, L2, hL2, hS2⟩)))
  go_ret
  exact ⟨rfl, bw _ hB2, L2, hL2, hS2⟩
end Go.Proofs.Ytcmggfpcbijcjaa
end
section
/-
  Plain laws on 64-bit floats: what a word is worth, and how far what is written is from what was meant.
-/
set_option linter.unusedSimpArgs false
set_option linter.unusedVariables false
namespace Sedge
open Ieee

/-- n / 2^drop, to the nearest, of two the even one. -/
def rne (n drop : Nat) : Nat :=
  n / 2 ^ drop + (decide (2 ^ drop < 2 * (n % 2 ^ drop)) || (decide (2 ^ drop = 2 * (n % 2 ^ drop)) && n / 2 ^ drop % 2 == 1)).toNat

theorem cut_even (neg : Bool) (n drop : Nat) : Toward.even.cut neg n drop = rne n drop := by
  unfold Toward.cut rne
  by_cases h : drop ≤ n.log2 + 2
  · rw [Nat.min_eq_left h]
    simp only [Nat.one_shiftLeft]
    have e1 : (2 ^ drop == 2 * (n % 2 ^ drop)) = decide (2 ^ drop = 2 * (n % 2 ^ drop)) := by rw [Bool.eq_iff_iff]; simp
    simp only [e1]
  · rw [Nat.min_eq_right (by omega)]
    simp only [Nat.one_shiftLeft]
    have h1 : n < 2 ^ (n.log2 + 1) := Nat.lt_log2_self
    have h2 : 2 ^ (n.log2 + 2) = 2 * 2 ^ (n.log2 + 1) := by rw [Nat.pow_succ, Nat.mul_comm]
    have h3 : 2 ^ (n.log2 + 2) ≤ 2 ^ drop := Nat.pow_le_pow_right (by decide) (by omega)
    have d1 : n / 2 ^ (n.log2 + 2) = 0 := Nat.div_eq_of_lt (by omega)
    have m1 : n % 2 ^ (n.log2 + 2) = n := Nat.mod_eq_of_lt (by omega)
    have d2 : n / 2 ^ drop = 0 := Nat.div_eq_of_lt (by omega)
    have m2 : n % 2 ^ drop = n := Nat.mod_eq_of_lt (by omega)
    rw [d1, m1, d2, m2]
    have f1 : decide (2 ^ (n.log2 + 2) < 2 * n) = false := by simp; omega
    have f2 : decide (2 ^ drop < 2 * n) = false := by simp; omega
    rw [f1, f2]; simp

theorem rne_lo (n drop : Nat) : 2 * n ≤ 2 * (rne n drop * 2 ^ drop) + 2 ^ drop := by
  unfold rne
  have hd := Nat.div_add_mod n (2 ^ drop)
  have hp : 0 < 2 ^ drop := Nat.two_pow_pos _
  have hm := Nat.mod_lt n hp
  generalize n / 2 ^ drop = q at *
  generalize n % 2 ^ drop = r at *
  generalize 2 ^ drop = g at *
  subst hd
  rw [Nat.add_mul, Nat.mul_comm q g]
  by_cases h1 : g < 2 * r
  · simp [h1]; omega
  · have : 2 * r ≤ g := by omega
    omega
theorem rne_hi (n drop : Nat) : 2 * (rne n drop * 2 ^ drop) ≤ 2 * n + 2 ^ drop := by
  unfold rne
  have hd := Nat.div_add_mod n (2 ^ drop)
  have hp : 0 < 2 ^ drop := Nat.two_pow_pos _
  have hm := Nat.mod_lt n hp
  generalize n / 2 ^ drop = q at *
  generalize n % 2 ^ drop = r at *
  generalize 2 ^ drop = g at *
  subst hd
  rw [Nat.add_mul, Nat.mul_comm q g]
  by_cases h1 : g < 2 * r
  · simp [h1]; omega
  · by_cases h2 : g = 2 * r
    · cases h3 : (q % 2 == 1)
      · simp [h1]; omega
      · simp [h2]; omega
    · simp [h1, h2]; omega
/-- What divides is not rounded. -/
theorem rne_exact (k drop : Nat) : rne (k * 2 ^ drop) drop = k := by
  unfold rne
  have hp : 0 < 2 ^ drop := Nat.two_pow_pos _
  rw [Nat.mul_div_cancel _ hp, Nat.mul_mod_left]
  have f1 : decide (2 ^ drop < 2 * 0) = false := by simp
  have f2 : decide (2 ^ drop = 2 * 0) = false := by simp
  rw [f1, f2]; simp
theorem rne_zero (n : Nat) : rne n 0 = n := by
  have := rne_exact n 0
  simpa using this
theorem rne_mono {m n : Nat} (h : m ≤ n) (drop : Nat) : rne m drop ≤ rne n drop := by
  have hp : 0 < 2 ^ drop := Nat.two_pow_pos _
  unfold rne
  have h1 : m / 2 ^ drop ≤ n / 2 ^ drop := Nat.div_le_div_right h
  rcases Nat.lt_or_ge (m / 2 ^ drop) (n / 2 ^ drop) with h2 | h2
  · have : ∀ b : Bool, b.toNat ≤ 1 := by intro b; cases b <;> decide
    have := this (decide (2 ^ drop < 2 * (m % 2 ^ drop)) || (decide (2 ^ drop = 2 * (m % 2 ^ drop)) && m / 2 ^ drop % 2 == 1))
    omega
  · have h3 : m / 2 ^ drop = n / 2 ^ drop := Nat.le_antisymm h1 h2
    have h4 : m % 2 ^ drop ≤ n % 2 ^ drop := by
      have a := Nat.div_add_mod m (2 ^ drop)
      have b := Nat.div_add_mod n (2 ^ drop)
      rw [h3] at a
      omega
    rw [h3]
    refine Nat.add_le_add_left ?_ _
    generalize m % 2 ^ drop = r at *
    generalize n % 2 ^ drop = s at *
    generalize 2 ^ drop = g at *
    by_cases c1 : g < 2 * r
    · have c2 : g < 2 * s := by omega
      simp [c1, c2]
    · by_cases c3 : g = 2 * r
      · by_cases c2 : g < 2 * s
        · simp [c2]; exact Bool.toNat_le _
        · have : s = r := by omega
          subst this; exact Nat.le_refl _
      · simp [c1, c3]

/-- The place of the last digit that is kept. -/
def lastP (m : Nat) (p : Int) : Int := max (p + m.log2 - 52) (-1074)
/-- The digits that are kept. -/
def keptP (m : Nat) (p : Int) : Nat := rne (m <<< (p - lastP m p).toNat) (lastP m p - p).toNat

theorem nearest_eq (neg : Bool) (m : Nat) (p : Int) (h : m ≠ 0) :
    D64.nearest neg m p = D64.word neg (min ((lastP m p + 1074).toNat * BN + keptP m p) IR) := by
  unfold Format.nearest
  rw [if_neg h]
  simp only [leastPlace_eq, binade_eq, infRung_eq, cut_even]
  have : (D64.fractionBits : Int) = 52 := rfl
  rw [this]
  unfold keptP
  have e : lastP m p - -1074 = lastP m p + 1074 := by omega
  show D64.word neg (min ((lastP m p - -1074).toNat * BN + _) IR) = _
  rw [e]
  rfl

theorem log2_spec (m : Nat) (h : m ≠ 0) : 2 ^ m.log2 ≤ m ∧ m < 2 ^ (m.log2 + 1) := ⟨Nat.log2_self_le h, Nat.lt_log2_self⟩

end Sedge
end
section
set_option linter.unusedSimpArgs false
set_option linter.unusedVariables false
namespace Sedge
open Ieee

def p2 (k : Int) : Rat := (2 : Rat) ^ k
theorem p2_pos (k : Int) : 0 < p2 k := Rat.zpow_pos (by decide)
theorem p2_add (j k : Int) : p2 (j + k) = p2 j * p2 k := Rat.zpow_add (by decide) j k
theorem p2_zero : p2 0 = 1 := Rat.zpow_zero 2
theorem p2_one : p2 1 = 2 := Rat.zpow_one 2
theorem p2_nat (n : Nat) : p2 n = ((2 ^ n : Nat) : Rat) := by
  unfold p2; rw [Rat.zpow_natCast, Rat.natCast_pow]; rfl
theorem p2_succ (k : Int) : p2 (k + 1) = 2 * p2 k := by rw [p2_add, p2_one, Rat.mul_comm]
theorem p2_mono {j k : Int} (h : j ≤ k) : p2 j ≤ p2 k := by
  obtain ⟨n, rfl⟩ : ∃ n : Nat, k = j + n := ⟨(k - j).toNat, by omega⟩
  rw [p2_add, p2_nat]
  have h1 : (1 : Rat) ≤ ((2 ^ n : Nat) : Rat) := by
    have : 1 ≤ 2 ^ n := Nat.two_pow_pos n
    have := Rat.natCast_le_natCast.2 this
    simpa using this
  have := Rat.mul_le_mul_of_nonneg_left h1 (Rat.le_of_lt (p2_pos j))
  grind
theorem p2_lt {j k : Int} (h : j < k) : p2 j < p2 k := by
  have h1 : p2 (j + 1) ≤ p2 k := p2_mono (by omega)
  rw [p2_succ] at h1
  have := p2_pos j
  grind
theorem p2_inv (k : Int) : p2 k * p2 (-k) = 1 := by rw [← p2_add, show k + -k = 0 by omega, p2_zero]
theorem p2_sub_mul (j k : Int) : p2 (j - k) * p2 k = p2 j := by rw [← p2_add, show j - k + k = j by omega]

/-- What a word is worth (0 of what is not finite). -/
def sgn (s : Bool) : Rat := if s then -1 else 1
def dat (s : Bool) (m : Nat) (p : Int) : Rat := sgn s * ((m : Rat) * p2 p)
def val (b : Nat) : Rat := match D64.read b with
  | .number s m p => dat s m p
  | _ => 0
/-- Finite. -/
def fin (b : Nat) : Bool := match D64.read b with
  | .number .. => true
  | _ => false

theorem abs_sgn_mul (s : Bool) (x : Rat) : (sgn s * x).abs = x.abs := by
  cases s
  · simp [sgn]
  · have : sgn true * x = -x := by simp [sgn]; grind
    rw [this, Rat.abs_neg]

/-! keptP and lastP. -/
theorem lastP_ge (m : Nat) (p : Int) : -1074 ≤ lastP m p := Int.le_max_right _ _
theorem lastP_ge' (m : Nat) (p : Int) : p + m.log2 - 52 ≤ lastP m p := Int.le_max_left _ _
theorem lastP_or (m : Nat) (p : Int) : lastP m p = p + m.log2 - 52 ∨ (lastP m p = -1074 ∧ p + m.log2 - 52 ≤ -1074) := by
  unfold lastP; omega

/-- In units of 2^lastP: the numerator. -/
def numP (m : Nat) (p : Int) : Nat := m <<< (p - lastP m p).toNat
def dropP (m : Nat) (p : Int) : Nat := (lastP m p - p).toNat

theorem numP_val (m : Nat) (p : Int) : (numP m p : Rat) * p2 (lastP m p) = (m : Rat) * p2 p * (2 ^ dropP m p : Nat) := by
  unfold numP dropP
  rw [Nat.shiftLeft_eq, Rat.natCast_mul, ← p2_nat, ← p2_nat]
  have : (p2 ((p - lastP m p).toNat : Nat)) * p2 (lastP m p) = p2 p * p2 ((lastP m p - p).toNat : Nat) := by
    rw [← p2_add, ← p2_add]; congr 1; omega
  grind

/-- How far the kept digits are from the number: half a unit at most. -/
theorem kept_err (m : Nat) (p : Int) : ((keptP m p : Rat) * p2 (lastP m p) - (m : Rat) * p2 p).abs ≤ p2 (lastP m p - 1) := by
  have hlo := rne_lo (numP m p) (dropP m p)
  have hhi := rne_hi (numP m p) (dropP m p)
  have hk : rne (numP m p) (dropP m p) = keptP m p := rfl
  rw [hk] at hlo hhi
  have hv := numP_val m p
  have hg : 0 < ((2 ^ dropP m p : Nat) : Rat) := Rat.natCast_pos.2 (Nat.two_pow_pos _)
  have hlo' := Rat.natCast_le_natCast.2 hlo
  have hhi' := Rat.natCast_le_natCast.2 hhi
  simp only [Rat.natCast_add, Rat.natCast_mul] at hlo' hhi'
  have h2 : ((2 : Nat) : Rat) = 2 := rfl
  rw [h2] at hlo' hhi'
  have hu := p2_pos (lastP m p)
  have hu1 : 2 * p2 (lastP m p - 1) = p2 (lastP m p) := by rw [← p2_succ]; congr 1; omega
  generalize ((2 ^ dropP m p : Nat) : Rat) = g at *
  generalize (keptP m p : Rat) = k at *
  generalize (numP m p : Rat) = n at *
  generalize p2 (lastP m p) = u at *
  generalize (m : Rat) * p2 p = x at *
  generalize p2 (lastP m p - 1) = h at *
  -- n u = x g; 2 n ≤ 2 k g + g; 2 k g ≤ 2 n + g
  have a1 : 2 * n * u ≤ (2 * (k * g) + g) * u := Rat.mul_le_mul_of_nonneg_right hlo' (Rat.le_of_lt hu)
  have a2 : 2 * (k * g) * u ≤ (2 * n + g) * u := Rat.mul_le_mul_of_nonneg_right hhi' (Rat.le_of_lt hu)
  have b1 : g * (2 * x) ≤ g * (2 * (k * u) + u) := by grind
  have b2 : g * (2 * (k * u)) ≤ g * (2 * x + u) := by grind
  have c1 := Rat.le_of_mul_le_mul_left b1 hg
  have c2 := Rat.le_of_mul_le_mul_left b2 hg
  rcases Rat.le_total (a := 0) (b := k * u - x) with h0 | h0
  · rw [Rat.abs_of_nonneg h0]; grind
  · rw [Rat.abs_of_nonpos h0]; grind

theorem kept_le (m : Nat) (p : Int) (h : m ≠ 0) : keptP m p ≤ 2 ^ 53 := by
  -- m 2^p < 2^(log2 m + 1 + p) ≤ 2^(lastP + 53)
  have hl := (log2_spec m h).2
  have hle : numP m p ≤ 2 ^ 53 * 2 ^ dropP m p := by
    unfold numP dropP
    rw [Nat.shiftLeft_eq, ← Nat.pow_add]
    have h1 : m * 2 ^ (p - lastP m p).toNat ≤ 2 ^ (m.log2 + 1) * 2 ^ (p - lastP m p).toNat := Nat.mul_le_mul_right _ (Nat.le_of_lt hl)
    rw [← Nat.pow_add] at h1
    refine Nat.le_trans h1 (Nat.pow_le_pow_right (by decide) ?_)
    have := lastP_ge' m p
    omega
  have := rne_mono hle (dropP m p)
  rw [rne_exact] at this
  exact this
theorem kept_ge (m : Nat) (p : Int) (h : m ≠ 0) (hn : lastP m p = p + m.log2 - 52) : 2 ^ 52 ≤ keptP m p := by
  have hl := (log2_spec m h).1
  have hle : 2 ^ 52 * 2 ^ dropP m p ≤ numP m p := by
    unfold numP dropP
    rw [Nat.shiftLeft_eq, ← Nat.pow_add]
    have h1 : 2 ^ m.log2 * 2 ^ (p - lastP m p).toNat ≤ m * 2 ^ (p - lastP m p).toNat := Nat.mul_le_mul_right _ hl
    rw [← Nat.pow_add] at h1
    refine Nat.le_trans (Nat.pow_le_pow_right (by decide) ?_) h1
    omega
  have := rne_mono hle (dropP m p)
  rw [rne_exact] at this
  exact this

theorem BN_eq : BN = 2 ^ 52 := by decide +kernel
theorem IR_eq : IR = 2046 * BN + BN := by decide +kernel
theorem SW_eq : SW = 2048 * BN := by decide +kernel

/-- A word below infinity, of kept digits k at place l, is worth k 2^l. -/
theorem read_kept (s : Bool) (l : Int) (k : Nat) (hl : -1074 ≤ l) (hk : k ≤ 2 ^ 53) (hn : 2 ^ 52 ≤ k ∨ l = -1074)
    (hf : (l + 1074).toNat * BN + k < IR) :
    ∃ m q, D64.read (D64.word s ((l + 1074).toNat * BN + k)) = .number s m q ∧ (m : Rat) * p2 q = (k : Rat) * p2 l := by
  have hlt : (l + 1074).toNat * BN + k < SW := Nat.lt_trans hf (by decide +kernel)
  rw [read_word s _ hlt]
  have hb : BN = 2 ^ 52 := BN_eq
  have hb0 : 0 < BN := by decide +kernel
  by_cases h1 : (l + 1074).toNat * BN + k < BN
  · rw [if_pos h1]
    have hl0 : (l + 1074).toNat = 0 := by
      rcases Nat.eq_zero_or_pos (l + 1074).toNat with h | h
      · exact h
      · have : BN ≤ (l + 1074).toNat * BN := Nat.le_mul_of_pos_left _ h
        omega
    have : l = -1074 := by omega
    refine ⟨_, _, rfl, ?_⟩
    rw [hl0, Nat.zero_mul, Nat.zero_add, this]
  · rw [if_neg h1, if_pos hf]
    refine ⟨_, _, rfl, ?_⟩
    have h53 : (2 : Nat) ^ 53 = 2 * BN := by rw [hb]
    have hkb : BN ≤ k ∨ (l + 1074).toNat = 0 := by
      rcases hn with h | h
      · left; omega
      · right; omega
    have hk1 : BN ≤ k := by
      rcases hkb with h | h
      · exact h
      · rw [h, Nat.zero_mul, Nat.zero_add] at h1; omega
    by_cases hk2 : k < 2 * BN
    · have e1 : ((l + 1074).toNat * BN + k) % BN = k - BN := by
        rw [Nat.add_comm, Nat.add_mul_mod_self_right]
        have : k = BN + (k - BN) := by omega
        rw [this, Nat.add_mod_left, Nat.mod_eq_of_lt (by omega)]; omega
      have e2 : ((l + 1074).toNat * BN + k) / BN = (l + 1074).toNat + 1 := by
        rw [Nat.add_comm, Nat.add_mul_div_right _ _ hb0]
        have : k / BN = 1 := by
          apply Nat.div_eq_of_lt_le <;> omega
        omega
      rw [e1, e2]
      have e3 : BN + (k - BN) = k := by omega
      have e4 : (-1074 + (((l + 1074).toNat + 1 - 1 : Nat) : Int)) = l := by omega
      rw [e3, e4]
    · have hk3 : k = 2 * BN := by omega
      have e1 : ((l + 1074).toNat * BN + k) % BN = 0 := by
        rw [hk3, ← Nat.add_mul, Nat.mul_mod_left]
      have e2 : ((l + 1074).toNat * BN + k) / BN = (l + 1074).toNat + 2 := by
        rw [hk3, ← Nat.add_mul, Nat.mul_div_cancel _ hb0]
      rw [e1, e2, hk3]
      have e4 : (-1074 + (((l + 1074).toNat + 2 - 1 : Nat) : Int)) = l + 1 := by omega
      rw [e4, p2_succ, Nat.add_zero, Rat.natCast_mul]
      have h2 : ((2 : Nat) : Rat) = 2 := rfl
      rw [h2]
      grind

/-- THE NEAREST: if finite, it is within half a unit. -/
theorem nearest_err (s : Bool) (m : Nat) (p : Int) (h : m ≠ 0) (hf : fin (D64.nearest s m p) = true) :
    (val (D64.nearest s m p) - dat s m p).abs ≤ p2 (lastP m p - 1) ∧ val (D64.nearest s m p) = dat s (keptP m p) (lastP m p) := by
  rw [nearest_eq s m p h] at hf ⊢
  have hlt : (lastP m p + 1074).toNat * BN + keptP m p < IR := by
    rcases Nat.lt_or_ge ((lastP m p + 1074).toNat * BN + keptP m p) IR with h1 | h1
    · exact h1
    · rw [Nat.min_eq_right h1] at hf
      unfold fin at hf
      rw [read_word s IR (by decide +kernel), if_neg (by decide +kernel), if_neg (by decide +kernel), if_pos rfl] at hf
      cases hf
  rw [Nat.min_eq_left (Nat.le_of_lt hlt)] at hf ⊢
  have hor : 2 ^ 52 ≤ keptP m p ∨ lastP m p = -1074 := by
    rcases lastP_or m p with h1 | h1
    · exact .inl (kept_ge m p h h1)
    · exact .inr h1.1
  obtain ⟨m', q, hr, hv⟩ := read_kept s (lastP m p) (keptP m p) (lastP_ge m p) (kept_le m p h) hor hlt
  have hval : val (D64.word s ((lastP m p + 1074).toNat * BN + keptP m p)) = dat s (keptP m p) (lastP m p) := by
    unfold val
    rw [hr]
    show sgn s * (_ * _) = sgn s * (_ * _)
    rw [hv]
  refine ⟨?_, hval⟩
  rw [hval]
  unfold dat
  have : sgn s * (↑(keptP m p) * p2 (lastP m p)) - sgn s * (↑m * p2 p) = sgn s * (↑(keptP m p) * p2 (lastP m p) - ↑m * p2 p) := by grind
  rw [this, abs_sgn_mul]
  exact kept_err m p

end Sedge
end
section
set_option linter.unusedSimpArgs false
set_option linter.unusedVariables false
namespace Sedge
open Ieee

theorem read_number_or (b : Nat) : (∃ s m p, D64.read b = .number s m p) ∨ (∃ s, D64.read b = .infinity s) ∨ (∃ s t, D64.read b = .nan s t) := by
  cases h : D64.read b with
  | number s m p => exact .inl ⟨_, _, _, rfl⟩
  | infinity s => exact .inr (.inl ⟨_, rfl⟩)
  | nan s t => exact .inr (.inr ⟨_, _, rfl⟩)

theorem fin_iff (b : Nat) : fin b = true ↔ ∃ s m p, D64.read b = .number s m p := by
  unfold fin
  rcases read_number_or b with ⟨s, m, p, h⟩ | ⟨s, h⟩ | ⟨s, t, h⟩ <;> simp [h]
theorem val_of {b : Nat} {s : Bool} {m : Nat} {p : Int} (h : D64.read b = .number s m p) : val b = dat s m p := by
  unfold val; rw [h]

theorem fin_of_read {b : Nat} {s : Bool} {m : Nat} {p : Int} (h : D64.read b = .number s m p) : fin b = true := (fin_iff b).2 ⟨_, _, _, h⟩
theorem fin_notnan {b : Nat} (h : fin b = true) : isNan b = false := by
  obtain ⟨s, m, p, h⟩ := (fin_iff b).1 h
  unfold isNan; rw [h]; rfl
theorem fin_QN : fin QN = false := by decide +kernel
theorem fin_inf (s : Bool) : fin (D64.write (.infinity s)) = false := by cases s <;> decide +kernel
theorem fin_canon (b : Nat) : fin (canon b) = fin b := by
  cases h : isNan b
  · rw [canon_not h]
  · rw [canon_nan h, fin_QN]
    cases hf : fin b
    · rfl
    · rw [fin_notnan hf] at h; cases h
theorem val_canon {b : Nat} (h : fin b = true) : val (canon b) = val b := by rw [canon_not (fin_notnan h)]

theorem dat_zero (s : Bool) (p : Int) : dat s 0 p = 0 := by unfold dat; simp
theorem word_zero (s : Bool) : val (D64.word s 0) = 0 ∧ fin (D64.word s 0) = true := by
  have h : D64.read (D64.word s 0) = .number s 0 (-1074) := by
    rw [read_word s 0 (by decide +kernel), if_pos (by decide +kernel)]
  exact ⟨by rw [val_of h, dat_zero], fin_of_read h⟩

def U : Rat := p2 (-53)
def ETA : Rat := p2 (-1075)
theorem U_pos : 0 < U := p2_pos _
theorem ETA_pos : 0 < ETA := p2_pos _

theorem dat_abs (s : Bool) (m : Nat) (p : Int) : (dat s m p).abs = (m : Rat) * p2 p := by
  unfold dat
  rw [abs_sgn_mul, Rat.abs_of_nonneg (Rat.mul_nonneg Rat.natCast_nonneg (Rat.le_of_lt (p2_pos p)))]

theorem half_unit (m : Nat) (p : Int) (h : m ≠ 0) : p2 (lastP m p - 1) ≤ U * ((m : Rat) * p2 p) + ETA := by
  have hm : 0 ≤ (m : Rat) * p2 p := Rat.mul_nonneg Rat.natCast_nonneg (Rat.le_of_lt (p2_pos p))
  rcases lastP_or m p with h1 | h1
  · rw [h1]
    have h2 : p2 (p + m.log2 - 52 - 1) = U * (p2 p * p2 (m.log2 : Nat)) := by
      unfold U; rw [← p2_add, ← p2_add]; congr 1; omega
    rw [h2]
    have h3 : p2 (m.log2 : Nat) ≤ (m : Rat) := by rw [p2_nat]; exact Rat.natCast_le_natCast.2 (log2_spec m h).1
    have h4 := Rat.mul_le_mul_of_nonneg_left h3 (Rat.le_of_lt (p2_pos p))
    have h5 := Rat.mul_le_mul_of_nonneg_left h4 (Rat.le_of_lt U_pos)
    have := ETA_pos
    grind
  · rw [h1.1]
    have := Rat.mul_nonneg (Rat.le_of_lt U_pos) hm
    show ETA ≤ _
    grind

/-- WHAT IS WRITTEN, IF FINITE, IS CLOSE TO WHAT WAS MEANT. -/
theorem write_err (s : Bool) (m : Nat) (p : Int) (hf : fin (D64.write (.number s m p)) = true) :
    (val (D64.write (.number s m p)) - dat s m p).abs ≤ U * (dat s m p).abs + ETA := by
  by_cases h : m = 0
  · subst h
    have e : D64.write (.number s 0 p) = D64.word s 0 := by
      show D64.nearest s 0 p = _; unfold Format.nearest; rw [if_pos rfl]
    rw [e, (word_zero s).1, dat_zero]
    have := ETA_pos
    have e1 : ((0 : Rat) - 0).abs = 0 := by decide +kernel
    have e2 : (0 : Rat).abs = 0 := by decide +kernel
    rw [e1, e2]
    grind
  · have h1 := (nearest_err s m p h hf).1
    have h2 := half_unit m p h
    rw [dat_abs]
    exact Rat.le_trans h1 h2

/-! SUMS -/
theorem signed_val (s : Bool) (m k : Nat) (p : Int) : ((signed s m k : Int) : Rat) * p2 p = dat s m (p + k) := by
  unfold signed dat
  cases s
  · simp only [Bool.false_eq_true, if_false, sgn]
    rw [Nat.shiftLeft_eq, Rat.intCast_natCast, Rat.natCast_mul, ← p2_nat, p2_add]
    grind
  · simp only [if_true, sgn]
    rw [Nat.shiftLeft_eq, Rat.intCast_neg, Rat.intCast_natCast, Rat.natCast_mul, ← p2_nat, p2_add]
    grind

theorem natAbs_val (z : Int) (b : Bool) (hb : z ≠ 0 → b = decide (z < 0)) (p : Int) : dat b z.natAbs p = (z : Rat) * p2 p := by
  unfold dat
  rcases Int.lt_trichotomy z 0 with h | h | h
  · rw [hb (by omega), decide_eq_true h]
    have e : (z : Rat) = -((z.natAbs : Nat) : Rat) := by
      have : z = -((z.natAbs : Nat) : Int) := by omega
      rw [← Rat.intCast_natCast, ← Rat.intCast_neg, ← this]
    rw [e]; simp only [sgn, if_true]; grind
  · subst h; simp
  · rw [hb (by omega), decide_eq_false (by omega)]
    have e : (z : Rat) = ((z.natAbs : Nat) : Rat) := by
      have : z = ((z.natAbs : Nat) : Int) := by omega
      rw [← Rat.intCast_natCast, ← this]
    rw [e]; simp only [sgn, Bool.false_eq_true, if_false]; grind

theorem sum_val {s t : Bool} {m n : Nat} {i j : Int} : ∃ c z b, (Datum.number s m i).sum (.number t n j) = some (.number c z b) ∧ dat c z b = dat s m i + dat t n j := by
  refine ⟨_, _, _, rfl, ?_⟩
  rw [natAbs_val _ _ (by intro h; simp [h])]
  rw [Rat.intCast_add, Rat.add_mul, signed_val, signed_val]
  congr 2 <;> omega

theorem fin_getD {o : Option Datum} (h : fin ((o.map D64.write).getD QN) = true) (hn : ∀ d, o = some d → d.isNaN = false) : ∃ s m p, o = some (.number s m p) := by
  cases o with
  | none => simp only [Option.map, Option.getD, fin_QN] at h; cases h
  | some d =>
    cases d with
    | number s m p => exact ⟨s, m, p, rfl⟩
    | infinity s => simp only [Option.map, Option.getD, fin_inf] at h; cases h
    | nan s t => have := hn _ rfl; cases this
theorem sum_number {d e : Datum} {s : Bool} {m : Nat} {p : Int} (h : d.sum e = some (.number s m p)) : (∃ a b c, d = .number a b c) ∧ (∃ a b c, e = .number a b c) := by
  cases d <;> cases e <;> simp only [Datum.sum] at h <;> first | exact ⟨⟨_, _, _, rfl⟩, ⟨_, _, _, rfl⟩⟩ | cases h | (split at h <;> cases h)
theorem product_number {d e : Datum} {s : Bool} {m : Nat} {p : Int} (h : d.product e = some (.number s m p)) : (∃ a b c, d = .number a b c) ∧ (∃ a b c, e = .number a b c) := by
  cases d <;> cases e <;> simp only [Datum.product] at h <;> first | exact ⟨⟨_, _, _, rfl⟩, ⟨_, _, _, rfl⟩⟩ | cases h | (split at h <;> cases h)
theorem opposite_number {d : Datum} {s : Bool} {m : Nat} {p : Int} (h : d.opposite = .number s m p) : ∃ a b c, d = .number a b c := by
  cases d <;> simp only [Datum.opposite] at h <;> first | exact ⟨_, _, _, rfl⟩ | cases h

theorem fadd_fin {x y : Nat} (h : fin (fadd x y) = true) : fin x = true ∧ fin y = true := by
  obtain ⟨s, m, p, ho⟩ := fin_getD h (fun d hd => sum_notnan hd)
  obtain ⟨h1, h2⟩ := sum_number ho
  exact ⟨(fin_iff _).2 h1, (fin_iff _).2 h2⟩

theorem fadd_read {x y : Nat} (hx : fin x = true) (hy : fin y = true) : ∃ c z b, fadd x y = D64.write (.number c z b) ∧ dat c z b = val x + val y := by
  obtain ⟨s, m, p, hx⟩ := (fin_iff x).1 hx
  obtain ⟨s', m', p', hy⟩ := (fin_iff y).1 hy
  obtain ⟨c, z, b, h1, h2⟩ := sum_val (s := s) (t := s') (m := m) (n := m') (i := p) (j := p')
  refine ⟨c, z, b, ?_, ?_⟩
  · unfold fadd Format.add; rw [hx, hy, h1]; rfl
  · rw [h2, val_of hx, val_of hy]

theorem fadd_err {x y : Nat} (h : fin (fadd x y) = true) : (val (fadd x y) - (val x + val y)).abs ≤ U * (val x + val y).abs + ETA := by
  obtain ⟨hx, hy⟩ := fadd_fin h
  obtain ⟨c, z, b, h1, h2⟩ := fadd_read hx hy
  rw [h1] at h ⊢
  rw [← h2]
  exact write_err c z b h

/-! PRODUCTS -/
theorem natCast_mul' (m n : Nat) : ((m * n : Nat) : Rat) = (m : Rat) * n := Rat.natCast_mul m n
theorem sgn_xor (s t : Bool) : sgn (s ^^ t) = sgn s * sgn t := by cases s <;> cases t <;> decide +kernel
theorem product_val (s t : Bool) (m n : Nat) (i j : Int) : dat (s ^^ t) (m * n) (i + j) = dat s m i * dat t n j := by
  unfold dat
  rw [natCast_mul', p2_add, sgn_xor]
  grind

theorem fmul_fin {x y : Nat} (h : fin (fmul x y) = true) : fin x = true ∧ fin y = true := by
  obtain ⟨s, m, p, ho⟩ := fin_getD h (fun d hd => product_notnan hd)
  obtain ⟨h1, h2⟩ := product_number ho
  exact ⟨(fin_iff _).2 h1, (fin_iff _).2 h2⟩

theorem fmul_read {x y : Nat} (hx : fin x = true) (hy : fin y = true) : ∃ c z b, fmul x y = D64.write (.number c z b) ∧ dat c z b = val x * val y := by
  obtain ⟨s, m, p, hx⟩ := (fin_iff x).1 hx
  obtain ⟨s', m', p', hy⟩ := (fin_iff y).1 hy
  refine ⟨s ^^ s', m * m', p + p', ?_, ?_⟩
  · unfold fmul Format.mul; rw [hx, hy]; rfl
  · rw [product_val, val_of hx, val_of hy]

theorem fmul_err {x y : Nat} (h : fin (fmul x y) = true) : (val (fmul x y) - val x * val y).abs ≤ U * (val x * val y).abs + ETA := by
  obtain ⟨hx, hy⟩ := fmul_fin h
  obtain ⟨c, z, b, h1, h2⟩ := fmul_read hx hy
  rw [h1] at h ⊢
  rw [← h2]
  exact write_err c z b h

/-! DIFFERENCES: y's sign turned. -/
theorem dat_not (s : Bool) (m : Nat) (p : Int) : dat (!s) m p = - dat s m p := by
  unfold dat
  cases s <;> simp only [sgn, Bool.not_true, Bool.not_false, Bool.false_eq_true, if_true, if_false] <;> grind
theorem fsub_fin {x y : Nat} (h : fin (fsub x y) = true) : fin x = true ∧ fin y = true := by
  obtain ⟨s, m, p, ho⟩ := fin_getD h (fun d hd => sum_notnan hd)
  obtain ⟨h1, a, b, c, h2⟩ := sum_number ho
  exact ⟨(fin_iff _).2 h1, (fin_iff _).2 (opposite_number h2)⟩
theorem fsub_read {x y : Nat} (hx : fin x = true) (hy : fin y = true) : ∃ c z b, fsub x y = D64.write (.number c z b) ∧ dat c z b = val x - val y := by
  obtain ⟨s, m, p, hx⟩ := (fin_iff x).1 hx
  obtain ⟨s', m', p', hy⟩ := (fin_iff y).1 hy
  obtain ⟨c, z, b, h1, h2⟩ := sum_val (s := s) (t := !s') (m := m) (n := m') (i := p) (j := p')
  refine ⟨c, z, b, ?_, ?_⟩
  · unfold fsub Format.sub; rw [hx, hy]; simp only [Datum.opposite]; rw [h1]; rfl
  · rw [h2, val_of hx, val_of hy, dat_not]; grind
theorem fsub_err {x y : Nat} (h : fin (fsub x y) = true) : (val (fsub x y) - (val x - val y)).abs ≤ U * (val x - val y).abs + ETA := by
  obtain ⟨hx, hy⟩ := fsub_fin h
  obtain ⟨c, z, b, h1, h2⟩ := fsub_read hx hy
  rw [h1] at h ⊢
  rw [← h2]
  exact write_err c z b h

end Sedge
end
section
/-
  Plain: what a number times a power of 2 is, by words.
-/
set_option linter.unusedSimpArgs false
set_option linter.unusedVariables false
namespace Sedge
open Ieee
theorem log2_mul_pow (m k : Nat) (h : m ≠ 0) : (m * 2 ^ k).log2 = m.log2 + k := by
  have hp : 0 < 2 ^ k := Nat.two_pow_pos _
  have hm : m * 2 ^ k ≠ 0 := Nat.mul_ne_zero h (by omega)
  obtain ⟨h1, h2⟩ := log2_spec m h
  refine (Nat.log2_eq_iff hm).2 ⟨?_, ?_⟩
  · rw [Nat.pow_add]; exact Nat.mul_le_mul_right _ h1
  · rw [show m.log2 + k + 1 = m.log2 + 1 + k from by omega, Nat.pow_add]; exact Nat.mul_lt_mul_of_pos_right h2 hp
theorem rne_scale (m k D : Nat) : rne (m * 2 ^ k) (D + k) = rne m D := by
  have hp : 0 < 2 ^ k := Nat.two_pow_pos _
  unfold rne
  rw [Nat.pow_add, Nat.mul_div_mul_right _ _ hp, Nat.mul_mod_mul_right]
  generalize m % 2 ^ D = r
  generalize 2 ^ D = g
  generalize 2 ^ k = q at *
  have e1 : decide (g * q < 2 * (r * q)) = decide (g < 2 * r) := by
    rw [Bool.eq_iff_iff]; simp only [decide_eq_true_eq]
    rw [← Nat.mul_assoc]
    exact Nat.mul_lt_mul_right hp
  have e2 : decide (g * q = 2 * (r * q)) = decide (g = 2 * r) := by
    rw [Bool.eq_iff_iff]; simp only [decide_eq_true_eq]
    rw [← Nat.mul_assoc]
    exact ⟨fun h => Nat.eq_of_mul_eq_mul_right hp h, fun h => by rw [h]⟩
  rw [e1, e2]
theorem lastP_scale (m k : Nat) (p : Int) (h : m ≠ 0) : lastP (m * 2 ^ k) (p - k) = lastP m p := by
  unfold lastP; rw [log2_mul_pow m k h]; push_cast; congr 1; omega
theorem keptP_scale (m k : Nat) (p : Int) (h : m ≠ 0) : keptP (m * 2 ^ k) (p - k) = keptP m p := by
  unfold keptP; rw [lastP_scale m k p h]
  generalize lastP m p = L
  by_cases h1 : p ≤ L
  · obtain ⟨D, hD⟩ : ∃ D : Nat, L = p + D := ⟨(L - p).toNat, by omega⟩
    rw [show (p - ↑k - L).toNat = 0 by omega, show (L - (p - ↑k)).toNat = D + k by omega, show (p - L).toNat = 0 by omega, show (L - p).toNat = D by omega]
    simp only [Nat.shiftLeft_zero]
    exact rne_scale m k D
  · obtain ⟨u, hu⟩ : ∃ u : Nat, p = L + u := ⟨(p - L).toNat, by omega⟩
    rw [show (p - L).toNat = u by omega, show (L - p).toNat = 0 by omega, rne_zero]
    simp only [Nat.shiftLeft_eq]
    by_cases h2 : k ≤ u
    · rw [show (p - ↑k - L).toNat = u - k by omega, show (L - (p - ↑k)).toNat = 0 by omega, rne_zero, Nat.mul_assoc, ← Nat.pow_add, show k + (u - k) = u by omega]
    · rw [show (p - ↑k - L).toNat = 0 by omega, show (L - (p - ↑k)).toNat = k - u by omega, show m * 2 ^ k * 2 ^ 0 = m * 2 ^ u * 2 ^ (k - u) by
        rw [Nat.pow_zero, Nat.mul_one, Nat.mul_assoc, ← Nat.pow_add, show u + (k - u) = k by omega], rne_exact]
theorem nearest_scale (s : Bool) (m k : Nat) (p : Int) (h : m ≠ 0) : D64.nearest s (m * 2 ^ k) (p - k) = D64.nearest s m p := by
  rw [nearest_eq s m p h, nearest_eq s _ _ (Nat.mul_ne_zero h (by have := Nat.two_pow_pos k; omega)), lastP_scale m k p h, keptP_scale m k p h]
/-- Halved so often: what is left, the last digit that went, and whether one before it was 1. -/
def hvM (m t : Nat) : Nat := m / 2 ^ t
def hvH (m t : Nat) : Bool := decide (2 ^ t ≤ 2 * (m % 2 ^ t))
def hvL (m t : Nat) : Bool := decide (m % 2 ^ t ≠ 0) && decide (2 ^ t ≠ 2 * (m % 2 ^ t))
theorem hv_zero (m : Nat) : hvM m 0 = m ∧ hvH m 0 = false ∧ hvL m 0 = false := by
  refine ⟨by simp [hvM], ?_, ?_⟩
  · simp [hvH, Nat.mod_one]
  · simp [hvL, Nat.mod_one]
theorem hv_succ (m t : Nat) : hvM m (t + 1) = hvM m t / 2 ∧ hvH m (t + 1) = decide (hvM m t % 2 = 1) ∧ hvL m (t + 1) = (hvL m t || hvH m t) := by
  have hp : 0 < 2 ^ t := Nat.two_pow_pos _
  have h1 : m / 2 ^ (t + 1) = m / 2 ^ t / 2 := by rw [Nat.pow_succ, Nat.div_div_eq_div_mul]
  have h2 : m % 2 ^ (t + 1) = m % 2 ^ t + 2 ^ t * (m / 2 ^ t % 2) := by rw [Nat.pow_succ, Nat.mod_mul]
  have h3 := Nat.mod_lt m hp
  refine ⟨h1, ?_, ?_⟩
  · unfold hvH hvM; rw [h2, Nat.pow_succ]
    rcases Nat.mod_two_eq_zero_or_one (m / 2 ^ t) with h | h
    · rw [h]; simp; omega
    · rw [h]; simp; omega
  · unfold hvL hvH; rw [h2, Nat.pow_succ]
    generalize m % 2 ^ t = r at *
    generalize 2 ^ t = g at *
    rw [Bool.eq_iff_iff]
    rcases Nat.mod_two_eq_zero_or_one (m / g) with h | h
    · rw [h]; simp only [Nat.mul_zero, Nat.add_zero, Bool.and_eq_true, Bool.or_eq_true, decide_eq_true_eq]; omega
    · rw [h]; simp only [Nat.mul_one, Bool.and_eq_true, Bool.or_eq_true, decide_eq_true_eq]; omega
theorem hv_rne (m t : Nat) : rne m t = hvM m t + (hvH m t && (hvL m t || decide (hvM m t % 2 = 1))).toNat := by
  have hp : 0 < 2 ^ t := Nat.two_pow_pos _
  have h3 := Nat.mod_lt m hp
  unfold rne hvM hvH hvL
  congr 2
  generalize m % 2 ^ t = r at *
  generalize 2 ^ t = g at *
  rw [Bool.eq_iff_iff]
  simp only [Bool.and_eq_true, Bool.or_eq_true, decide_eq_true_eq, beq_iff_eq]
  omega
theorem log2_le_52 {m : Nat} (h0 : m ≠ 0) (h1 : m < 2 ^ 53) : m.log2 ≤ 52 := by
  have := (Nat.log2_lt h0).2 h1; omega
theorem log2_ge_52 {m : Nat} (h0 : m ≠ 0) (h1 : 2 ^ 52 ≤ m) : 52 ≤ m.log2 := (Nat.le_log2 h0).2 h1
/-- The digits and their place, as they stand before the end. -/
theorem nearest_at (s : Bool) (m : Nat) (e : Int) (t : Nat) (h0 : m ≠ 0) (h1 : m < 2 ^ 53) (h2 : 2 ^ 52 ≤ m ∨ e ≤ -1074) (h3 : -1074 ≤ e + t) (h4 : t ≠ 0 → e + t = -1074) :
    D64.nearest s m e = D64.word s (min ((e + t + 1074).toNat * BN + rne m t) IR) := by
  have hl : lastP m e = e + t := by
    obtain ⟨a, b⟩ := log2_spec m h0
    have hle : m.log2 ≤ 52 := log2_le_52 h0 h1
    unfold lastP
    rcases h2 with h2 | h2
    · have : m.log2 = 52 := by
        have := log2_ge_52 h0 h2; omega
      rw [this]
      by_cases ht : t = 0
      · subst ht; simp only [Int.natCast_zero, Int.add_zero] at *; omega
      · have := h4 ht; omega
    · by_cases ht : t = 0
      · subst ht; simp only [Int.natCast_zero, Int.add_zero] at *; omega
      · have := h4 ht; omega
  rw [nearest_eq s m e h0, hl]
  unfold keptP
  rw [hl, show (e - (e + ↑t)).toNat = 0 by omega, show (e + ↑t - e).toNat = t by omega, Nat.shiftLeft_zero]
/-- The word off digits and a place. -/
def makeW (s : Bool) (M : Nat) (e : Int) : Nat := D64.word s (min ((e + 1074).toNat * BN + M) IR)
theorem makeW_top (s : Bool) (e : Int) (he : -1074 ≤ e) : makeW s (2 ^ 53) e = makeW s (2 ^ 52) (e + 1) := by
  have : (e + 1074).toNat * BN + 2 ^ 53 = (e + 1 + 1074).toNat * BN + 2 ^ 52 := by unfold BN; omega
  unfold makeW; rw [this]
theorem makeW_inf (s : Bool) (M : Nat) (e : Int) (h : 2 ^ 52 ≤ M) (he : 972 ≤ e) : makeW s M e = D64.word s IR := by
  have : min ((e + 1074).toNat * BN + M) IR = IR := by unfold BN IR; omega
  unfold makeW; rw [this]
theorem makeW_low (s : Bool) (M : Nat) (h : M < 2 ^ 52) : makeW s M (-1074) = D64.word s M := by
  have : min ((-1074 + 1074 : Int).toNat * BN + M) IR = M := by unfold BN IR; omega
  unfold makeW; rw [this]
theorem makeW_mid (s : Bool) (M : Nat) (e : Int) (h : 2 ^ 52 ≤ M) (h2 : M < 2 ^ 53) (he : -1074 ≤ e) (he2 : e < 972) : makeW s M e = D64.word s ((e + 1075).toNat * BN + M - BN) := by
  have : min ((e + 1074).toNat * BN + M) IR = (e + 1075).toNat * BN + M - BN := by unfold BN IR; omega
  unfold makeW; rw [this]
theorem rne_small (m t : Nat) (h : 2 * m < 2 ^ t) : rne m t = 0 := by
  have h1 : m < 2 ^ t := by omega
  unfold rne
  rw [Nat.div_eq_of_lt h1, Nat.mod_eq_of_lt h1]
  have f1 : decide (2 ^ t < 2 * m) = false := by simp; omega
  have f2 : decide (2 ^ t = 2 * m) = false := by simp; omega
  rw [f1, f2]; rfl
theorem nearest_low (s : Bool) (m : Nat) (e : Int) (h0 : m ≠ 0) (h1 : m < 2 ^ 53) (h2 : e ≤ -1128) : D64.nearest s m e = D64.word s 0 := by
  obtain ⟨t, ht⟩ : ∃ t : Nat, e + t = -1074 := ⟨(-1074 - e).toNat, by omega⟩
  rw [nearest_at s m e t h0 h1 (.inr (by omega)) (by omega) (fun _ => ht), ht, rne_small]
  · rfl
  · have := Nat.pow_le_pow_right (n := 2) (by decide) (show 54 ≤ t by omega); omega
theorem nearest_high (s : Bool) (m : Nat) (e : Int) (h0 : m ≠ 0) (h1 : m < 2 ^ 53) (h2 : 1024 ≤ e) : D64.nearest s m e = D64.word s IR := by
  obtain ⟨a, b⟩ := log2_spec m h0
  have hle : m.log2 ≤ 52 := log2_le_52 h0 h1
  rw [nearest_eq s m e h0]
  have hl : 972 ≤ lastP m e := by unfold lastP; omega
  by_cases h5 : 973 ≤ lastP m e
  · have : min ((lastP m e + 1074).toNat * BN + keptP m e) IR = IR := by unfold BN IR; omega
    rw [this]
  · have h6 : lastP m e = 972 := by omega
    have h7 : e = 1024 ∧ m.log2 = 0 := by unfold lastP at h6; omega
    have h8 : m = 1 := by have := h7.2; rw [this] at a b; omega
    have h9 := h7.1
    subst h8; subst h9
    have : (lastP 1 1024 + 1074).toNat * BN + keptP 1 1024 = IR := by decide +kernel
    rw [this]; simp
/-- Halved down to its place. -/
theorem nearest_hv (s : Bool) (m : Nat) (e : Int) (t : Nat) (h0 : m ≠ 0) (h1 : m < 2 ^ 53) (h2 : 2 ^ 52 ≤ m ∨ e ≤ -1074) (h3 : -1074 ≤ e + t) (h4 : t ≠ 0 → e + t = -1074) :
    D64.nearest s m e = makeW s (hvM m t + (hvH m t && (hvL m t || decide (hvM m t % 2 = 1))).toNat) (e + t) := by
  rw [nearest_at s m e t h0 h1 h2 h3 h4, hv_rne]; rfl
/-- The exponent, held. -/
def kcl (k : Int) : Int := max (min k 5000) (-5000)
/-- x times 2^k. -/
def fscale (x : Nat) (k : Int) : Nat := if pKind x = 0 ∧ pMag x ≠ 0 then D64.nearest (pNeg x) (pMag x) (pExp x + kcl k) else x
end Sedge
end
section
/-
  Plain: what math.Ldexp does to a number's word.
-/
set_option linter.unusedSimpArgs false
set_option linter.unusedVariables false
namespace Sedge
open Ieee
theorem BN_eq' : BN = 2 ^ 52 := by decide +kernel
theorem fmul_num {x y : Nat} {s t : Bool} {m n : Nat} {p q : Int} (hx : D64.read x = .number s m p) (hy : D64.read y = .number t n q) : fmul x y = D64.nearest (s ^^ t) (m * n) (p + q) := by
  unfold fmul Format.mul; rw [hx, hy]; rfl
theorem read_one : D64.read 4607182418800017408 = .number false 4503599627370496 (-52) := by decide +kernel
theorem read_m53 : D64.read 4368491638549381120 = .number false 4503599627370496 (-105) := by decide +kernel
theorem read_p52 : D64.read 4841369599423283200 = .number false 4503599627370496 0 := by decide +kernel
theorem read_mid (s : Bool) (X f : Nat) (h1 : 1 ≤ X) (h2 : X ≤ 2046) (hf : f < BN) : D64.read (D64.word s (X * BN + f)) = .number s (BN + f) ((X : Int) - 1075) := by
  have hb : X * BN + f < SW := by unfold BN SW at *; omega
  have hd : (X * BN + f) / BN = X := by rw [Nat.mul_comm, Nat.mul_add_div (by decide +kernel), Nat.div_eq_of_lt hf, Nat.add_zero]
  have hm : (X * BN + f) % BN = f := by rw [Nat.mul_comm, Nat.mul_add_mod, Nat.mod_eq_of_lt hf]
  rw [read_word s _ hb, if_neg (by unfold BN; omega), if_pos (by unfold IR BN at *; omega), hd, hm]
  congr 1
  omega
/-- The end of Ldexp, by 1. -/
theorem ld_end1 (s : Bool) (X f : Nat) (e : Int) (h1 : 1 ≤ X) (h2 : X ≤ 2046) (hf : f < BN) (he : (X : Int) = e + 1023) : fmul 4607182418800017408 (D64.word s (X * BN + f)) = D64.nearest s (BN + f) (e - 52) := by
  rw [fmul_num read_one (read_mid s X f h1 h2 hf), ← nearest_scale s (BN + f) 52 (e - 52) (by unfold BN; omega)]
  have a1 : 4503599627370496 * (BN + f) = (BN + f) * 2 ^ 52 := by rw [Nat.mul_comm]
  have a2 : (-52 : Int) + ((X : Int) - 1075) = e - 52 - (52 : Nat) := by omega
  rw [a1, a2]; simp
/-- The end of Ldexp, by 2^-53. -/
theorem ld_end2 (s : Bool) (X f : Nat) (e : Int) (h1 : 1 ≤ X) (h2 : X ≤ 2046) (hf : f < BN) (he : (X : Int) = e + 53 + 1023) : fmul 4368491638549381120 (D64.word s (X * BN + f)) = D64.nearest s (BN + f) (e - 52) := by
  rw [fmul_num read_m53 (read_mid s X f h1 h2 hf), ← nearest_scale s (BN + f) 52 (e - 52) (by unfold BN; omega)]
  have a1 : 4503599627370496 * (BN + f) = (BN + f) * 2 ^ 52 := by rw [Nat.mul_comm]
  have a2 : (-105 : Int) + ((X : Int) - 1075) = e - 52 - (52 : Nat) := by omega
  rw [a1, a2]; simp
theorem ld_low (s : Bool) (f : Nat) (e : Int) (hf : f < BN) (he : e < -1075) : D64.nearest s (BN + f) (e - 52) = D64.word s 0 :=
  nearest_low s _ _ (by unfold BN; omega) (by unfold BN at *; omega) (by omega)
theorem ld_high (s : Bool) (f : Nat) (e : Int) (hf : f < BN) (he : 1023 < e) : D64.nearest s (BN + f) (e - 52) = D64.word s IR := by
  have h := nearest_hv s (BN + f) (e - 52) 0 (by unfold BN; omega) (by unfold BN at *; omega) (.inl (by unfold BN; omega)) (by omega) (fun h => absurd rfl h)
  rw [h, (hv_zero _).1, (hv_zero _).2.1]
  simp only [Bool.false_and, Bool.toNat_false, Nat.add_zero, Int.natCast_zero, Int.add_zero]
  exact makeW_inf s _ _ (by unfold BN; omega) (by omega)
theorem kept_of {A L : Nat} {p : Int} (h : lastP A p = p + L) : keptP A p = rne A L := by
  unfold keptP; rw [h, show (p - (p + (L : Int))).toNat = 0 by omega, show (p + (L : Int) - p).toNat = L by omega, Nat.shiftLeft_zero]
/-- A finite number that isn't 0, made normal: its word, and what it stands for. -/
theorem normal_of {x : Nat} (hx : x < 2 ^ 64) (hk : pKind x = 0) (h0 : pMag x ≠ 0) (he : expo x ≠ 0) :
    ∃ X f, 1 ≤ X ∧ X ≤ 2046 ∧ f < BN ∧ x = D64.word (pNeg x) (X * BN + f) ∧ ∀ k : Int, D64.nearest (pNeg x) (pMag x) (pExp x + k) = D64.nearest (pNeg x) (BN + f) (k + X - 1023 - 52) := by
  have h1 := expo_lt x
  have h2 : expo x ≠ 2047 := by
    intro h; unfold pKind at hk; rw [if_pos h] at hk; split at hk <;> cases hk
  refine ⟨expo x, frac x, by omega, by omega, frac_lt x, ?_, fun k => ?_⟩
  · have hr := rung_eq x
    unfold Format.word
    simp only [signWeight_eq]
    unfold pNeg
    by_cases h : x / SW = 1
    · rw [if_pos (by simpa using h), ← hr]
      have := Nat.div_add_mod x SW
      rw [h] at this; omega
    · rw [if_neg (by simpa using h), ← hr]
      have h3 : x / SW = 0 := by unfold SW at *; omega
      have := Nat.div_add_mod x SW
      rw [h3] at this; omega
  · have e1 : pMag x = BN + frac x := by unfold pMag; rw [if_neg h2, if_neg he, Nat.add_comm]
    have e2 : pExp x = (expo x : Int) - 1075 := by unfold pExp; rw [if_neg h2, if_neg he]
    rw [e1, e2]; congr 1; omega
theorem normal_sub {x : Nat} (hx : x < 2 ^ 64) (hk : pKind x = 0) (h0 : pMag x ≠ 0) (he : expo x = 0) :
    ∃ X f, 1 ≤ X ∧ X ≤ 2046 ∧ f < BN ∧ fmul x 4841369599423283200 = D64.word (pNeg x) (X * BN + f) ∧ ∀ k : Int, D64.nearest (pNeg x) (pMag x) (pExp x + k) = D64.nearest (pNeg x) (BN + f) (k - 52 + X - 1023 - 52) := by
  have e1 : pMag x = frac x := by unfold pMag; rw [if_neg (by omega), if_pos he]
  have e2 : pExp x = -1074 := by unfold pExp; rw [if_neg (by omega), if_pos he]
  have hr : D64.read x = .number (pNeg x) (frac x) (-1074) := by rw [read_eq x hx, if_pos hk, e1, e2]
  obtain ⟨m, hm⟩ : ∃ m, m = frac x := ⟨_, rfl⟩
  have hm0 : m ≠ 0 := by rw [hm, ← e1]; exact h0
  have hmb : m < BN := by rw [hm]; exact frac_lt x
  rw [e1, e2, fmul_num hr read_p52, ← hm, Bool.xor_false]
  obtain ⟨a, b⟩ := log2_spec m hm0
  obtain ⟨L, hL⟩ : ∃ L, L = m.log2 := ⟨_, rfl⟩
  have hL51 : L ≤ 51 := by
    have : m < 2 ^ 52 := by rw [← BN_eq']; exact hmb
    have := (Nat.log2_lt hm0).2 this; omega
  rw [← hL] at a b
  have hp : 2 ^ L * 2 ^ (52 - L) = 2 ^ 52 := by rw [← Nat.pow_add]; congr 1; omega
  have hM1 : 2 ^ 52 ≤ m * 2 ^ (52 - L) := by rw [← hp]; exact Nat.mul_le_mul_right _ a
  have hM2 : m * 2 ^ (52 - L) < 2 ^ 53 := by
    have : m * 2 ^ (52 - L) < 2 ^ (L + 1) * 2 ^ (52 - L) := Nat.mul_lt_mul_of_pos_right b (Nat.two_pow_pos _)
    rw [← Nat.pow_add, show L + 1 + (52 - L) = 53 by omega] at this; exact this
  obtain ⟨f, hf⟩ : ∃ f, m * 2 ^ (52 - L) = BN + f := ⟨m * 2 ^ (52 - L) - BN, by rw [BN_eq']; omega⟩
  have hfb : f < BN := by rw [BN_eq'] at *; omega
  refine ⟨L + 1, f, by omega, by omega, hfb, ?_, fun k => ?_⟩
  · rw [Int.add_zero]
    have e3 : m * 4503599627370496 = m * 2 ^ 52 := by rw [show (2 : Nat) ^ 52 = 4503599627370496 from by decide]
    obtain ⟨A, hA⟩ : ∃ A, A = m * 4503599627370496 := ⟨_, rfl⟩
    have hA0 : A ≠ 0 := by omega
    have hA2 : A = (BN + f) * 2 ^ L := by rw [hA, e3, ← hf, Nat.mul_assoc, ← Nat.pow_add, show 52 - L + L = 52 by omega]
    have hAl : A.log2 = L + 52 := by rw [hA, e3, log2_mul_pow m 52 hm0, hL]
    rw [← hA]
    clear hA e3
    have hl : lastP A (-1074) = -1074 + L := by unfold lastP; rw [hAl]; push_cast; omega
    rw [nearest_eq _ _ _ hA0, kept_of hl, hl, hA2, rne_exact]
    have h3 : (-1074 + (L : Int) + 1074).toNat = L := by omega
    rw [h3]
    have h4 : L * BN + (BN + f) ≤ IR := by unfold IR BN at *; omega
    rw [Nat.min_eq_left h4]
    have h5 : (L + 1) * BN = L * BN + BN := Nat.succ_mul L BN
    rw [h5, Nat.add_assoc]
  · rw [← nearest_scale (pNeg x) m (52 - L) (-1074 + k) hm0, hf]
    congr 1
    omega
theorem shl_eq (m k : Nat) : m <<< k = m * 2 ^ k := Nat.shiftLeft_eq m k
theorem read_zero : D64.read 0 = .number false 0 (-1074) := by decide +kernel
theorem read_min : D64.read 4503599627370496 = .number false 4503599627370496 (-1074) := by decide +kernel
theorem read_max : D64.read 9218868437227405311 = .number false 9007199254740991 971 := by decide +kernel
theorem pExp_ge (b : Nat) (hk : pKind b = 0) : -1074 ≤ pExp b ∧ pExp b ≤ 971 := by
  have h1 := expo_lt b
  have h2 : expo b ≠ 2047 := by
    intro h; unfold pKind at hk; rw [if_pos h] at hk; split at hk <;> cases hk
  unfold pExp; rw [if_neg h2]; split <;> omega
theorem pMag_lt (b : Nat) : pMag b < 2 ^ 53 := by
  have := frac_lt' b
  unfold pMag BN; split
  · decide
  · split <;> omega
theorem cmp_lt (a b : Int) : (compare a b == Ordering.lt) = decide (a < b) := by
  simp only [compare, compareOfLessAndEq]
  by_cases h : a < b
  · simp [h]
  · by_cases h2 : a = b <;> simp [h, h2]
theorem cmp_eq (a b : Int) : (compare a b == Ordering.eq) = decide (a = b) := by
  simp only [compare, compareOfLessAndEq]
  by_cases h : a < b
  · have : a ≠ b := by omega
    simp [h, this]
  · by_cases h2 : a = b <;> simp [h, h2]
theorem cmp_gt (a b : Int) : (compare a b == Ordering.gt) = decide (b < a) := by
  simp only [compare, compareOfLessAndEq]
  by_cases h : a < b
  · have : ¬ b < a := by omega
    simp [h, this]
  · by_cases h2 : a = b
    · simp [h2]
    · have : b < a := by omega
      simp [h, h2, this]
theorem some_beq (a b : Ordering) : (some a == some b) = (a == b) := rfl
theorem ord_zero (b : Nat) (hb : b < 2 ^ 64) (hk : pKind b = 0) : D64.order b 0 = some (compare (signed (pNeg b) (pMag b) (pExp b + 1074).toNat) 0) := by
  have h1 := pExp_ge b hk
  unfold Format.order
  rw [read_eq b hb, if_pos hk, read_zero]
  simp only [Datum.order]
  rw [show min (pExp b) (-1074 : Int) = -1074 by omega, show (pExp b - -1074).toNat = (pExp b + 1074).toNat by congr 1]
  have : signed false 0 ((-1074 : Int) - -1074).toNat = 0 := by decide
  rw [this]
theorem signed_zero_iff (s : Bool) (m k : Nat) : signed s m k = 0 ↔ m = 0 := by
  have hp := Nat.two_pow_pos k
  unfold signed
  rw [shl_eq]
  have h : m * 2 ^ k = 0 ↔ m = 0 := ⟨fun h => (Nat.mul_eq_zero.1 h).resolve_right (by omega), fun h => by rw [h, Nat.zero_mul]⟩
  rw [← h]
  generalize m * 2 ^ k = q
  cases s
  · rw [if_neg (by decide)]; omega
  · rw [if_pos rfl]; omega
theorem ord_zero_eq (b : Nat) (hb : b < 2 ^ 64) (hk : pKind b = 0) : (D64.order b 0 == some .eq) = decide (pMag b = 0) := by
  rw [ord_zero b hb hk, some_beq, cmp_eq, Bool.eq_iff_iff, decide_eq_true_eq, decide_eq_true_eq]
  exact signed_zero_iff _ _ _
theorem ord_zero_lt (b : Nat) (hb : b < 2 ^ 64) (hk : pKind b = 0) (h0 : pMag b ≠ 0) : (D64.order b 0 == some .lt) = pNeg b := by
  rw [ord_zero b hb hk, some_beq, cmp_lt, Bool.eq_iff_iff, decide_eq_true_eq]
  have hz : signed (pNeg b) (pMag b) (pExp b + 1074).toNat ≠ 0 := fun h => h0 ((signed_zero_iff _ _ _).1 h)
  unfold signed at *
  rw [shl_eq] at *
  generalize pMag b * 2 ^ (pExp b + 1074).toNat = q at *
  generalize pNeg b = s at *
  cases s
  · rw [if_neg (by decide)] at hz ⊢; simp
  · rw [if_pos rfl] at hz ⊢; simp; omega
theorem pNeg_abs (b : Nat) : pNeg (fabs b) = false := by
  unfold pNeg fabs
  rw [decide_eq_false_iff_not, Nat.div_eq_of_lt (Nat.mod_lt _ (by decide))]; decide
theorem parts_abs (b : Nat) : pKind (fabs b) = pKind b ∧ pMag (fabs b) = pMag b ∧ pExp (fabs b) = pExp b := by
  unfold pKind pMag pExp fabs; rw [(kind_abs b).1, (kind_abs b).2]; exact ⟨rfl, rfl, rfl⟩
/-- Below the least normal one. -/
theorem ord_min (b : Nat) (hb : b < 2 ^ 64) (hk : pKind b = 0) : (D64.order (fabs b) 4503599627370496 == some .lt) = decide (expo b = 0) := by
  have hb' : fabs b < 2 ^ 64 := Nat.lt_of_le_of_lt (Nat.mod_le _ _) hb
  obtain ⟨k1, k2, k3⟩ := parts_abs b
  have h1 := pExp_ge b hk
  have h2 : expo b ≠ 2047 := by
    intro h; unfold pKind at hk; rw [if_pos h] at hk; split at hk <;> cases hk
  have hf := frac_lt' b
  unfold Format.order
  rw [read_eq _ hb', k1, if_pos hk, read_min, pNeg_abs, k2, k3]
  simp only [Datum.order]
  rw [show min (pExp b) (-1074 : Int) = -1074 by omega, some_beq, cmp_lt, Bool.eq_iff_iff, decide_eq_true_eq, decide_eq_true_eq]
  unfold signed
  simp only [Bool.false_eq_true, if_false, shl_eq]
  have e1 : ((-1074 : Int) - -1074).toNat = 0 := by decide
  rw [e1]
  by_cases he : expo b = 0
  · have m1 : pMag b = frac b := by unfold pMag; rw [if_neg h2, if_pos he]
    have m2 : pExp b = -1074 := by unfold pExp; rw [if_neg h2, if_pos he]
    rw [m1, m2, e1]
    refine ⟨fun _ => he, fun _ => ?_⟩
    rw [Nat.pow_zero, Nat.mul_one, Nat.mul_one]; omega
  · have m1 : pMag b = frac b + BN := by unfold pMag; rw [if_neg h2, if_neg he]
    have hp := Nat.two_pow_pos (pExp b - -1074).toNat
    have : pMag b * 1 ≤ pMag b * 2 ^ (pExp b - -1074).toNat := Nat.mul_le_mul_left _ hp
    unfold BN at m1
    constructor
    · intro h; exfalso; rw [Nat.pow_zero, Nat.mul_one] at h; omega
    · intro h; exact absurd h he
/-- Above the greatest one: infinite. -/
theorem ord_max (b : Nat) (hb : b < 2 ^ 64) : (D64.order (fabs b) 9218868437227405311 == some .gt) = decide (pKind b = 1) := by
  have hb' : fabs b < 2 ^ 64 := Nat.lt_of_le_of_lt (Nat.mod_le _ _) hb
  obtain ⟨k1, k2, k3⟩ := parts_abs b
  unfold Format.order
  rw [read_eq _ hb', k1, read_max, pNeg_abs, k2, k3]
  by_cases h0 : pKind b = 0
  · have h1 := pExp_ge b h0
    have hm := pMag_lt b
    rw [if_pos h0]
    simp only [Datum.order]
    rw [show min (pExp b) (971 : Int) = pExp b by omega, some_beq, cmp_gt, Bool.eq_iff_iff, decide_eq_true_eq, decide_eq_true_eq]
    unfold signed
    simp only [Bool.false_eq_true, if_false, shl_eq]
    rw [show (pExp b - pExp b).toNat = 0 by omega]
    have hp := Nat.two_pow_pos (971 - pExp b).toNat
    have : 9007199254740991 * 1 ≤ 9007199254740991 * 2 ^ (971 - pExp b).toNat := Nat.mul_le_mul_left _ hp
    constructor
    · intro h; exfalso; rw [Nat.pow_zero, Nat.mul_one] at h; omega
    · intro h; omega
  · rw [if_neg h0]
    by_cases h1 : pKind b = 1
    · rw [if_pos h1]; simp [Datum.order, h1]
    · rw [if_neg h1]; simp [Datum.order, h1]
end Sedge
end
