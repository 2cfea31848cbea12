/-
  Contract: ger.Ger, all its ways.
-/
import Derived.Test.YtcmggfpcbijcjaaGer2
set_option linter.unusedSimpArgs false
set_option linter.unusedVariables false
open Go Go.RowKit Sedge
namespace Go.Proofs.Ytcmggfpcbijcjaa
set_option maxRecDepth 100000 in
set_option maxHeartbeats 4000000 in
theorem ger_ok (x y : VecM) (m : MatM) (bx cx bz cz g cg a : Nat) (w : World) (hX : FS w (.slice (some ⟨bx, 0, none⟩) x.ws.length cx) x.ws) (hY : FS w (.slice (some ⟨bz, 0, none⟩) y.ws.length cz) y.ws) (hM : FS w (.slice (some ⟨g, 0, none⟩) m.ws.length cg) m.ws) (hPx : Plain w bx) (hPy : Plain w bz) (hPm : Plain w g) (α : Nat) (ha : IsF a α) (hF : FW w g m.ws) (H : GerC x y m bx cx bz cz g cg true true true false false) (h1 : x.right = true) (h2 : y.right = true) (h3 : m.good = true) (h4 : x.n = m.rows) (h5 : y.n = m.cols) (h6 : meetM (rowM x) m (decide (bx = g)) = false) (h7 : meetM (rowM y) m (decide (bz = g)) = false)
    (hxg : bx = g → x.ws = m.ws) (hyg : bz = g → y.ws = m.ws) (hwm : m.wf) (hlx : x.ws.length ≤ 1000000) (hly : y.ws.length ≤ 1000000) (hlm : m.ws.length ≤ 1000000) (hr : m.rows ≤ 1000) (hc : m.cols ≤ 1000) (kbx : bx < w.heap.size) (kbz : bz < w.heap.size) :
    Calls Try.prog 55 #[.float .f64 a, .agg #[.slice (some ⟨bx, 0, none⟩) x.ws.length cx, .int .i64 x.off, .int .i64 x.n, .int .i64 x.inc], .agg #[.slice (some ⟨bz, 0, none⟩) y.ws.length cz, .int .i64 y.off, .int .i64 y.n, .int .i64 y.inc], .agg #[.slice (some ⟨g, 0, none⟩) m.ws.length cg, .int .i64 m.off, .int .i64 m.rows, .int .i64 m.cols, .int .i64 m.ld]] w (fun e w' => e = .returned (.int .i64 0) ∧ But w [g] w' ∧ ∃ L, FW w' g L ∧ Hold m.place m.rows.toNat m.cols.toNat m.ws L (fun i j => gerF α x y i j (m.num i j))) := by
  have d4 : (x.n != m.rows) = false := by simpa using h4
  have d5 : (y.n != m.cols) = false := by simpa using h5
  have hX' := hid h1
  have hY' := hid h2
  have hM' := hid h3
  have M6 := hid h6
  have M7 := hid h7
  have H4 := hid h4
  have hltg := hF.lt
  have H5 := hid h5
  have Hwm := hid hwm
  have HXG := hid hxg
  have HYG := hid hyg
  clear h1 h2 h3 h4 h5 h6 h7 hwm hxg hyg
  have hmf := hmf
  go_enter Try.func55, Try.ntmps55
  refine seq_stop ?_
  go_wp2
  refine stop_go (fun W hW => ?_)
  have s1 : w.heap.size < W.heap.size := by rw [hW]; simp only [World.size_alloc]; omega
  have b1 : ∀ i, W.cell? ⟨w.heap.size, i, none⟩ = (#[.float .f64 a] : Array Value)[i]? := by intro i; rw [hW]; go_simp
  have s2 : w.heap.size + 1 < W.heap.size := by rw [hW]; simp only [World.size_alloc]; omega
  have b2 : ∀ i, W.cell? ⟨w.heap.size + 1, i, none⟩ = (#[.slice (some ⟨bx, 0, none⟩) x.ws.length cx, .int .i64 x.off, .int .i64 x.n, .int .i64 x.inc] : Array Value)[i]? := by intro i; rw [hW]; go_simp
  have s3 : w.heap.size + 1 + 1 < W.heap.size := by rw [hW]; simp only [World.size_alloc]; omega
  have b3 : ∀ i, W.cell? ⟨w.heap.size + 1 + 1, i, none⟩ = (#[.slice (some ⟨bz, 0, none⟩) y.ws.length cz, .int .i64 y.off, .int .i64 y.n, .int .i64 y.inc] : Array Value)[i]? := by intro i; rw [hW]; go_simp
  have s4 : w.heap.size + 1 + 1 + 1 < W.heap.size := by rw [hW]; simp only [World.size_alloc]; omega
  have b4 : ∀ i, W.cell? ⟨w.heap.size + 1 + 1 + 1, i, none⟩ = (#[.slice (some ⟨g, 0, none⟩) m.ws.length cg, .int .i64 m.off, .int .i64 m.rows, .int .i64 m.cols, .int .i64 m.ld] : Array Value)[i]? := by intro i; rw [hW]; go_simp
  have g0 : Grew w W := by rw [hW]; exact ((((Grew.refl _).alloc _).alloc _).alloc _).alloc _
  clear hW
  have hXW := hX.grew g0
  have hYW := hY.grew g0
  have hMW := hM.grew g0
  go_wp2_with (first | (go_at_call 135; ((with_reducible refine (H.Rx _ ?_).mono ?_); (focus (first | (with_reducible assumption) | (with_reducible refine FS.ext ?_ _ _; with_reducible assumption) | (with_reducible refine IS.ext ?_ _ _; with_reducible assumption) | (refine hDu _ ?_; with_reducible assumption) | (refine hOu _ ?_; with_reducible assumption) | (refine hDa _ ?_; with_reducible assumption) | (refine hDb _ ?_; with_reducible assumption) | (refine hDc _ ?_; with_reducible assumption) | (refine hDd _ ?_; with_reducible assumption) | (refine FW.fs ?_ (by omega) _; with_reducible assumption) | (refine WS.fs ?_; with_reducible assumption) | (refine FW.fs ?_ (by omega) _; assumption) | omega | assumption)); rintro e w1 ⟨rfl, oa, na, rfl⟩)) | (go_at_call 135; ((with_reducible refine (H.Ry _ ?_).mono ?_); (focus (first | (with_reducible assumption) | (with_reducible refine FS.ext ?_ _ _; with_reducible assumption) | (with_reducible refine IS.ext ?_ _ _; with_reducible assumption) | (refine hDu _ ?_; with_reducible assumption) | (refine hOu _ ?_; with_reducible assumption) | (refine hDa _ ?_; with_reducible assumption) | (refine hDb _ ?_; with_reducible assumption) | (refine hDc _ ?_; with_reducible assumption) | (refine hDd _ ?_; with_reducible assumption) | (refine FW.fs ?_ (by omega) _; with_reducible assumption) | (refine WS.fs ?_; with_reducible assumption) | (refine FW.fs ?_ (by omega) _; assumption) | omega | assumption)); rintro e w1 ⟨rfl, ob, nb, rfl⟩)) | (go_at_call 130; ((with_reducible refine (H.G _ ?_).mono ?_); (focus (first | (with_reducible assumption) | (with_reducible refine FS.ext ?_ _ _; with_reducible assumption) | (with_reducible refine IS.ext ?_ _ _; with_reducible assumption) | (refine hDu _ ?_; with_reducible assumption) | (refine hOu _ ?_; with_reducible assumption) | (refine hDa _ ?_; with_reducible assumption) | (refine hDb _ ?_; with_reducible assumption) | (refine hDc _ ?_; with_reducible assumption) | (refine hDd _ ?_; with_reducible assumption) | (refine FW.fs ?_ (by omega) _; with_reducible assumption) | (refine WS.fs ?_; with_reducible assumption) | (refine FW.fs ?_ (by omega) _; assumption) | omega | assumption)); rintro e w1 ⟨rfl, oc, nc, rfl⟩)))
  refine wp_region_R (Grew W) [] [(0,0), (0,2), (1,1), (1,3), (0,4), (0,5), (0,7), (1,6), (1,8), (0,9), (0,10)] (by kernel_rfl) (by kernel_rfl) (fun _ _ _ _ h _ => h) (by first | exact ⟨_, _, ext_drew⟩ | exact ⟨_, _, drew_ext0⟩) ?_
  go_wp2_with (first | ((with_reducible refine wpR_id ?_); first | (refine wpR_take (v := ?_) rfl rfl ?_ ?_; rotate_left; (focus (rintro w' ⟨o', n', rfl⟩; go_simp; try with_reducible rfl)); simp only [Act.put, List.setIfInBounds_toArray, List.set_cons_zero, List.set_cons_succ]) | (refine wpR_pure (v := ?_) rfl rfl ?_ ?_; rotate_left; (focus (intro w'; go_simp; try with_reducible rfl)); simp only [Act.put, List.setIfInBounds_toArray, List.set_cons_zero, List.set_cons_succ]) | (refine wpR_takeG (v := ?_) rfl rfl rfl rfl rfl ?_ ?_; rotate_left; (focus (rintro w' ⟨o', n', rfl⟩; go_simp; try with_reducible rfl)); simp only [Act.put, List.setIfInBounds_toArray, List.set_cons_zero, List.set_cons_succ]) | (refine wpR_skip rfl rfl rfl rfl rfl rfl ?_; simp only [Act.put, List.setIfInBounds_toArray, List.set_cons_zero, List.set_cons_succ]) | (refine wpR_skipU rfl rfl rfl rfl rfl ?_; simp only [Act.put, List.setIfInBounds_toArray, List.set_cons_zero, List.set_cons_succ]) | (refine wpR_do rfl rfl (fun K hK => ?_)) | (refine wpR_doG rfl rfl rfl rfl rfl (fun K hK => ?_)) | (refine wpR_last rfl rfl (fun K hK => ?_)) | (refine wpR_nil ?_)) | ((with_reducible refine wpR_go ?_ ?_); (focus exact ⟨_, _, rfl⟩)) | ((with_reducible refine upon_id ?_); refine upon_fop rfl (by assumption) (by assumption) ?_; intro rr nn hr) | (go_at_call 137; ((with_reducible refine (grow_any x _ _ _ _).mono ?_); rintro e w1 ⟨rfl, od, nd, rfl⟩)) | (go_at_call 137; ((with_reducible refine (grow_any y _ _ _ _).mono ?_); rintro e w1 ⟨rfl, od, nd, rfl⟩)) | (go_at_call 136; ((with_reducible refine (H.Mx _ ?_ ?_ (hPx.grew (by (show Grew _ _; repeat (first | (with_reducible exact Grew.refl _) | (with_reducible assumption) | (with_reducible refine Grew.ext ?_ _ _) | (with_reducible refine Grew.alloc ?_ _) | ((with_reducible refine Grew.setCell ?_ ?_ _); rotate_left; (focus (dsimp only; first | omega | (simp only [size_ext, World.size_alloc, Array.size_append]; omega)))) | (with_reducible refine Grew.drewN ?_ _) | (with_reducible refine Grew.drew ?_))))) (hPm.grew (by (show Grew _ _; repeat (first | (with_reducible exact Grew.refl _) | (with_reducible assumption) | (with_reducible refine Grew.ext ?_ _ _) | (with_reducible refine Grew.alloc ?_ _) | ((with_reducible refine Grew.setCell ?_ ?_ _); rotate_left; (focus (dsimp only; first | omega | (simp only [size_ext, World.size_alloc, Array.size_append]; omega)))) | (with_reducible refine Grew.drewN ?_ _) | (with_reducible refine Grew.drew ?_)))))).mono ?_); (focus (first | (with_reducible assumption) | (with_reducible refine FS.ext ?_ _ _; with_reducible assumption) | (with_reducible refine IS.ext ?_ _ _; with_reducible assumption) | (refine hDu _ ?_; with_reducible assumption) | (refine hOu _ ?_; with_reducible assumption) | (refine hDa _ ?_; with_reducible assumption) | (refine hDb _ ?_; with_reducible assumption) | (refine hDc _ ?_; with_reducible assumption) | (refine hDd _ ?_; with_reducible assumption) | (refine FW.fs ?_ (by omega) _; with_reducible assumption) | (refine WS.fs ?_; with_reducible assumption) | (refine FW.fs ?_ (by omega) _; assumption) | omega | assumption)); (focus (first | (with_reducible assumption) | (with_reducible refine FS.ext ?_ _ _; with_reducible assumption) | (with_reducible refine IS.ext ?_ _ _; with_reducible assumption) | (refine hDu _ ?_; with_reducible assumption) | (refine hOu _ ?_; with_reducible assumption) | (refine hDa _ ?_; with_reducible assumption) | (refine hDb _ ?_; with_reducible assumption) | (refine hDc _ ?_; with_reducible assumption) | (refine hDd _ ?_; with_reducible assumption) | (refine FW.fs ?_ (by omega) _; with_reducible assumption) | (refine WS.fs ?_; with_reducible assumption) | (refine FW.fs ?_ (by omega) _; assumption) | omega | assumption)); rintro e w1 ⟨rfl, oe, ne, rfl⟩)) | (go_at_call 136; ((with_reducible refine (H.My _ ?_ ?_ (hPy.grew (by (show Grew _ _; repeat (first | (with_reducible exact Grew.refl _) | (with_reducible assumption) | (with_reducible refine Grew.ext ?_ _ _) | (with_reducible refine Grew.alloc ?_ _) | ((with_reducible refine Grew.setCell ?_ ?_ _); rotate_left; (focus (dsimp only; first | omega | (simp only [size_ext, World.size_alloc, Array.size_append]; omega)))) | (with_reducible refine Grew.drewN ?_ _) | (with_reducible refine Grew.drew ?_))))) (hPm.grew (by (show Grew _ _; repeat (first | (with_reducible exact Grew.refl _) | (with_reducible assumption) | (with_reducible refine Grew.ext ?_ _ _) | (with_reducible refine Grew.alloc ?_ _) | ((with_reducible refine Grew.setCell ?_ ?_ _); rotate_left; (focus (dsimp only; first | omega | (simp only [size_ext, World.size_alloc, Array.size_append]; omega)))) | (with_reducible refine Grew.drewN ?_ _) | (with_reducible refine Grew.drew ?_)))))).mono ?_); (focus (first | (with_reducible assumption) | (with_reducible refine FS.ext ?_ _ _; with_reducible assumption) | (with_reducible refine IS.ext ?_ _ _; with_reducible assumption) | (refine hDu _ ?_; with_reducible assumption) | (refine hOu _ ?_; with_reducible assumption) | (refine hDa _ ?_; with_reducible assumption) | (refine hDb _ ?_; with_reducible assumption) | (refine hDc _ ?_; with_reducible assumption) | (refine hDd _ ?_; with_reducible assumption) | (refine FW.fs ?_ (by omega) _; with_reducible assumption) | (refine WS.fs ?_; with_reducible assumption) | (refine FW.fs ?_ (by omega) _; assumption) | omega | assumption)); (focus (first | (with_reducible assumption) | (with_reducible refine FS.ext ?_ _ _; with_reducible assumption) | (with_reducible refine IS.ext ?_ _ _; with_reducible assumption) | (refine hDu _ ?_; with_reducible assumption) | (refine hOu _ ?_; with_reducible assumption) | (refine hDa _ ?_; with_reducible assumption) | (refine hDb _ ?_; with_reducible assumption) | (refine hDc _ ?_; with_reducible assumption) | (refine hDd _ ?_; with_reducible assumption) | (refine FW.fs ?_ (by omega) _; with_reducible assumption) | (refine WS.fs ?_; with_reducible assumption) | (refine FW.fs ?_ (by omega) _; assumption) | omega | assumption)); rintro e w1 ⟨rfl, of, nf, rfl⟩)))
  refine name_call (fun V hV => ?_)
  have gV : Grew W V := by rw [← hV]; (show Grew _ _; repeat (first | (with_reducible exact Grew.refl _) | (with_reducible assumption) | (with_reducible refine Grew.ext ?_ _ _) | (with_reducible refine Grew.alloc ?_ _) | ((with_reducible refine Grew.setCell ?_ ?_ _); rotate_left; (focus (dsimp only; first | omega | (simp only [size_ext, World.size_alloc, Array.size_append]; omega)))) | (with_reducible refine Grew.drewN ?_ _) | (with_reducible refine Grew.drew ?_)))
  have gw : Grew w V := g0.trans gV
  have zw := g0.below.size
  have zV := gV.below.size
  have ca := fun i => (gV.cell s1).trans (b1 i)
  have cx' := fun i => (gV.cell s2).trans (b2 i)
  have cy' := fun i => (gV.cell s3).trans (b3 i)
  clear hV
  have hdo : DoesAt V m g (.pointer (some ⟨w.heap.size, 0, none⟩)) (.pointer (some ⟨w.heap.size + 1 + 1, 0, none⟩)) (.pointer (some ⟨w.heap.size + 1, 0, none⟩)) (gerF α x y) := by
    intro w' L s hB hL hH i j hi hj
    have hBw : But w [g] w' := ((But.refl w [g]).grew gw).trans hB (fun _ hb => .inl hb)
    have hix : (i : Int) < x.n := by rw [H4.out]; exact hi
    have hjy : (j : Int) < y.n := by rw [H5.out]; exact hj
    obtain ⟨rx, e1, e2⟩ := rd_num m x g bx cx w w' L s hM'.out hX'.out HXG.out M6.out hX hBw hL hH i hix
    obtain ⟨ry, e3, e4⟩ := rd_num m y g bz cz w w' L s hM'.out hY'.out HYG.out M7.out hY hBw hL hH j hjy
    obtain ⟨r0, e5, e6⟩ := hL.get (i := m.place i j) (by rw [hH.len]; exact (MatM.places hM'.out).lt i j (by omega) (by omega))
    rw [hH.get i j (by omega) (by omega)] at e6
    have sB := hB.size
    have hgl := hL.lt
    have ep : (m.off + j * m.ld + i).toNat = m.place i j := by unfold MatM.place; congr 1; omega
    rw [ep]
    refine (gcl_any i j g (m.place i j) a α x y w.heap.size (w.heap.size + 1 + 1) (w.heap.size + 1) bx cx bz cz w' (fun i => (hB.cell (by omega) (by simp; omega)).trans (ca i)) ha (fun i => (hB.cell (by omega) (by simp; omega)).trans (cy' i)) (fun i => (hB.cell (by omega) (by simp; omega)).trans (cx' i)) (by omega) (by omega) (by omega) (by have := hBw.size; omega) (by have := hBw.size; omega) hgl hX'.out hY'.out hix hjy hlx hly rx ry r0 _ _ _ e1 e2 e3 e4 e5 e6 hL.notFrozen).mono fun e w2 hh => ?_
    obtain ⟨rfl, r, hr, o, n, rfl⟩ := hh
    exact ⟨rfl, (hL.wrote (k := m.place i j) hr).grew_r ⟨_, _, rfl⟩⟩
  have hFV := hF.grew gw
  have hea : Calls Try.prog 138 #[.agg #[.slice (some ⟨g, 0, none⟩) m.ws.length cg, .int .i64 m.off, .int .i64 m.rows, .int .i64 m.cols, .int .i64 m.ld], .func (.func 139) #[] #[.pointer (some ⟨w.heap.size, 0, none⟩), .pointer (some ⟨w.heap.size + 1 + 1, 0, none⟩), .pointer (some ⟨w.heap.size + 1, 0, none⟩)]] V (fun e w' => e = .returned (.tuple #[]) ∧ But V [g] w' ∧ ∃ L, FW w' g L ∧ Hold m.place m.rows.toNat m.cols.toNat m.ws L (fun i j => gerF α x y i j (m.num i j))) :=
    each_any m g cg _ _ _ _ V hFV hM'.out Hwm.out hlm hr hc hdo
  refine hea.mono ?_
  rintro e w1 ⟨rfl, hB1, L, hL, hH⟩
  go_wp2
  go_ret
  exact ⟨rfl, ((But.refl w [g]).grew gw).trans hB1 (fun _ hb => .inl hb), L, hL, hH⟩
/-- ger.Ger. -/
theorem ger_any (x y : VecM) (m : MatM) (bx cx bz cz g cg a : Nat) (w : World) (hX : FS w (.slice (some ⟨bx, 0, none⟩) x.ws.length cx) x.ws) (hY : FS w (.slice (some ⟨bz, 0, none⟩) y.ws.length cz) y.ws) (hM : FS w (.slice (some ⟨g, 0, none⟩) m.ws.length cg) m.ws) (hPx : Plain w bx) (hPy : Plain w bz) (hPm : Plain w g) (α : Nat) (ha : IsF a α) (hF : FW w g m.ws) (hxg : bx = g → x.ws = m.ws) (hyg : bz = g → y.ws = m.ws) (hwx : x.wf) (hwy : y.wf) (hwm : m.wf) (hlx : x.ws.length ≤ 1000000) (hly : y.ws.length ≤ 1000000) (hlm : m.ws.length ≤ 1000000) (hr : m.rows ≤ 1000) (hc : m.cols ≤ 1000) (kbx : bx < w.heap.size) (kbz : bz < w.heap.size) :
    Calls Try.prog 55 #[.float .f64 a, .agg #[.slice (some ⟨bx, 0, none⟩) x.ws.length cx, .int .i64 x.off, .int .i64 x.n, .int .i64 x.inc], .agg #[.slice (some ⟨bz, 0, none⟩) y.ws.length cz, .int .i64 y.off, .int .i64 y.n, .int .i64 y.inc], .agg #[.slice (some ⟨g, 0, none⟩) m.ws.length cg, .int .i64 m.off, .int .i64 m.rows, .int .i64 m.cols, .int .i64 m.ld]] w (fun e w' => e = .returned (.int .i64 (gerE x y m (decide (bx = g)) (decide (bz = g)))) ∧ But w [g] w' ∧ ∃ L, FW w' g L ∧ (gerE x y m (decide (bx = g)) (decide (bz = g)) ≠ 0 → L = m.ws) ∧
       (gerE x y m (decide (bx = g)) (decide (bz = g)) = 0 → Hold m.place m.rows.toNat m.cols.toNat m.ws L (fun i j => gerF α x y i j (m.num i j)))) := by
  have H := gerC x y m bx cx bz cz g cg hwx hwy hwm hlx hly hlm
  obtain ⟨E, hE⟩ : ∃ E, E = gerE x y m (decide (bx = g)) (decide (bz = g)) := ⟨_, rfl⟩
  have out : ∀ E0 : Int, E0 ≠ 0 → E = E0 → Calls Try.prog 55 #[.float .f64 a, .agg #[.slice (some ⟨bx, 0, none⟩) x.ws.length cx, .int .i64 x.off, .int .i64 x.n, .int .i64 x.inc], .agg #[.slice (some ⟨bz, 0, none⟩) y.ws.length cz, .int .i64 y.off, .int .i64 y.n, .int .i64 y.inc], .agg #[.slice (some ⟨g, 0, none⟩) m.ws.length cg, .int .i64 m.off, .int .i64 m.rows, .int .i64 m.cols, .int .i64 m.ld]] w (fun e w' => e = .returned (.int .i64 E0) ∧ ∃ o n, w' = ext w o n) → Calls Try.prog 55 #[.float .f64 a, .agg #[.slice (some ⟨bx, 0, none⟩) x.ws.length cx, .int .i64 x.off, .int .i64 x.n, .int .i64 x.inc], .agg #[.slice (some ⟨bz, 0, none⟩) y.ws.length cz, .int .i64 y.off, .int .i64 y.n, .int .i64 y.inc], .agg #[.slice (some ⟨g, 0, none⟩) m.ws.length cg, .int .i64 m.off, .int .i64 m.rows, .int .i64 m.cols, .int .i64 m.ld]] w (fun e w' => e = .returned (.int .i64 E) ∧ But w [g] w' ∧ ∃ L, FW w' g L ∧ (E ≠ 0 → L = m.ws) ∧ (E = 0 → Hold m.place m.rows.toNat m.cols.toNat m.ws L (fun i j => gerF α x y i j (m.num i j)))) := by
    intro E0 h0 h1 h
    subst h1
    refine h.mono fun e w' hh => ⟨hh.1, (But.refl w [g]).grew hh.2, m.ws, hF.grew hh.2, fun _ => rfl, fun h => absurd h h0⟩
  rw [← hE]
  unfold gerE at hE
  cases h1 : x.right
  · rw [h1] at H
    exact out 1 (by decide) (by rw [hE, if_pos (.inl h1)]) (ger_o1 x y m bx cx bz cz g cg a w hX hY hM hPx hPy hPm _ _ _ _ H)
  · rw [h1] at H
    cases h2 : y.right
    · rw [h2] at H
      exact out 1 (by decide) (by rw [hE, if_pos (.inr (.inl h2))]) (ger_o2 x y m bx cx bz cz g cg a w hX hY hM hPx hPy hPm _ _ _ H)
    · rw [h2] at H
      cases h3 : m.good
      · rw [h3] at H
        exact out 1 (by decide) (by rw [hE, if_pos (.inr (.inr h3))]) (ger_o3 x y m bx cx bz cz g cg a w hX hY hM hPx hPy hPm _ _ H)
      · rw [h3] at H
        have n1 : ¬ (x.right = false ∨ y.right = false ∨ m.good = false) := by rw [h1, h2, h3]; simp
        rw [if_neg n1] at hE
        by_cases h4 : x.n = m.rows
        · by_cases h5 : y.n = m.cols
          · have n2 : ¬ (x.n ≠ m.rows ∨ y.n ≠ m.cols) := by simp [h4, h5]
            rw [if_neg n2] at hE
            cases h6 : meetM (rowM x) m (decide (bx = g))
            · rw [h6] at H
              cases h7 : meetM (rowM y) m (decide (bz = g))
              · rw [h7] at H
                have e0 : E = 0 := by rw [hE, if_neg (by rw [h6, h7]; simp)]
                subst e0
                refine (ger_ok x y m bx cx bz cz g cg a w hX hY hM hPx hPy hPm α ha hF H h1 h2 h3 h4 h5 h6 h7 hxg hyg hwm hlx hly hlm hr hc kbx kbz).mono fun e w' hh => ?_
                obtain ⟨rfl, h8, L, h9, h10⟩ := hh
                exact ⟨rfl, h8, L, h9, fun h => absurd rfl h, fun _ => h10⟩
              · rw [h7] at H
                exact out 2 (by decide) (by rw [hE, if_pos (.inr h7)]) (ger_o7 x y m bx cx bz cz g cg a w hX hY hM hPx hPy hPm H h4 h5)
            · rw [h6] at H
              exact out 2 (by decide) (by rw [hE, if_pos (.inl h6)]) (ger_o6 x y m bx cx bz cz g cg a w hX hY hM hPx hPy hPm _ H h4 h5)
          · exact out 3 (by decide) (by rw [hE, if_pos (.inr h5)]) (ger_o5 x y m bx cx bz cz g cg a w hX hY hM hPx hPy hPm _ _ H h4 h5)
        · exact out 3 (by decide) (by rw [hE, if_pos (.inl h4)]) (ger_o4 x y m bx cx bz cz g cg a w hX hY hM hPx hPy hPm _ _ H h4)
end Go.Proofs.Ytcmggfpcbijcjaa
