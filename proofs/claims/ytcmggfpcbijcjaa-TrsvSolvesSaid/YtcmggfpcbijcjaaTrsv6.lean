/-
  Contract: trsv.Solve, of a system that is solved (kind 4).
-/
import Derived.Test.YtcmggfpcbijcjaaTrsv3
import Derived.Test.YtcmggfpcbijcjaaTrsvLaw2
import Derived.Test.YtcmggfpcbijcjaaSeg
set_option linter.unusedSimpArgs false
set_option linter.unusedVariables false
open Go Go.RowKit Sedge
namespace Go.Proofs.Ytcmggfpcbijcjaa
set_option maxRecDepth 100000 in
set_option maxHeartbeats 2000000 in
theorem solve_4 (m : MatM) (x : VecM) (a g ca cg : Nat) (w : World) (hD : FS w (.slice (some ⟨a, 0, none⟩) m.ws.length ca) m.ws) (hF : FW w g x.ws) (hPa : Plain w a) (hm : m.good = true) (hx : x.right = true) (hwm : m.wf) (hwx : x.wf)
    (hsq : m.rows = m.cols) (hn : m.rows = x.n) (hr : m.rows ≤ 1000) (hlm : m.ws.length ≤ 1000000) (hlx : x.ws.length ≤ 1000000) (hmeet : meetM (rowM x) m (decide (g = a)) = false) (hz : zeroTo 4 m m.rows.toNat = false)
    (hat : ∀ w' L s, But w [g] w' → FW w' g L → VH x L s → ∀ i j : Nat, (i : Int) < m.rows → (j : Int) < m.rows → Calls Try.prog 155 #[.agg #[.slice (some ⟨a, 0, none⟩) m.ws.length ca, .int .i64 m.off, .int .i64 m.rows, .int .i64 m.cols, .int .i64 m.ld, .slice (some ⟨g, 0, none⟩) x.ws.length cg, .int .i64 x.off, .int .i64 x.n, .int .i64 x.inc], .int .i64 i, .int .i64 j] w'
      (fun e w2 => ∃ r, e = .returned (.float .f64 r) ∧ IsF r (m.num i j) ∧ ∃ o n, w2 = ext w' o n)) :
   Calls Try.prog 79 #[.int .i64 4, .agg #[.slice (some ⟨a, 0, none⟩) m.ws.length ca, .int .i64 m.off, .int .i64 m.rows, .int .i64 m.cols, .int .i64 m.ld], .agg #[.slice (some ⟨g, 0, none⟩) x.ws.length cg, .int .i64 x.off, .int .i64 x.n, .int .i64 x.inc]] w
     (fun e w' => e = .returned (.int .i64 0) ∧ But w [g] w' ∧ FW w' g (VecMwrite x ((List.range x.n.toNat).map (solveF m.num x.n.toNat 4 x.num)))) := by
  have hX := hF.fs (by omega) cg
  have hltg := hF.lt
  have hnn := VecM.right_n hx
  have cR : ∀ w', FS w' (.slice (some ⟨g, 0, none⟩) x.ws.length cg) x.ws → Calls Try.prog 135 #[.agg #[.slice (some ⟨g, 0, none⟩) x.ws.length cg, .int .i64 x.off, .int .i64 x.n, .int .i64 x.inc]] w' (fun e w2 => e = .returned (.bool true) ∧ ∃ o n, w2 = ext w' o n) := fun w' h => by
    have := right_any x _ w' h hwx; rw [hx] at this; exact this
  have cS : ∀ w', FS w' (.slice (some ⟨a, 0, none⟩) m.ws.length ca) m.ws → Calls Try.prog 151 #[.int .i64 4, .agg #[.slice (some ⟨a, 0, none⟩) m.ws.length ca, .int .i64 m.off, .int .i64 m.rows, .int .i64 m.cols, .int .i64 m.ld], .int .i64 x.n] w' (fun e w2 => e = .returned (.int .i64 0) ∧ ∃ o n, w2 = ext w' o n) := fun w' h => by
    have := square_any 4 m _ x.n w' h hwm
    have e : sqE 4 m x.n = 0 := by
      unfold sqE
      rw [if_neg (fun h => h.elim (by omega) (fun h => h.elim (by omega) (fun h => by rw [hm] at h; cases h))), if_pos ⟨hsq, hn⟩]
    rw [e] at this
    exact this
  have cM : ∀ w', FS w' (.slice (some ⟨g, 0, none⟩) x.ws.length cg) x.ws → FS w' (.slice (some ⟨a, 0, none⟩) m.ws.length ca) m.ws → Plain w' g → Plain w' a → Calls Try.prog 136 #[.agg #[.slice (some ⟨g, 0, none⟩) x.ws.length cg, .int .i64 x.off, .int .i64 1, .int .i64 x.n, .int .i64 x.inc], .agg #[.slice (some ⟨a, 0, none⟩) m.ws.length ca, .int .i64 m.off, .int .i64 m.rows, .int .i64 m.cols, .int .i64 m.ld]] w' (fun e w2 => e = .returned (.bool false) ∧ ∃ o n, w2 = ext w' o n) := fun w' h1 h2 p1 p2 => by
    have := meetM_any (rowM x) m g a cg ca w' h1 h2 p1 p2 (rowM_wf hwx) hwm hlx hlm
    rw [hmeet] at this; exact this
  have cZ : ∀ w', FS w' (.slice (some ⟨a, 0, none⟩) m.ws.length ca) m.ws → Calls Try.prog 153 #[.int .i64 4, .agg #[.slice (some ⟨a, 0, none⟩) m.ws.length ca, .int .i64 m.off, .int .i64 m.rows, .int .i64 m.cols, .int .i64 m.ld]] w' (fun e w2 => e = .returned (.bool false) ∧ ∃ o n, w2 = ext w' o n) := fun w' h => by
    have := zero_any 4 m _ w' h hm hwm hsq hr hlm; rw [hz] at this; exact this
  have Hx := hid hx
  have Hn := hid hn
  have HM := hid hsq
  clear hx hn hm hwm hwx hsq hmeet hz
  go_enter Try.func79, Try.ntmps79
  refine seq_stop ?_
  go_wp2
  refine stop_go (fun W hW => ?_)
  have s1 : w.heap.size < W.heap.size := by rw [hW]; simp only [World.size_alloc]; omega
  have b1 : ∀ i, W.cell? ⟨w.heap.size, i, none⟩ = (#[.slice (some ⟨a, 0, none⟩) m.ws.length ca, .int .i64 m.off, .int .i64 m.rows, .int .i64 m.cols, .int .i64 m.ld] : Array Value)[i]? := by intro i; rw [hW]; go_simp
  have s2 : w.heap.size + 1 < W.heap.size := by rw [hW]; simp only [World.size_alloc]; omega
  have b2 : ∀ i, W.cell? ⟨w.heap.size + 1, i, none⟩ = (#[.slice (some ⟨g, 0, none⟩) x.ws.length cg, .int .i64 x.off, .int .i64 x.n, .int .i64 x.inc] : Array Value)[i]? := by intro i; rw [hW]; go_simp
  have g0 : Grew w W := by rw [hW]; exact ((Grew.refl _).alloc _).alloc _
  clear hW
  have hDW := hD.grew g0
  have hXW := hX.grew g0
  go_wp2_with (first | (go_at_call 135; ((with_reducible refine (cR _ ?_).mono ?_); (focus (first | assumption | (refine FS.ext ?_ _ _; assumption) | (refine IS.ext ?_ _ _; assumption) | (refine hDu _ ?_; assumption) | (refine hOu _ ?_; assumption) | (refine FW.fs ?_ (by omega) _; assumption) | (refine WS.fs ?_; assumption) | omega)); rintro e w1 ⟨rfl, oa, na, rfl⟩)) | (go_at_call 151; ((with_reducible refine (cS _ ?_).mono ?_); (focus (first | assumption | (refine FS.ext ?_ _ _; assumption) | (refine IS.ext ?_ _ _; assumption) | (refine hDu _ ?_; assumption) | (refine hOu _ ?_; assumption) | (refine FW.fs ?_ (by omega) _; assumption) | (refine WS.fs ?_; assumption) | omega)); rintro e w1 ⟨rfl, ob, nb, rfl⟩)))
  refine wp_region_R (Grew W) [] [(0,0), (0,2), (1,1), (1,3), (0,4)] (by kernel_rfl) (by kernel_rfl) (fun _ _ _ _ h _ => h) (by first | exact ⟨_, _, ext_drew⟩ | exact ⟨_, _, drew_ext0⟩) ?_
  go_wp2_with (first | ((with_reducible refine wpR_id ?_); first | (refine wpR_take (v := ?_) rfl rfl ?_ ?_; rotate_left; (focus (rintro w' ⟨o', n', rfl⟩; go_simp; try with_reducible rfl)); simp only [Act.put, List.setIfInBounds_toArray, List.set_cons_zero, List.set_cons_succ]) | (refine wpR_pure (v := ?_) rfl rfl ?_ ?_; rotate_left; (focus (intro w'; go_simp; try with_reducible rfl)); simp only [Act.put, List.setIfInBounds_toArray, List.set_cons_zero, List.set_cons_succ]) | (refine wpR_takeG (v := ?_) rfl rfl rfl rfl rfl ?_ ?_; rotate_left; (focus (rintro w' ⟨o', n', rfl⟩; go_simp; try with_reducible rfl)); simp only [Act.put, List.setIfInBounds_toArray, List.set_cons_zero, List.set_cons_succ]) | (refine wpR_skip rfl rfl rfl rfl rfl rfl ?_; simp only [Act.put, List.setIfInBounds_toArray, List.set_cons_zero, List.set_cons_succ]) | (refine wpR_skipU rfl rfl rfl rfl rfl ?_; simp only [Act.put, List.setIfInBounds_toArray, List.set_cons_zero, List.set_cons_succ]) | (refine wpR_do rfl rfl (fun K hK => ?_)) | (refine wpR_doG rfl rfl rfl rfl rfl (fun K hK => ?_)) | (refine wpR_last rfl rfl (fun K hK => ?_)) | (refine wpR_nil ?_)) | ((with_reducible refine wpR_go ?_ ?_); (focus exact ⟨_, _, rfl⟩)) | ((with_reducible refine upon_id ?_); refine upon_fop rfl (by assumption) (by assumption) ?_; intro rr nn hr) | (go_at_call 152; ((with_reducible refine (trow_any x _ _ _ _).mono ?_); rintro e w1 ⟨rfl, oc, nc, rfl⟩)) | (go_at_call 136; ((with_reducible refine (cM _ ?_ ?_ ((FW.plain hF).grew (by (show Grew _ _; repeat (first | (with_reducible exact Grew.refl _) | (with_reducible assumption) | (with_reducible refine Grew.ext ?_ _ _) | (with_reducible refine Grew.alloc ?_ _) | ((with_reducible refine Grew.setCell ?_ ?_ _); rotate_left; (focus (dsimp only; first | omega | (simp only [size_ext, World.size_alloc, Array.size_append]; omega)))) | (with_reducible refine Grew.drewN ?_ _) | (with_reducible refine Grew.drew ?_))))) (hPa.grew (by (show Grew _ _; repeat (first | (with_reducible exact Grew.refl _) | (with_reducible assumption) | (with_reducible refine Grew.ext ?_ _ _) | (with_reducible refine Grew.alloc ?_ _) | ((with_reducible refine Grew.setCell ?_ ?_ _); rotate_left; (focus (dsimp only; first | omega | (simp only [size_ext, World.size_alloc, Array.size_append]; omega)))) | (with_reducible refine Grew.drewN ?_ _) | (with_reducible refine Grew.drew ?_)))))).mono ?_); (focus (first | assumption | (refine FS.ext ?_ _ _; assumption) | (refine IS.ext ?_ _ _; assumption) | (refine hDu _ ?_; assumption) | (refine hOu _ ?_; assumption) | (refine FW.fs ?_ (by omega) _; assumption) | (refine WS.fs ?_; assumption) | omega)); (focus (first | assumption | (refine FS.ext ?_ _ _; assumption) | (refine IS.ext ?_ _ _; assumption) | (refine hDu _ ?_; assumption) | (refine hOu _ ?_; assumption) | (refine FW.fs ?_ (by omega) _; assumption) | (refine WS.fs ?_; assumption) | omega)); rintro e w1 ⟨rfl, od, nd, rfl⟩)) | (go_at_call 153; ((with_reducible refine (cZ _ ?_).mono ?_); (focus (first | assumption | (refine FS.ext ?_ _ _; assumption) | (refine IS.ext ?_ _ _; assumption) | (refine hDu _ ?_; assumption) | (refine hOu _ ?_; assumption) | (refine FW.fs ?_ (by omega) _; assumption) | (refine WS.fs ?_; assumption) | omega)); rintro e w1 ⟨rfl, oe, ne, rfl⟩)))
  refine wp_region_R (Grew W) [] [(0,0), (0,1), (0,2), (0,3), (0,4), (1,5), (1,6), (0,7)] (by kernel_rfl) (by kernel_rfl) (fun _ _ _ _ h _ => h) (by first | exact ⟨_, _, ext_drew⟩ | exact ⟨_, _, drew_ext0⟩) ?_
  go_wp2_with (first | ((with_reducible refine wpR_id ?_); first | (refine wpR_take (v := ?_) rfl rfl ?_ ?_; rotate_left; (focus (rintro w' ⟨o', n', rfl⟩; go_simp; try with_reducible rfl)); simp only [Act.put, List.setIfInBounds_toArray, List.set_cons_zero, List.set_cons_succ]) | (refine wpR_pure (v := ?_) rfl rfl ?_ ?_; rotate_left; (focus (intro w'; go_simp; try with_reducible rfl)); simp only [Act.put, List.setIfInBounds_toArray, List.set_cons_zero, List.set_cons_succ]) | (refine wpR_takeG (v := ?_) rfl rfl rfl rfl rfl ?_ ?_; rotate_left; (focus (rintro w' ⟨o', n', rfl⟩; go_simp; try with_reducible rfl)); simp only [Act.put, List.setIfInBounds_toArray, List.set_cons_zero, List.set_cons_succ]) | (refine wpR_skip rfl rfl rfl rfl rfl rfl ?_; simp only [Act.put, List.setIfInBounds_toArray, List.set_cons_zero, List.set_cons_succ]) | (refine wpR_skipU rfl rfl rfl rfl rfl ?_; simp only [Act.put, List.setIfInBounds_toArray, List.set_cons_zero, List.set_cons_succ]) | (refine wpR_do rfl rfl (fun K hK => ?_)) | (refine wpR_doG rfl rfl rfl rfl rfl (fun K hK => ?_)) | (refine wpR_last rfl rfl (fun K hK => ?_)) | (refine wpR_nil ?_)) | ((with_reducible refine wpR_go ?_ ?_); (focus (show Grew _ _; repeat (first | (with_reducible exact Grew.refl _) | (with_reducible assumption) | (with_reducible refine Grew.ext ?_ _ _) | (with_reducible refine Grew.alloc ?_ _) | ((with_reducible refine Grew.setCell ?_ ?_ _); rotate_left; (focus (dsimp only; first | omega | (simp only [size_ext, World.size_alloc, Array.size_append]; omega)))) | (with_reducible refine Grew.drewN ?_ _) | (with_reducible refine Grew.drew ?_))))) | ((with_reducible refine upon_id ?_); refine upon_fop rfl (by assumption) (by assumption) ?_; intro rr nn hr))
  refine name_any (fun V hV => ?_)
  have gV : Grew W V := by rw [← hV]; (show Grew _ _; repeat (first | (with_reducible exact Grew.refl _) | (with_reducible assumption) | (with_reducible refine Grew.ext ?_ _ _) | (with_reducible refine Grew.alloc ?_ _) | ((with_reducible refine Grew.setCell ?_ ?_ _); rotate_left; (focus (dsimp only; first | omega | (simp only [size_ext, World.size_alloc, Array.size_append]; omega)))) | (with_reducible refine Grew.drewN ?_ _) | (with_reducible refine Grew.drew ?_)))
  have gw : Grew w V := g0.trans gV
  have zW := g0.below.size
  have cT : ∀ i, V.cell? ⟨W.heap.size + (oa.size + (ob.size + (oc.size + (od.size + oe.size)))), i, none⟩ = (#[.slice (some ⟨a, 0, none⟩) m.ws.length ca, .int .i64 m.off, .int .i64 m.rows, .int .i64 m.cols, .int .i64 m.ld, .slice (some ⟨g, 0, none⟩) x.ws.length cg, .int .i64 x.off, .int .i64 x.n, .int .i64 x.inc] : Array Value)[i]? := by subst hV; intro i; go_simp
  have kT : W.heap.size + (oa.size + (ob.size + (oc.size + (od.size + oe.size)))) < V.heap.size := by rw [← hV]; simp only [World.size_alloc, size_ext, Array.size_append]; omega
  obtain ⟨T, hT⟩ : ∃ T, W.heap.size + (oa.size + (ob.size + (oc.size + (od.size + oe.size)))) = T := ⟨_, rfl⟩
  have zT : W.heap.size ≤ T := by omega
  rw [hT] at cT kT
  simp only [hT]
  have hFV : FW V g x.ws := hF.grew gw
  have cU : ∀ w', But V [g] w' → ∀ i, w'.cell? ⟨T, i, none⟩ = (#[.slice (some ⟨a, 0, none⟩) m.ws.length ca, .int .i64 m.off, .int .i64 m.rows, .int .i64 m.cols, .int .i64 m.ld, .slice (some ⟨g, 0, none⟩) x.ws.length cg, .int .i64 x.off, .int .i64 x.n, .int .i64 x.inc] : Array Value)[i]? := fun w' h i => (h.cell kT (by simp; omega)).trans (cT i)
  have bw : ∀ w', But V [g] w' → But w [g] w' := fun w' h => ((But.refl w [g]).grew gw).trans h (fun _ hb => .inl hb)
  have hnl := VecM.right_nle Hx.out hlx
  clear hV hT cT cR cS cM cZ b1 b2
  go_loopw [124] (fun c wr => ∃ (i : Nat) (L : List Nat), (i : Int) ≤ x.n ∧ c = .int .i64 i ∧ But V [g] wr ∧ FW wr g L ∧ VH x L (rowAll4 m.num x.num i)) (fun c _ => x.n.toNat - (intOf c).toNat)
  case atStart => exact ⟨0, x.ws, hnn.1, rfl, But.refl _ _, hFV, VH.start x⟩
  case round =>
    obtain ⟨i, L, hj, rfl, hB, hL, hS⟩ := hrel
    by_cases hlt : (i : Int) < x.n
    · have hlt' := hid hlt
      go_wp2
      go_loopw [128] (fun c wr => ∃ (t : Nat) (L : List Nat), (t : Int) ≤ i ∧ c = .int .i64 t ∧ But V [g] wr ∧ FW wr g L ∧ VH x L (rowIn4 m.num (rowAll4 m.num x.num i) i t)) (fun c _ => ((i : Int) - intOf c).toNat)
      case atStart => exact ⟨0, L, by omega, rfl, hB, hL, hS⟩
      case round =>
        obtain ⟨t, L2, ht, rfl, hB2, hL2, hS2⟩ := hrel
        by_cases hl2 : (t : Int) < i
        · have hB3 : ∀ w' r, FW w' g L2 → IsF r (m.num t i) → Calls Try.prog 154 #[.agg #[.slice (some ⟨a, 0, none⟩) m.ws.length ca, .int .i64 m.off, .int .i64 m.rows, .int .i64 m.cols, .int .i64 m.ld, .slice (some ⟨g, 0, none⟩) x.ws.length cg, .int .i64 x.off, .int .i64 x.n, .int .i64 x.inc], .int .i64 i, .int .i64 t, .float .f64 r] w' (fun e w2 => e = .returned (.tuple #[]) ∧ Wrote w' w2 g (L2.set (x.place i) (fsub (L2.getD (x.place i) 0) (fmul (m.num t i) (L2.getD (x.place t) 0))))) := fun w' r h1 h2 =>
            sless_any m x (.slice (some ⟨a, 0, none⟩) m.ws.length ca) g cg i t r _ L2 w' h1 hS2.len Hx.out hlt'.out (by have := hlt'.out; omega) hlx h2
          have tT2 := cU _ hB2
          go_wp2
          refine wp_region_R (But V [g]) [] [(0,0), (0,1), (0,2), (0,3), (0,4), (0,5), (1,6), (1,7)] (by kernel_rfl) (by kernel_rfl) (fun _ _ _ _ h _ => h) (hB2.grew ((Grew.refl _).drew)) ?_
          refine name_any (fun V6 hV6 => ?_)
          have B6 : But V [g] V6 := by rw [← hV6]; exact hB2.grew ((Grew.refl _).drew)
          have F6 : FW V6 g L2 := by rw [← hV6]; exact hL2.grew ((Grew.refl _).drew)
          clear hV6
          go_wp2_with (first | ((with_reducible refine wpR_id ?_); first | (refine wpR_take (v := ?_) rfl rfl ?_ ?_; rotate_left; (focus (intro w' hw'; go_simp; try with_reducible rfl)); simp only [Act.put, List.setIfInBounds_toArray, List.set_cons_zero, List.set_cons_succ]) | (refine wpR_pure (v := ?_) rfl rfl ?_ ?_; rotate_left; (focus (intro w'; go_simp; try with_reducible rfl)); simp only [Act.put, List.setIfInBounds_toArray, List.set_cons_zero, List.set_cons_succ]) | (refine wpR_takeG (v := ?_) rfl rfl rfl rfl rfl ?_ ?_; rotate_left; (focus (intro w' hw'; go_simp; try with_reducible rfl)); simp only [Act.put, List.setIfInBounds_toArray, List.set_cons_zero, List.set_cons_succ]) | (refine wpR_skip rfl rfl rfl rfl rfl rfl ?_; simp only [Act.put, List.setIfInBounds_toArray, List.set_cons_zero, List.set_cons_succ]) | (refine wpR_skipU rfl rfl rfl rfl rfl ?_; simp only [Act.put, List.setIfInBounds_toArray, List.set_cons_zero, List.set_cons_succ]) | (refine wpR_do rfl rfl (fun K hK => ?_)) | (refine wpR_doG rfl rfl rfl rfl rfl (fun K hK => ?_)) | (refine wpR_last rfl rfl (fun K hK => ?_)) | (refine wpR_nil ?_)) | ((with_reducible refine wpR_go ?_ ?_); (focus (with_reducible assumption))) | ((with_reducible refine upon_id ?_); refine upon_fop rfl (by assumption) (by assumption) ?_; intro rr nn hr) | (go_at_call 155; ((with_reducible refine (hat _ L2 _ (bw _ B6) F6 hS2 t i (by have := Hn.out; omega) (by have := Hn.out; omega)).mono ?_); rintro e w1 ⟨r, rfl, hr, hw1⟩; (have B7 := B6.grew hw1; have F7 := F6.grew hw1))) | (go_at_call 154; ((with_reducible refine (hB3 _ _ F7 hr).mono ?_); rintro e w1 ⟨rfl, hw2⟩; (have B8 := B7.wrote hw2 (.inl (by simp)); have F8 := hw2.fw F7))))
          go_roundw
          case rel => exact ⟨t + 1, _, by omega, by go_num, B8, F8, hS2.less Hx.out hlt'.out (by have := hlt'.out; omega)⟩
          case measure => simp [intOf]; omega
        · have e : t = i := by omega
          subst e
          have tT2 := cU _ hB2
          have hpi := VecM.right_place Hx.out hlt'.out
          obtain ⟨r0, hr0, hf0⟩ := hL2.get (i := x.place t) (by rw [hS2.len]; unfold VecM.place; omega)
          have hr1 := hr0
          unfold VecM.place at hr1
          have gl := hL2.lt
          have zB := hB2.size
          have kT2 : T < wr.heap.size := by omega
          have fz : ∀ i, wr.frozen? ⟨g, i, none⟩ = false := hL2.notFrozen
          have hnm : ∀ w', Calls Try.prog 156 #[.agg #[.slice (some ⟨a, 0, none⟩) m.ws.length ca, .int .i64 m.off, .int .i64 m.rows, .int .i64 m.cols, .int .i64 m.ld, .slice (some ⟨g, 0, none⟩) x.ws.length cg, .int .i64 x.off, .int .i64 x.n, .int .i64 x.inc], .int .i64 t] w' (fun e w2 => e = .returned (.pointer (some ⟨g, (x.off + t * x.inc).toNat, none⟩)) ∧ ∃ o n, w2 = ext w' o n) := fun w' => num_any m x (.slice (some ⟨a, 0, none⟩) m.ws.length ca) g cg t w' Hx.out hlt'.out hlx
          have hA : ∀ o n, Calls Try.prog 155 #[.agg #[.slice (some ⟨a, 0, none⟩) m.ws.length ca, .int .i64 m.off, .int .i64 m.rows, .int .i64 m.cols, .int .i64 m.ld, .slice (some ⟨g, 0, none⟩) x.ws.length cg, .int .i64 x.off, .int .i64 x.n, .int .i64 x.inc], .int .i64 t, .int .i64 t] (ext wr o n) (fun e w2 => ∃ r, e = .returned (.float .f64 r) ∧ IsF r (m.num t t) ∧ ∃ o' n', w2 = ext (ext wr o n) o' n') := fun o n => hat _ L2 _ (bw _ (hB2.grew ⟨_, _, rfl⟩)) (hL2.ext o n) hS2 t t (by have := Hn.out; have := hlt'.out; omega) (by have := Hn.out; have := hlt'.out; omega)
          go_wp2
          refine wp_region_R (Grew wr) [11] [(0,0), (3,1), (0,5), (3,6), (3,7), (1,2), (3,3), (0,4), (1,8), (1,9), (3,10), (2,11)] (by kernel_rfl) (by kernel_rfl) (fun _ _ _ _ h _ => h) (by first | exact ⟨_, _, ext_drew⟩ | exact ⟨_, _, drew_ext0⟩) ?_
          go_wp2_with (first | ((with_reducible refine wpR_id ?_); first | (refine wpR_take (v := ?_) rfl rfl ?_ ?_; rotate_left; (focus (rintro w' ⟨o', n', rfl⟩; go_simp; try with_reducible rfl)); simp only [Act.put, List.setIfInBounds_toArray, List.set_cons_zero, List.set_cons_succ]) | (refine wpR_pure (v := ?_) rfl rfl ?_ ?_; rotate_left; (focus (intro w'; go_simp; try with_reducible rfl)); simp only [Act.put, List.setIfInBounds_toArray, List.set_cons_zero, List.set_cons_succ]) | (refine wpR_takeG (v := ?_) rfl rfl rfl rfl rfl ?_ ?_; rotate_left; (focus (rintro w' ⟨o', n', rfl⟩; go_simp; try with_reducible rfl)); simp only [Act.put, List.setIfInBounds_toArray, List.set_cons_zero, List.set_cons_succ]) | (refine wpR_skip rfl rfl rfl rfl rfl rfl ?_; simp only [Act.put, List.setIfInBounds_toArray, List.set_cons_zero, List.set_cons_succ]) | (refine wpR_skipU rfl rfl rfl rfl rfl ?_; simp only [Act.put, List.setIfInBounds_toArray, List.set_cons_zero, List.set_cons_succ]) | (refine wpR_do rfl rfl (fun K hK => ?_)) | (refine wpR_doG rfl rfl rfl rfl rfl (fun K hK => ?_)) | (refine wpR_last rfl rfl (fun K hK => ?_)) | (refine wpR_nil ?_)) | ((with_reducible refine wpR_go ?_ ?_); (focus exact ⟨_, _, rfl⟩)) | ((with_reducible refine upon_id ?_); refine upon_fop rfl (by assumption) (by assumption) ?_; intro rr nn hr) | (go_at_call 156; ((with_reducible refine (hnm _).mono ?_); rintro e w1 ⟨rfl, o1, n1, rfl⟩)) | (go_at_call 155; ((with_reducible refine (hA _ _).mono ?_); rintro e w1 ⟨r, rfl, hr, o2, n2, rfl⟩)))
          go_roundw
          case rel => exact ⟨t + 1, _, by (have := hlt'.out; omega), by go_num, (hB2.setc hL2 (by simp)).grew ⟨_, _, rfl⟩, (hL2.setc (k := x.place t) hr).ext _ _, hS2.div Hx.out hlt'.out⟩
          case measure => (have := hlt'.out; simp [intOf] <;> omega)
    · have e : i = x.n.toNat := by omega
      have hf := (hS.congr (t := solveF m.num x.n.toNat 4 x.num) (fun r hr => by subst e; unfold solveF; rw [if_neg (by decide), if_neg (by decide), if_neg (by decide)])).final Hx.out
      go_wp2
      go_ret
      exact ⟨rfl, bw _ hB, by rw [← hf]; exact hL⟩
end Go.Proofs.Ytcmggfpcbijcjaa
