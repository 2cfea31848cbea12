/-
  axes.Axpy (lists apart); the example of layer 6.
-/
import Derived.Test.YtcmggfpcbijcjaaAxes4
import Derived.Test.YtcmggfpcbijcjaaVec5
set_option linter.unusedSimpArgs false
set_option linter.unusedVariables false
open Go Go.RowKit Sedge
namespace Go.Proofs.Ytcmggfpcbijcjaa
set_option maxRecDepth 100000 in
set_option maxHeartbeats 1000000 in
/-- axes.Axpy's closure. -/
theorem axcl_any (i pl g T3 T4 a α r0 z0 bx cx rx xv : Nat) (x : VecM) (w : World) (hca : ∀ i, w.cell? ⟨T3, i, none⟩ = (#[.float .f64 a] : Array Value)[i]?) (ha : IsF a α)
    (hcx : ∀ i, w.cell? ⟨T4, i, none⟩ = (#[.slice (some ⟨bx, 0, none⟩) x.ws.length cx, .int .i64 x.off, .int .i64 x.n, .int .i64 x.inc] : Array Value)[i]?) (kT3 : T3 < w.heap.size) (kT4 : T4 < w.heap.size) (kg : g < w.heap.size) (kbx : bx < w.heap.size)
    (hx : x.right = true) (hi : (i : Int) < x.n) (hl : x.ws.length ≤ 1000000) (h1 : w.cell? ⟨bx, x.place i, none⟩ = some (.float .f64 rx)) (f1 : IsF rx xv)
    (h3 : w.cell? ⟨g, pl, none⟩ = some (.float .f64 r0)) (f3 : IsF r0 z0) (fz : ∀ i, w.frozen? ⟨g, i, none⟩ = false) :
   Calls Try.prog 118 #[.int .i64 i, .pointer (some ⟨g, pl, none⟩), .pointer (some ⟨T3, 0, none⟩), .pointer (some ⟨T4, 0, none⟩)] w
     (fun e w' => e = .returned (.tuple #[]) ∧ ∃ r, IsF r (fadd z0 (fmul α xv)) ∧ ∃ o n, w' = ext (w.setCell ⟨g, pl, none⟩ (.float .f64 r)) o n) := by
  have hp := VecM.right_place hx hi
  have hn := VecM.right_n hx
  unfold VecM.place at h1
  have a1 : IntKind.i64.wrap (i * x.inc) = i * x.inc := IntWalk.i64_in _ (by omega)
  have a2 : IntKind.i64.wrap (x.off + i * x.inc) = x.off + i * x.inc := IntWalk.i64_in _ (by omega)
  clear hx
  go_enter Try.func118, Try.ntmps118
  go_wp2
  refine wp_region_R (Grew w) [18] [(3,0), (3,1), (0,2), (0,3), (3,4), (0,5), (3,6), (0,7), (3,8), (3,9), (0,10), (3,11), (3,12), (3,13), (0,14), (1,15), (1,16), (3,17), (2,18)] (by kernel_rfl) (by kernel_rfl) (fun _ _ _ _ h _ => h) (by first | exact ⟨_, _, ext_drew⟩ | exact ⟨_, _, drew_ext0⟩ | (show Grew _ _; repeat (first | (with_reducible exact Grew.refl _) | (with_reducible assumption) | (with_reducible refine Grew.ext ?_ _ _) | (with_reducible refine Grew.alloc ?_ _) | ((with_reducible refine Grew.setCell ?_ ?_ _); rotate_left; (focus (dsimp only; first | omega | (simp only [size_ext, World.size_alloc, Array.size_append]; omega)))) | (with_reducible refine Grew.drewN ?_ _) | (with_reducible refine Grew.drew ?_)))) ?_
  go_wp2_with (first | ((with_reducible refine wpR_id ?_); first | (refine wpR_take (v := ?_) rfl rfl ?_ ?_; rotate_left; (focus (rintro w' ⟨o', n', rfl⟩; go_simp; try with_reducible rfl)); simp only [Act.put, List.setIfInBounds_toArray, List.set_cons_zero, List.set_cons_succ]) | (refine wpR_pure (v := ?_) rfl rfl ?_ ?_; rotate_left; (focus (intro w'; go_simp; try with_reducible rfl)); simp only [Act.put, List.setIfInBounds_toArray, List.set_cons_zero, List.set_cons_succ]) | (refine wpR_takeG (v := ?_) rfl rfl rfl rfl rfl ?_ ?_; rotate_left; (focus (rintro w' ⟨o', n', rfl⟩; go_simp; try with_reducible rfl)); simp only [Act.put, List.setIfInBounds_toArray, List.set_cons_zero, List.set_cons_succ]) | (refine wpR_skip rfl rfl rfl rfl rfl rfl ?_; simp only [Act.put, List.setIfInBounds_toArray, List.set_cons_zero, List.set_cons_succ]) | (refine wpR_skipU rfl rfl rfl rfl rfl ?_; simp only [Act.put, List.setIfInBounds_toArray, List.set_cons_zero, List.set_cons_succ]) | (refine wpR_do rfl rfl (fun K hK => ?_)) | (refine wpR_doG rfl rfl rfl rfl rfl (fun K hK => ?_)) | (refine wpR_last rfl rfl (fun K hK => ?_)) | (refine wpR_nil ?_)) | ((with_reducible refine wpR_go ?_ ?_); (focus (show Grew _ _; repeat (first | (with_reducible exact Grew.refl _) | (with_reducible assumption) | (with_reducible refine Grew.ext ?_ _ _) | (with_reducible refine Grew.alloc ?_ _) | ((with_reducible refine Grew.setCell ?_ ?_ _); rotate_left; (focus (dsimp only; first | omega | (simp only [size_ext, World.size_alloc, Array.size_append]; omega)))) | (with_reducible refine Grew.drewN ?_ _) | (with_reducible refine Grew.drew ?_))))) | ((with_reducible refine upon_id ?_); refine upon_fop rfl (by assumption) (by assumption) ?_; intro rr nn hr))
  go_end0
  exact ⟨rfl, rr, hr, _, _, (by rw [drewN_ext0]; exact setCell_ext kg _)⟩
set_option maxRecDepth 100000 in
set_option maxHeartbeats 1000000 in
/-- axes.Axpy, of vectors in lists apart. -/
theorem axpy_any (a α : Nat) (x y : VecM) (bx cx g cg : Nat) (w : World) (ha : IsF a α) (hX : FW w bx x.ws) (hF : FW w g y.ws) (hne : g ≠ bx) (hx : x.right = true) (hy : y.right = true) (hn : y.n = x.n) (hwx : x.wf) (hwy : y.wf) (hlx : x.ws.length ≤ 1000000) (hly : y.ws.length ≤ 1000000) :
   Calls Try.prog 26 #[.float .f64 a, .agg #[.slice (some ⟨bx, 0, none⟩) x.ws.length cx, .int .i64 x.off, .int .i64 x.n, .int .i64 x.inc], .agg #[.slice (some ⟨g, 0, none⟩) y.ws.length cg, .int .i64 y.off, .int .i64 y.n, .int .i64 y.inc]] w (fun e w' => e = .returned (.int .i64 0) ∧ But w [g] w' ∧ FW w' g (axL (fun i z => fadd z (fmul α (x.num i))) y)) := by
  have hltg := hF.lt
  have hltx := hX.lt
  have hp : ∀ w', Grew w w' → Calls Try.prog 63 #[.agg #[.slice (some ⟨g, 0, none⟩) y.ws.length cg, .int .i64 y.off, .int .i64 y.n, .int .i64 y.inc], .agg #[.slice (some ⟨bx, 0, none⟩) x.ws.length cx, .int .i64 x.off, .int .i64 x.n, .int .i64 x.inc]] w' (fun e w2 => e = .returned (.int .i64 0) ∧ ∃ o n, w2 = ext w' o n) := fun w' hg => by
    have := pair_any y x g bx cg cx w' ((hF.grew hg).fs (by omega) cg) ((hX.grew hg).fs (by omega) cx) (FW.plain (hF.grew hg)) (FW.plain (hX.grew hg)) hwy hwx hly hlx
    rw [show pairE y x (decide (g = bx)) = 0 by unfold pairE; rw [if_pos ⟨hy, hx⟩, if_pos hn, if_neg (by simp [hne])]] at this
    exact this
  have hEach : ∀ T3 T4 w', Grew w w' → (∀ i, w'.cell? ⟨T3, i, none⟩ = (#[.float .f64 a] : Array Value)[i]?) → (∀ i, w'.cell? ⟨T4, i, none⟩ = (#[.slice (some ⟨bx, 0, none⟩) x.ws.length cx, .int .i64 x.off, .int .i64 x.n, .int .i64 x.inc] : Array Value)[i]?) → T3 < w'.heap.size → T4 < w'.heap.size → T3 ≠ g → T4 ≠ g →
      Calls Try.prog 117 #[.agg #[.slice (some ⟨g, 0, none⟩) y.ws.length cg, .int .i64 y.off, .int .i64 y.n, .int .i64 y.inc], .func (.func 118) #[] #[.pointer (some ⟨T3, 0, none⟩), .pointer (some ⟨T4, 0, none⟩)]] w' (fun e w2 => e = .returned (.tuple #[]) ∧ But w' [g] w2 ∧ FW w2 g (axL (fun i z => fadd z (fmul α (x.num i))) y)) := fun T3 T4 w' hg h3 h4 k3 k4 n3 n4 => by
    have h1 := hF.grew hg
    refine (eachAxpy y _ g 0 cg _ _ (RW1 y g fun i z => fadd z (fmul α (x.num i))) [g] w' hy hly (fun _ => rfl) (RW1.start h1) (fun _ _ _ h => h.1) (by simp; exact h1.lt) ?_).mono fun e w2 hh => ?_
    · intro W1 i w2 hg1 hi hR
      obtain ⟨hB, L, hL, hS⟩ := hR
      obtain ⟨r0, q1, q2⟩ := RW1.cell hL hS hy hi
      have z1 := hg1.below.size
      have z2 := hB.size
      have z3 := hg.below.size
      obtain ⟨rx, p1, p2⟩ := (hB.fw ((hX.grew hg).grew hg1) (by simpa using hne.symm)).get (i := x.place i) (VecM.place_lt hx (by omega))
      rw [Nat.zero_add]
      refine (axcl_any i (y.place i) g T3 T4 a α r0 _ bx cx rx _ x w2 (fun i => (hB.cell (by omega) (by simpa using n3)).trans ((hg1.cell k3).trans (h3 i))) ha (fun i => (hB.cell (by omega) (by simpa using n4)).trans ((hg1.cell k4).trans (h4 i))) (by omega) (by omega) hL.lt (by omega) hx (by omega) hlx p1 p2 q1 q2 hL.notFrozen).mono fun e w3 hh => ?_
      obtain ⟨e1, r, e2, o, n, rfl⟩ := hh
      exact ⟨e1, RW1.next hB hL hS hy hi e2 o n⟩
    · obtain ⟨e1, W1, e2, e3⟩ := hh
      exact ⟨e1, ((But.refl w' [g]).grew e2).trans e3.1 (fun _ hb => .inl hb), e3.done hy⟩
  clear hx hy hn hwx hwy
  have hmf := hmf
  go_enter Try.func26, Try.ntmps26
  refine seq_stop ?_
  go_wp2
  refine stop_go (fun W hW => ?_)
  have s1 : w.heap.size < W.heap.size := by rw [hW]; simp only [World.size_alloc]; omega
  have b1 : ∀ i, W.cell? ⟨w.heap.size, i, none⟩ = (#[.float .f64 a] : Array Value)[i]? := by intro i; rw [hW]; go_simp
  have s2 : w.heap.size + 1 < W.heap.size := by rw [hW]; simp only [World.size_alloc]; omega
  have b2 : ∀ i, W.cell? ⟨w.heap.size + 1, i, none⟩ = (#[.slice (some ⟨bx, 0, none⟩) x.ws.length cx, .int .i64 x.off, .int .i64 x.n, .int .i64 x.inc] : Array Value)[i]? := by intro i; rw [hW]; go_simp
  have s3 : w.heap.size + 1 + 1 < W.heap.size := by rw [hW]; simp only [World.size_alloc]; omega
  have b3 : ∀ i, W.cell? ⟨w.heap.size + 1 + 1, i, none⟩ = (#[.slice (some ⟨g, 0, none⟩) y.ws.length cg, .int .i64 y.off, .int .i64 y.n, .int .i64 y.inc] : Array Value)[i]? := by intro i; rw [hW]; go_simp
  have g0 : Grew w W := by rw [hW]; exact (((Grew.refl _).alloc _).alloc _).alloc _
  clear hW
  have zW := g0.below.size
  go_wp2_with (first | (go_at_call 63; ((with_reducible refine (hp _ (Grew.trans g0 (by (show Grew _ _; repeat (first | (with_reducible exact Grew.refl _) | (with_reducible assumption) | (with_reducible refine Grew.ext ?_ _ _) | (with_reducible refine Grew.alloc ?_ _) | ((with_reducible refine Grew.setCell ?_ ?_ _); rotate_left; (focus (dsimp only; first | omega | (simp only [size_ext, World.size_alloc, Array.size_append]; omega)))) | (with_reducible refine Grew.drewN ?_ _) | (with_reducible refine Grew.drew ?_)))))).mono ?_); rintro e w1 ⟨rfl, oa, na, rfl⟩)) | (go_at_call 117; ((with_reducible refine (hEach w.heap.size (w.heap.size + 1) _ (Grew.trans g0 (by (show Grew _ _; repeat (first | (with_reducible exact Grew.refl _) | (with_reducible assumption) | (with_reducible refine Grew.ext ?_ _ _) | (with_reducible refine Grew.alloc ?_ _) | ((with_reducible refine Grew.setCell ?_ ?_ _); rotate_left; (focus (dsimp only; first | omega | (simp only [size_ext, World.size_alloc, Array.size_append]; omega)))) | (with_reducible refine Grew.drewN ?_ _) | (with_reducible refine Grew.drew ?_))))) (fun i => (cell_ext s1).trans (b1 i)) (fun i => (cell_ext s2).trans (b2 i)) (by simp only [size_ext]; omega) (by simp only [size_ext]; omega) (by omega) (by omega)).mono ?_); rintro e w1 ⟨rfl, hB1, hF1⟩)))
  go_ret
  exact ⟨rfl, ((But.refl w [g]).grew (Grew.trans g0 ⟨_, _, rfl⟩)).trans hB1 (fun _ hb => .inl hb), hF1⟩
def L11 : List Nat := [4607182418800017408, 4607182418800017408]
def L34 : List Nat := [4613937818241073152, 4616189618054758400]
def L56 : List Nat := [4617315517961601024, 4618441417868443648]
theorem axpy_06 (bx cx g cg : Nat) (w : World) (hX : FW w bx L11) (hF : FW w g L34) (hne : g ≠ bx) :
   Calls Try.prog 26 #[.float .f64 4611686018427387904, .agg #[.slice (some ⟨bx, 0, none⟩) 2 cx, .int .i64 0, .int .i64 2, .int .i64 1], .agg #[.slice (some ⟨g, 0, none⟩) 2 cg, .int .i64 0, .int .i64 2, .int .i64 1]] w (fun e w' => e = .returned (.int .i64 0) ∧ But w [g] w' ∧ FW w' g L56) := by
  have h := axpy_any 4611686018427387904 4611686018427387904 ⟨L11, 0, 2, 1⟩ ⟨L34, 0, 2, 1⟩ bx cx g cg w (by decide +kernel) hX hF hne (by decide +kernel) (by decide +kernel) rfl (by simp [VecM.wf, I64]) (by simp [VecM.wf, I64]) (by decide) (by decide)
  rw [show axL (fun i z => fadd z (fmul 4611686018427387904 (VecM.num ⟨L11, 0, 2, 1⟩ i))) ⟨L34, 0, 2, 1⟩ = L56 by decide +kernel] at h
  exact h
set_option maxRecDepth 100000 in
set_option maxHeartbeats 2000000 in
theorem awake06 (w : World) : Calls Try.prog 24 #[] w (fun e w' => e = .returned (.bool true) ∧ ∃ o n, w' = ext w o n) := by
  have h1 : ∀ x ∈ L11, IsF x x := by decide +kernel
  have h3 : ∀ x ∈ L34, IsF x x := by decide +kernel
  have h5 : ∀ x ∈ L56, IsF x x := by decide +kernel
  have H1 := hid h1
  have H3 := hid h3
  have H5 := hid h5
  have da : decide (L56 = L56) = true := by decide +kernel
  clear h1 h3 h5
  have hno : ∀ w', Calls Try.prog 96 #[.float .f64 4607182418800017408, .agg #[.slice none 0 0, .int .i64 0, .int .i64 0, .int .i64 0]] w' (fun e w2 => e = .returned (.int .i64 1) ∧ ∃ o n, w2 = ext w' o n) := fun w' =>
    scal_no _ ⟨[], 0, 0, 0⟩ _ w' (FS.nil w') (by decide) (by simp [VecM.wf, I64])
  go_enter Try.func24, Try.ntmps24
  go_wp2_with (first | (go_at_call 96; ((with_reducible refine (hno _).mono ?_); rintro e w1 ⟨rfl, o1, n1, rfl⟩)))
  refine name_call (fun V hV => ?_)
  have gV : Grew w V := by rw [← hV]; (show Grew _ _; repeat (first | (with_reducible exact Grew.refl _) | (with_reducible assumption) | (with_reducible refine Grew.ext ?_ _ _) | (with_reducible refine Grew.alloc ?_ _) | ((with_reducible refine Grew.setCell ?_ ?_ _); rotate_left; (focus (dsimp only; first | omega | (simp only [size_ext, World.size_alloc, Array.size_append]; omega)))) | (with_reducible refine Grew.drewN ?_ _) | (with_reducible refine Grew.drew ?_)))
  have zV : w.heap.size + o1.size + 1 < V.heap.size := by rw [← hV]; simp only [World.size_alloc, size_ext]; omega
  have hg : FW V (w.heap.size + o1.size) L34 := by rw [← hV]; exact (FW.lit' (w := ext w o1 n1) (t := 22) L34 H3.out _ (by simp only [size_ext])).alloc _
  have hb : FW V (w.heap.size + o1.size + 1) L11 := by rw [← hV]; exact FW.lit' (t := 22) L11 H1.out _ (by simp only [size_ext, World.size_alloc])
  have hc := axpy_06 (w.heap.size + o1.size + 1) 2 (w.heap.size + o1.size) 2 V hb hg (by omega)
  obtain ⟨g, hgg⟩ : ∃ g, g = w.heap.size + o1.size := ⟨_, rfl⟩
  rw [← hgg] at hc
  simp only [← hgg]
  have zg : w.heap.size ≤ g := by omega
  clear hV hgg hg hb
  refine hc.mono ?_
  rintro e w1 ⟨rfl, hB, hF⟩
  have g1 : Grew w w1 := hB.grew0 gV (by intro k hk; simp at hk; omega)
  have hfs := hF.fs (by decide) 2
  go_wp2_with (first | (go_at_call 47; ((with_reducible refine (all_any _ _ L56 L56 _ ?_ ?_).mono ?_); (focus (exact hfs.alloc _)); (focus (repeat (first | exact FS.lit L56 (by decide) H5.out 2 _ (by simp only [size_ext, World.size_alloc]) | exact FS.lit L56 (by decide) H5.out 2 _ rfl | refine FS.alloc ?_ _ | refine FS.ext ?_ _ _))); rintro e w3 ⟨rfl, hw3⟩)))
  go_ret
  exact ⟨rfl, Grew.trans (g1.alloc _) hw3⟩
end Go.Proofs.Ytcmggfpcbijcjaa
