/-
  The law GemmTells: its walk, lists apart, one = 2.
-/
import Derived.Test.YtcmggfpcbijcjaaGemm5
import Derived.Test.YtcmggfpcbijcjaaPar2
set_option linter.unusedSimpArgs false
set_option linter.unusedVariables false
open Go Go.RowKit Sedge
namespace Go.Proofs.Ytcmggfpcbijcjaa
set_option maxRecDepth 100000 in
set_option maxHeartbeats 4000000 in
theorem gm_C (a α b β : Nat) (x y z : MatM) (X Y Z : Value) (w : World) (ha : IsF a α) (hb : IsF b β) (hX : FS w X x.ws) (hY : FS w Y y.ws) (hZ : FS w Z z.ws) (hwx : x.wf) (hwy : y.wf) (hwz : z.wf) (lx : MatM.great x = false) (ly : MatM.great y = false) (lz : MatM.great z = false) (ho : z.ws.length = 0) :
   Calls Try.prog 9 #[.float .f64 a, .agg #[X, .int .i64 x.off, .int .i64 x.rows, .int .i64 x.cols, .int .i64 x.ld], .agg #[Y, .int .i64 y.off, .int .i64 y.rows, .int .i64 y.cols, .int .i64 y.ld], .float .f64 b, .agg #[Z, .int .i64 z.off, .int .i64 z.rows, .int .i64 z.cols, .int .i64 z.ld], .int .i64 2] w (fun e w' => e = .returned (.bool true) ∧ ∃ o n, w' = ext w o n) := by
  obtain ⟨aX, cX, rfl⟩ := hX.shape
  obtain ⟨aY, cY, rfl⟩ := hY.shape
  obtain ⟨aZ, cZ, rfl⟩ := hZ.shape
  have nx := great_no lx
  have ny := great_no ly
  have nz := great_no lz
  have ho' : decide (0 < z.ws.length) = false := decide_eq_false (by omega)
  have Ho := hid ho
  clear ho
  have hgr : ∀ w', FS w' (.slice aX x.ws.length cX) x.ws → FS w' (.slice aY y.ws.length cY) y.ws → FS w' (.slice aZ z.ws.length cZ) z.ws → Calls Try.prog 74 #[.agg #[(.slice aX x.ws.length cX), .int .i64 x.off, .int .i64 x.rows, .int .i64 x.cols, .int .i64 x.ld], .agg #[(.slice aY y.ws.length cY), .int .i64 y.off, .int .i64 y.rows, .int .i64 y.cols, .int .i64 y.ld], .agg #[(.slice aZ z.ws.length cZ), .int .i64 z.off, .int .i64 z.rows, .int .i64 z.cols, .int .i64 z.ld]] w' (fun e w2 => e = .returned (.bool false) ∧ ∃ o n, w2 = ext w' o n) := fun w' h1 h2 h3 => by
    have := great11_any x y z _ _ _ w' h1 h2 h3; rw [lx, ly, lz] at this; exact this
  have hwx' : x.wf := hwx
  have hlx' : x.ws.length ≤ 1000000 := by show x.ws.length ≤ _; omega
  have hapx : ∀ w', FS w' (.slice aX x.ws.length cX) x.ws → Calls Try.prog 43 #[.agg #[(.slice aX x.ws.length cX), .int .i64 x.off, .int .i64 x.rows, .int .i64 x.cols, .int .i64 x.ld]] w' (fun e w2 => ∃ v, e = .returned (.agg #[v, .int .i64 x.off, .int .i64 x.rows, .int .i64 x.cols, .int .i64 x.ld]) ∧ WS w2 w'.heap.size v x.ws ∧ ∃ o n, w2 = ext w' o n) := fun w' h => apart_any x _ w' h hlx'
  have hofx : x.good = true → ∀ w', FS w' (.slice aX x.ws.length cX) x.ws → Calls Try.prog 48 #[.agg #[(.slice aX x.ws.length cX), .int .i64 x.off, .int .i64 x.rows, .int .i64 x.cols, .int .i64 x.ld]] w' (fun e w2 => ∃ v, e = .returned (.agg #[.int .i64 x.rows, .int .i64 x.cols, v]) ∧ WS w2 w'.heap.size v x.tab ∧ ∃ o n, w2 = ext w' o n) := fun h0 w' h => rof_any x _ w' h h0 (by show x.rows ≤ _; omega) (by show x.cols ≤ _; omega) hlx' hwx'
  have hwy' : y.wf := hwy
  have hly' : y.ws.length ≤ 1000000 := by show y.ws.length ≤ _; omega
  have hapy : ∀ w', FS w' (.slice aY y.ws.length cY) y.ws → Calls Try.prog 43 #[.agg #[(.slice aY y.ws.length cY), .int .i64 y.off, .int .i64 y.rows, .int .i64 y.cols, .int .i64 y.ld]] w' (fun e w2 => ∃ v, e = .returned (.agg #[v, .int .i64 y.off, .int .i64 y.rows, .int .i64 y.cols, .int .i64 y.ld]) ∧ WS w2 w'.heap.size v y.ws ∧ ∃ o n, w2 = ext w' o n) := fun w' h => apart_any y _ w' h hly'
  have hofy : y.good = true → ∀ w', FS w' (.slice aY y.ws.length cY) y.ws → Calls Try.prog 48 #[.agg #[(.slice aY y.ws.length cY), .int .i64 y.off, .int .i64 y.rows, .int .i64 y.cols, .int .i64 y.ld]] w' (fun e w2 => ∃ v, e = .returned (.agg #[.int .i64 y.rows, .int .i64 y.cols, v]) ∧ WS w2 w'.heap.size v y.tab ∧ ∃ o n, w2 = ext w' o n) := fun h0 w' h => rof_any y _ w' h h0 (by show y.rows ≤ _; omega) (by show y.cols ≤ _; omega) hly' hwy'
  have hwz' : z.wf := hwz
  have hlz' : z.ws.length ≤ 1000000 := by show z.ws.length ≤ _; omega
  have hapz : ∀ w', FS w' (.slice aZ z.ws.length cZ) z.ws → Calls Try.prog 43 #[.agg #[(.slice aZ z.ws.length cZ), .int .i64 z.off, .int .i64 z.rows, .int .i64 z.cols, .int .i64 z.ld]] w' (fun e w2 => ∃ v, e = .returned (.agg #[v, .int .i64 z.off, .int .i64 z.rows, .int .i64 z.cols, .int .i64 z.ld]) ∧ WS w2 w'.heap.size v z.ws ∧ ∃ o n, w2 = ext w' o n) := fun w' h => apart_any z _ w' h hlz'
  have hofz : z.good = true → ∀ w', FS w' (.slice aZ z.ws.length cZ) z.ws → Calls Try.prog 48 #[.agg #[(.slice aZ z.ws.length cZ), .int .i64 z.off, .int .i64 z.rows, .int .i64 z.cols, .int .i64 z.ld]] w' (fun e w2 => ∃ v, e = .returned (.agg #[.int .i64 z.rows, .int .i64 z.cols, v]) ∧ WS w2 w'.heap.size v z.tab ∧ ∃ o n, w2 = ext w' o n) := fun h0 w' h => rof_any z _ w' h h0 (by show z.rows ≤ _; omega) (by show z.cols ≤ _; omega) hlz' hwz'
  obtain ⟨E, hE⟩ : ∃ E, Hid (E = gemmE x y z false false) := ⟨_, hid rfl⟩
  have eE : gemmE x y z (decide ((2 : Int) = 1)) (decide ((2 : Int) = 2)) = E := by rw [hE.out]; unfold gemmE; rw [show decide ((2 : Int) = 1) = false by decide, show decide ((2 : Int) = 2) = true by decide, meet_emptyM y Ho.out, meetM_false, meetM_false]
  have hck0 : ∀ w', FS w' (.slice aX x.ws.length cX) x.ws → FS w' (.slice aY y.ws.length cY) y.ws → FS w' (.slice aZ z.ws.length cZ) z.ws → Calls Try.prog 76 #[.agg #[(.slice aX x.ws.length cX), .int .i64 x.off, .int .i64 x.rows, .int .i64 x.cols, .int .i64 x.ld], .agg #[(.slice aY y.ws.length cY), .int .i64 y.off, .int .i64 y.rows, .int .i64 y.cols, .int .i64 y.ld], .agg #[(.slice aZ z.ws.length cZ), .int .i64 z.off, .int .i64 z.rows, .int .i64 z.cols, .int .i64 z.ld], .int .i64 2] w' (fun e w2 => e = .returned (.int .i64 E) ∧ ∃ o n, w2 = ext w' o n) := fun w' h1 h2 h3 => by
    rw [← eE]; exact check11_any x y z _ _ _ 2 w' h1 h2 h3 hwx' hwy' hwz' hlx' hly' hlz'
  clear eE
  have Hwx := hid hwx'
  have Hwy := hid hwy'
  have Hwz := hid hwz'
  clear hwx hwy hwz lx ly lz hwx' hwy' hwz'
  go_enter Try.func9, Try.ntmps9
  refine seq_stop ?_
  go_wp2
  refine stop_go (fun W hW => ?_)
  have s1 : w.heap.size < W.heap.size := by rw [hW]; simp only [World.size_alloc]; omega
  have b1 : ∀ i, W.cell? ⟨w.heap.size, i, none⟩ = (#[(.slice aX x.ws.length cX), .int .i64 x.off, .int .i64 x.rows, .int .i64 x.cols, .int .i64 x.ld] : Array Value)[i]? := by intro i; rw [hW]; go_simp
  have f1 : ∀ i, W.frozen? ⟨w.heap.size, i, none⟩ = false := by intro i; rw [hW]; go_simp
  have s2 : w.heap.size + 1 < W.heap.size := by rw [hW]; simp only [World.size_alloc]; omega
  have b2 : ∀ i, W.cell? ⟨w.heap.size + 1, i, none⟩ = (#[(.slice aY y.ws.length cY), .int .i64 y.off, .int .i64 y.rows, .int .i64 y.cols, .int .i64 y.ld] : Array Value)[i]? := by intro i; rw [hW]; go_simp
  have f2 : ∀ i, W.frozen? ⟨w.heap.size + 1, i, none⟩ = false := by intro i; rw [hW]; go_simp
  have s3 : w.heap.size + 1 + 1 < W.heap.size := by rw [hW]; simp only [World.size_alloc]; omega
  have b3 : ∀ i, W.cell? ⟨w.heap.size + 1 + 1, i, none⟩ = (#[(.slice aZ z.ws.length cZ), .int .i64 z.off, .int .i64 z.rows, .int .i64 z.cols, .int .i64 z.ld] : Array Value)[i]? := by intro i; rw [hW]; go_simp
  have f3 : ∀ i, W.frozen? ⟨w.heap.size + 1 + 1, i, none⟩ = false := by intro i; rw [hW]; go_simp
  have g0 : Grew w W := by rw [hW]; exact (((Grew.refl _).alloc _).alloc _).alloc _
  clear hW
  have hXW := hX.grew g0
  have hYW := hY.grew g0
  have hZW := hZ.grew g0
  go_wp2_with (first | (go_at_call 73; ((with_reducible refine (awake11 _).mono ?_); rintro e w1 ⟨rfl, o1, n1, rfl⟩)) | (go_at_call 74; ((with_reducible refine (hgr _ ?_ ?_ ?_).mono ?_); (focus (first | (with_reducible assumption) | (with_reducible refine FS.ext ?_ _ _; with_reducible assumption) | (with_reducible refine IS.ext ?_ _ _; with_reducible assumption) | (refine hDu _ ?_; with_reducible assumption) | (refine hOu _ ?_; with_reducible assumption) | (refine hDa _ ?_; with_reducible assumption) | (refine hDb _ ?_; with_reducible assumption) | (refine hDc _ ?_; with_reducible assumption) | (refine hDd _ ?_; with_reducible assumption) | (refine FW.fs ?_ (by omega) _; with_reducible assumption) | (refine WS.fs ?_; with_reducible assumption) | (refine FW.fs ?_ (by omega) _; assumption) | omega | assumption)); (focus (first | (with_reducible assumption) | (with_reducible refine FS.ext ?_ _ _; with_reducible assumption) | (with_reducible refine IS.ext ?_ _ _; with_reducible assumption) | (refine hDu _ ?_; with_reducible assumption) | (refine hOu _ ?_; with_reducible assumption) | (refine hDa _ ?_; with_reducible assumption) | (refine hDb _ ?_; with_reducible assumption) | (refine hDc _ ?_; with_reducible assumption) | (refine hDd _ ?_; with_reducible assumption) | (refine FW.fs ?_ (by omega) _; with_reducible assumption) | (refine WS.fs ?_; with_reducible assumption) | (refine FW.fs ?_ (by omega) _; assumption) | omega | assumption)); (focus (first | (with_reducible assumption) | (with_reducible refine FS.ext ?_ _ _; with_reducible assumption) | (with_reducible refine IS.ext ?_ _ _; with_reducible assumption) | (refine hDu _ ?_; with_reducible assumption) | (refine hOu _ ?_; with_reducible assumption) | (refine hDa _ ?_; with_reducible assumption) | (refine hDb _ ?_; with_reducible assumption) | (refine hDc _ ?_; with_reducible assumption) | (refine hDd _ ?_; with_reducible assumption) | (refine FW.fs ?_ (by omega) _; with_reducible assumption) | (refine WS.fs ?_; with_reducible assumption) | (refine FW.fs ?_ (by omega) _; assumption) | omega | assumption)); rintro e w1 ⟨rfl, o1, n1, rfl⟩)))
  refine name_any (fun V0 hV0 => ?_)
  have gw0 : Grew w V0 := by rw [← hV0]; (show Grew _ _; repeat (first | (with_reducible exact Grew.refl _) | (with_reducible assumption) | (with_reducible refine Grew.ext ?_ _ _) | (with_reducible refine Grew.alloc ?_ _) | ((with_reducible refine Grew.setCell ?_ ?_ _); rotate_left; (focus (dsimp only; first | omega | (simp only [size_ext, World.size_alloc, Array.size_append]; omega)))) | (with_reducible refine Grew.drewN ?_ _) | (with_reducible refine Grew.drew ?_)))
  have zw0 : W.heap.size ≤ V0.heap.size := by rw [← hV0]; simp only [size_ext, size_setCell']; omega
  have b1' : ∀ i, V0.cell? ⟨w.heap.size, i, none⟩ = (#[(.slice aX x.ws.length cX), .int .i64 x.off, .int .i64 x.rows, .int .i64 x.cols, .int .i64 x.ld] : Array Value)[i]? := by subst hV0; intro i; go_simp
  have b2' : ∀ i, V0.cell? ⟨w.heap.size + 1, i, none⟩ = (#[(.slice aY y.ws.length cY), .int .i64 y.off, .int .i64 y.rows, .int .i64 y.cols, .int .i64 y.ld] : Array Value)[i]? := by subst hV0; intro i; go_simp
  have b3' : ∀ i, V0.cell? ⟨w.heap.size + 1 + 1, i, none⟩ = (#[(.slice aZ z.ws.length cZ), .int .i64 z.off, .int .i64 z.rows, .int .i64 z.cols, .int .i64 z.ld] : Array Value)[i]? := by subst hV0; intro i; go_simp
  have s1' : w.heap.size < V0.heap.size := by omega
  have s2' : w.heap.size + 1 < V0.heap.size := by omega
  have s3' : w.heap.size + 1 + 1 < V0.heap.size := by omega
  have hXV := hX.grew gw0
  have hYV := hY.grew gw0
  have hZV := hZ.grew gw0
  clear hV0 b1 b2 b3 f1 f2 f3 hXW hYW hZW
  refine wp_region_JJ V0 [.is (.agg #[(.slice aX x.ws.length cX), .int .i64 x.off, .int .i64 x.rows, .int .i64 x.cols, .int .i64 x.ld]), .row (fun s => .agg #[s, .int .i64 x.off, .int .i64 x.rows, .int .i64 x.cols, .int .i64 x.ld]) (x.ws), .is (.agg #[(.slice aY y.ws.length cY), .int .i64 y.off, .int .i64 y.rows, .int .i64 y.cols, .int .i64 y.ld]), .row (fun s => .agg #[s, .int .i64 y.off, .int .i64 y.rows, .int .i64 y.cols, .int .i64 y.ld]) (y.ws), .is (.agg #[(.slice aZ z.ws.length cZ), .int .i64 z.off, .int .i64 z.rows, .int .i64 z.cols, .int .i64 z.ld]), .row (fun s => .agg #[s, .int .i64 z.off, .int .i64 z.rows, .int .i64 z.cols, .int .i64 z.ld]) (z.ws), .box 5, .box 5, .box 5, .put 13 49 (fun s => #[s, .int .i64 x.off, .int .i64 x.rows, .int .i64 x.cols, .int .i64 x.ld]) (x.ws), .put 14 51 (fun s => #[s, .int .i64 y.off, .int .i64 y.rows, .int .i64 y.cols, .int .i64 y.ld]) (y.ws), .put 15 53 (fun s => #[s, .int .i64 z.off, .int .i64 z.rows, .int .i64 z.cols, .int .i64 z.ld]) (z.ws)] [48, 49, 50, 51, 52, 53, 13, 14, 15] (by kernel_rfl) (by kernel_rfl) (by (show Grew _ _; repeat (first | (with_reducible exact Grew.refl _) | (with_reducible assumption) | (with_reducible refine Grew.ext ?_ _ _) | (with_reducible refine Grew.alloc ?_ _) | ((with_reducible refine Grew.setCell ?_ ?_ _); rotate_left; (focus (dsimp only; first | omega | (simp only [size_ext, World.size_alloc, Array.size_append]; omega)))) | (with_reducible refine Grew.drewN ?_ _) | (with_reducible refine Grew.drew ?_)))) ?_ (fun ρ own V gV hF => ?_)
  · refine stepsS_cons (j := 1) rfl ?_ ?_
    · intro L ρ own u hS K hK
      obtain ⟨o', n', hu⟩ := hS.grew
      subst hu
      simp only [mkA_cons, mkA_nil, List.setIfInBounds_toArray, List.set_cons_zero, List.set_cons_succ]
      go_wp2_with fail
      exact hS.is rfl rfl (by kernel_rfl) (by (show Grew _ _; repeat (first | (with_reducible exact Grew.refl _) | (with_reducible assumption) | (with_reducible refine Grew.ext ?_ _ _) | (with_reducible refine Grew.alloc ?_ _) | ((with_reducible refine Grew.setCell ?_ ?_ _); rotate_left; (focus (dsimp only; first | omega | (simp only [size_ext, World.size_alloc, Array.size_append]; omega)))) | (with_reducible refine Grew.drewN ?_ _) | (with_reducible refine Grew.drew ?_)))) (by simp only [mkA_cons, mkA_nil, List.setIfInBounds_toArray, List.set_cons_zero, List.set_cons_succ, *] )
    refine stepsS_cons (j := 2) rfl ?_ ?_
    · intro L ρ own u hS K hK
      have e0 := hS.fact 0 rfl rfl (by kernel_rfl)
      change ρ 48 = _ at e0
      obtain ⟨o', n', hu⟩ := hS.grew
      subst hu
      simp only [mkA_cons, mkA_nil, List.setIfInBounds_toArray, List.set_cons_zero, List.set_cons_succ]
      go_wp2_with (first | (go_at_call 43; ((with_reducible refine (hapx _ ?_).mono ?_); (focus (first | (with_reducible assumption) | (with_reducible refine FS.ext ?_ _ _; with_reducible assumption) | (with_reducible refine IS.ext ?_ _ _; with_reducible assumption) | (refine hDu _ ?_; with_reducible assumption) | (refine hOu _ ?_; with_reducible assumption) | (refine hDa _ ?_; with_reducible assumption) | (refine hDb _ ?_; with_reducible assumption) | (refine hDc _ ?_; with_reducible assumption) | (refine hDd _ ?_; with_reducible assumption) | (refine FW.fs ?_ (by omega) _; with_reducible assumption) | (refine WS.fs ?_; with_reducible assumption) | (refine FW.fs ?_ (by omega) _; assumption) | omega | assumption)); rintro e w1 ⟨v1, rfl, ⟨g1, cap1, rfl, hg1, hF1, hgl1⟩, hw1⟩)))
      exact hS.row (cap := cap1) rfl rfl (by kernel_rfl) hw1 hg1 hF1 (by simp only [mkA_cons, mkA_nil, List.setIfInBounds_toArray, List.set_cons_zero, List.set_cons_succ, *] )
    refine stepsS_cons (j := 3) rfl ?_ ?_
    · intro L ρ own u hS K hK
      obtain ⟨o', n', hu⟩ := hS.grew
      subst hu
      simp only [mkA_cons, mkA_nil, List.setIfInBounds_toArray, List.set_cons_zero, List.set_cons_succ]
      go_wp2_with fail
      exact hS.is rfl rfl (by kernel_rfl) (by (show Grew _ _; repeat (first | (with_reducible exact Grew.refl _) | (with_reducible assumption) | (with_reducible refine Grew.ext ?_ _ _) | (with_reducible refine Grew.alloc ?_ _) | ((with_reducible refine Grew.setCell ?_ ?_ _); rotate_left; (focus (dsimp only; first | omega | (simp only [size_ext, World.size_alloc, Array.size_append]; omega)))) | (with_reducible refine Grew.drewN ?_ _) | (with_reducible refine Grew.drew ?_)))) (by simp only [mkA_cons, mkA_nil, List.setIfInBounds_toArray, List.set_cons_zero, List.set_cons_succ, *] )
    refine stepsS_cons (j := 4) rfl ?_ ?_
    · intro L ρ own u hS K hK
      have e2 := hS.fact 2 rfl rfl (by kernel_rfl)
      change ρ 50 = _ at e2
      obtain ⟨o', n', hu⟩ := hS.grew
      subst hu
      simp only [mkA_cons, mkA_nil, List.setIfInBounds_toArray, List.set_cons_zero, List.set_cons_succ]
      go_wp2_with (first | (go_at_call 43; ((with_reducible refine (hapy _ ?_).mono ?_); (focus (first | (with_reducible assumption) | (with_reducible refine FS.ext ?_ _ _; with_reducible assumption) | (with_reducible refine IS.ext ?_ _ _; with_reducible assumption) | (refine hDu _ ?_; with_reducible assumption) | (refine hOu _ ?_; with_reducible assumption) | (refine hDa _ ?_; with_reducible assumption) | (refine hDb _ ?_; with_reducible assumption) | (refine hDc _ ?_; with_reducible assumption) | (refine hDd _ ?_; with_reducible assumption) | (refine FW.fs ?_ (by omega) _; with_reducible assumption) | (refine WS.fs ?_; with_reducible assumption) | (refine FW.fs ?_ (by omega) _; assumption) | omega | assumption)); rintro e w1 ⟨v1, rfl, ⟨g1, cap1, rfl, hg1, hF1, hgl1⟩, hw1⟩)))
      exact hS.row (cap := cap1) rfl rfl (by kernel_rfl) hw1 hg1 hF1 (by simp only [mkA_cons, mkA_nil, List.setIfInBounds_toArray, List.set_cons_zero, List.set_cons_succ, *] )
    refine stepsS_cons (j := 5) rfl ?_ ?_
    · intro L ρ own u hS K hK
      obtain ⟨o', n', hu⟩ := hS.grew
      subst hu
      simp only [mkA_cons, mkA_nil, List.setIfInBounds_toArray, List.set_cons_zero, List.set_cons_succ]
      go_wp2_with fail
      exact hS.is rfl rfl (by kernel_rfl) (by (show Grew _ _; repeat (first | (with_reducible exact Grew.refl _) | (with_reducible assumption) | (with_reducible refine Grew.ext ?_ _ _) | (with_reducible refine Grew.alloc ?_ _) | ((with_reducible refine Grew.setCell ?_ ?_ _); rotate_left; (focus (dsimp only; first | omega | (simp only [size_ext, World.size_alloc, Array.size_append]; omega)))) | (with_reducible refine Grew.drewN ?_ _) | (with_reducible refine Grew.drew ?_)))) (by simp only [mkA_cons, mkA_nil, List.setIfInBounds_toArray, List.set_cons_zero, List.set_cons_succ, *] )
    refine stepsS_cons (j := 6) rfl ?_ ?_
    · intro L ρ own u hS K hK
      have e4 := hS.fact 4 rfl rfl (by kernel_rfl)
      change ρ 52 = _ at e4
      obtain ⟨o', n', hu⟩ := hS.grew
      subst hu
      simp only [mkA_cons, mkA_nil, List.setIfInBounds_toArray, List.set_cons_zero, List.set_cons_succ]
      go_wp2_with (first | (go_at_call 43; ((with_reducible refine (hapz _ ?_).mono ?_); (focus (first | (with_reducible assumption) | (with_reducible refine FS.ext ?_ _ _; with_reducible assumption) | (with_reducible refine IS.ext ?_ _ _; with_reducible assumption) | (refine hDu _ ?_; with_reducible assumption) | (refine hOu _ ?_; with_reducible assumption) | (refine hDa _ ?_; with_reducible assumption) | (refine hDb _ ?_; with_reducible assumption) | (refine hDc _ ?_; with_reducible assumption) | (refine hDd _ ?_; with_reducible assumption) | (refine FW.fs ?_ (by omega) _; with_reducible assumption) | (refine WS.fs ?_; with_reducible assumption) | (refine FW.fs ?_ (by omega) _; assumption) | omega | assumption)); rintro e w1 ⟨v1, rfl, ⟨g1, cap1, rfl, hg1, hF1, hgl1⟩, hw1⟩)))
      exact hS.row (cap := cap1) rfl rfl (by kernel_rfl) hw1 hg1 hF1 (by simp only [mkA_cons, mkA_nil, List.setIfInBounds_toArray, List.set_cons_zero, List.set_cons_succ, *] )
    refine stepsS_cons (j := 7) rfl ?_ ?_
    · intro L ρ own u hS K hK
      simp only [mkA_cons, mkA_nil, List.setIfInBounds_toArray, List.set_cons_zero, List.set_cons_succ]
      go_wp2_with fail
      exact hS.box rfl rfl (by kernel_rfl) rfl (by simp only [mkA_cons, mkA_nil, List.setIfInBounds_toArray, List.set_cons_zero, List.set_cons_succ, *] )
    refine stepsS_cons (j := 8) rfl ?_ ?_
    · intro L ρ own u hS K hK
      simp only [mkA_cons, mkA_nil, List.setIfInBounds_toArray, List.set_cons_zero, List.set_cons_succ]
      go_wp2_with fail
      exact hS.box rfl rfl (by kernel_rfl) rfl (by simp only [mkA_cons, mkA_nil, List.setIfInBounds_toArray, List.set_cons_zero, List.set_cons_succ, *] )
    refine stepsS_cons (j := 9) rfl ?_ ?_
    · intro L ρ own u hS K hK
      simp only [mkA_cons, mkA_nil, List.setIfInBounds_toArray, List.set_cons_zero, List.set_cons_succ]
      go_wp2_with fail
      exact hS.box rfl rfl (by kernel_rfl) rfl (by simp only [mkA_cons, mkA_nil, List.setIfInBounds_toArray, List.set_cons_zero, List.set_cons_succ, *] )
    refine stepsS_cons (j := 10) rfl ?_ ?_
    · intro L ρ own u hS K hK
      exact hS.put (kb := 6) (kr := 1) rfl rfl (by kernel_rfl) (by decide) (fun _ => rfl) rfl rfl (by kernel_rfl) rfl rfl rfl (by kernel_rfl) rfl (by kernel_rfl) rfl (by simp only [mkA_cons, mkA_nil, List.setIfInBounds_toArray, List.set_cons_zero, List.set_cons_succ]; rfl) (by simp only [mkA_cons, mkA_nil, List.setIfInBounds_toArray, List.set_cons_zero, List.set_cons_succ]; rfl) (by kernel_rfl) (fun _ _ _ => by kernel_rfl) hK
    refine stepsS_cons (j := 11) rfl ?_ ?_
    · intro L ρ own u hS K hK
      exact hS.put (kb := 7) (kr := 3) rfl rfl (by kernel_rfl) (by decide) (fun _ => rfl) rfl rfl (by kernel_rfl) rfl rfl rfl (by kernel_rfl) rfl (by kernel_rfl) rfl (by simp only [mkA_cons, mkA_nil, List.setIfInBounds_toArray, List.set_cons_zero, List.set_cons_succ]; rfl) (by simp only [mkA_cons, mkA_nil, List.setIfInBounds_toArray, List.set_cons_zero, List.set_cons_succ]; rfl) (by kernel_rfl) (fun _ _ _ => by kernel_rfl) hK
    refine stepsS_cons (j := 12) rfl ?_ ?_
    · intro L ρ own u hS K hK
      exact hS.put (kb := 8) (kr := 5) rfl rfl (by kernel_rfl) (by decide) (fun _ => rfl) rfl rfl (by kernel_rfl) rfl rfl rfl (by kernel_rfl) rfl (by kernel_rfl) rfl (by simp only [mkA_cons, mkA_nil, List.setIfInBounds_toArray, List.set_cons_zero, List.set_cons_succ]; rfl) (by simp only [mkA_cons, mkA_nil, List.setIfInBounds_toArray, List.set_cons_zero, List.set_cons_succ]; rfl) (by kernel_rfl) (fun _ _ _ => by kernel_rfl) hK
    exact stepsS_nil
  have r9 := hF 9 _ _ rfl rfl
  have r10 := hF 10 _ _ rfl rfl
  have r11 := hF 11 _ _ rfl rfl
  simp only [mkA_cons, mkA_nil, List.setIfInBounds_toArray, List.set_cons_zero, List.set_cons_succ]
  obtain ⟨q, h, d, eq, h12, o12, l12, hq, oh, lh, H0⟩ := r9
  obtain ⟨r, k, f, er, h13, o13, l13, hr, ok, lk, K0⟩ := r10
  obtain ⟨p, g, c, ep, h11, o11, l11, hp, og, lg, F0⟩ := r11
  have npg := ne_own o11 og (by decide)
  have nqg := ne_own o12 og (by decide)
  have nrg := ne_own o13 og (by decide)
  have nph := ne_own o11 oh (by decide)
  have nqh := ne_own o12 oh (by decide)
  have nrh := ne_own o13 oh (by decide)
  have npk := ne_own o11 ok (by decide)
  have nqk := ne_own o12 ok (by decide)
  have nrk := ne_own o13 ok (by decide)
  have nhg := ne_own oh og (by decide)
  have nkg := ne_own ok og (by decide)
  have npq := ne_own o11 o12 (by decide)
  have npq' := npq.symm
  have npr := ne_own o11 o13 (by decide)
  have npr' := npr.symm
  have nqr := ne_own o12 o13 (by decide)
  have nqr' := nqr.symm
  have ltp := some_lt hp
  have ltq := some_lt hq
  have ltr := some_lt hr
  have ltg := F0.lt
  have zV0 := gV.below.size
  have gwV : Grew w V := gw0.trans gV
  have e1 := fun i => (gV.cell s1').trans (b1' i)
  have e2 := fun i => (gV.cell s2').trans (b2' i)
  have e3 := fun i => (gV.cell s3').trans (b3' i)
  have ep1 := fun i => cell_of_block (i := i) hp
  have eq1 := fun i => cell_of_block (i := i) hq
  have er1 := fun i => cell_of_block (i := i) hr
  have zq : ∀ i, V.frozen? ⟨q, i, none⟩ = false := fun i => frozen_of_block' hq
  have zr : ∀ i, V.frozen? ⟨r, i, none⟩ = false := fun i => frozen_of_block' hr
  have x1 : w.heap.size < V.heap.size := by omega
  have x2 : w.heap.size + 1 < V.heap.size := by omega
  have x3 : w.heap.size + 1 + 1 < V.heap.size := by omega
  have y1 : w.heap.size ≠ q := by omega
  have y2 : w.heap.size + 1 ≠ q := by omega
  have y3 : w.heap.size + 1 + 1 ≠ q := by omega
  have y4 : w.heap.size ≠ r := by omega
  have y5 : w.heap.size + 1 ≠ r := by omega
  have y6 : w.heap.size + 1 + 1 ≠ r := by omega
  simp only [h11, h12, h13]
  clear hF hp hq hr hgr b1' b2' b3' hapx hapy hapz
  go_wp2_with fail
  refine name_call (fun V1 hV1 => ?_)
  have gw1 : Grew w V1 := by rw [← hV1]; (show Grew _ _; repeat (first | (with_reducible exact Grew.refl _) | (with_reducible assumption) | (with_reducible refine Grew.ext ?_ _ _) | (with_reducible refine Grew.alloc ?_ _) | ((with_reducible refine Grew.setCell ?_ ?_ _); rotate_left; (focus (dsimp only; first | omega | (simp only [size_ext, World.size_alloc, Array.size_append]; omega)))) | (with_reducible refine Grew.drewN ?_ _) | (with_reducible refine Grew.drew ?_)))
  have zV1 : V.heap.size ≤ V1.heap.size := by rw [← hV1]; first | exact Nat.le_refl _ | (simp only [size_setCell']; exact Nat.le_refl _)
  have zV2 := gw1.below.size
  have j1 : ∀ i, V1.cell? ⟨w.heap.size, i, none⟩ = (#[(.slice aX x.ws.length cX), .int .i64 x.off, .int .i64 x.rows, .int .i64 x.cols, .int .i64 x.ld] : Array Value)[i]? := by subst hV1; intro i; go_simp
  have j2 : ∀ i, V1.cell? ⟨w.heap.size + 1, i, none⟩ = (#[(.slice aY y.ws.length cY), .int .i64 y.off, .int .i64 y.rows, .int .i64 y.cols, .int .i64 y.ld] : Array Value)[i]? := by subst hV1; intro i; go_simp
  have j3 : ∀ i, V1.cell? ⟨w.heap.size + 1 + 1, i, none⟩ = (#[(.slice aZ z.ws.length cZ), .int .i64 z.off, .int .i64 z.rows, .int .i64 z.cols, .int .i64 z.ld] : Array Value)[i]? := by subst hV1; intro i; go_simp
  have jp : ∀ i, V1.cell? ⟨p, i, none⟩ = (#[(.slice (some ⟨g, 0, none⟩) z.ws.length c), .int .i64 z.off, .int .i64 z.rows, .int .i64 z.cols, .int .i64 z.ld] : Array Value)[i]? := by subst hV1; intro i; go_simp
  have jq : ∀ i, V1.cell? ⟨q, i, none⟩ = (#[(.slice (some ⟨h, 0, none⟩) x.ws.length d), .int .i64 x.off, .int .i64 x.rows, .int .i64 x.cols, .int .i64 x.ld] : Array Value)[i]? := by subst hV1; intro i; go_simp
  have jr : ∀ i, V1.cell? ⟨r, i, none⟩ = (#[(.slice (some ⟨k, 0, none⟩) y.ws.length f), .int .i64 y.off, .int .i64 y.rows, .int .i64 y.cols, .int .i64 y.ld] : Array Value)[i]? := by subst hV1; intro i; go_simp
  have F1 : FW V1 g z.ws := by rw [← hV1]; repeat (first | exact F0 | refine FW.setCell_ne ?_ nrg _)
  have H1 : FW V1 h x.ws := by rw [← hV1]; repeat (first | exact H0 | refine FW.setCell_ne ?_ nrh _)
  have K1 : FW V1 k y.ws := by rw [← hV1]; repeat (first | exact K0 | refine FW.setCell_ne ?_ nqk _)
  have hgw : ∀ b ∈ [g], w.heap.size ≤ b := by intro b hb; simp at hb; omega
  have c1 : ∀ w', But V1 [g] w' → ∀ i, w'.cell? ⟨w.heap.size, i, none⟩ = (#[(.slice aX x.ws.length cX), .int .i64 x.off, .int .i64 x.rows, .int .i64 x.cols, .int .i64 x.ld] : Array Value)[i]? := fun w' h i => (h.cell (by omega) (by simp; omega)).trans (j1 i)
  have c2 : ∀ w', But V1 [g] w' → ∀ i, w'.cell? ⟨w.heap.size + 1, i, none⟩ = (#[(.slice aY y.ws.length cY), .int .i64 y.off, .int .i64 y.rows, .int .i64 y.cols, .int .i64 y.ld] : Array Value)[i]? := fun w' h i => (h.cell (by omega) (by simp; omega)).trans (j2 i)
  have c3 : ∀ w', But V1 [g] w' → ∀ i, w'.cell? ⟨w.heap.size + 1 + 1, i, none⟩ = (#[(.slice aZ z.ws.length cZ), .int .i64 z.off, .int .i64 z.rows, .int .i64 z.cols, .int .i64 z.ld] : Array Value)[i]? := fun w' h i => (h.cell (by omega) (by simp; omega)).trans (j3 i)
  have cp : ∀ w', But V1 [g] w' → ∀ i, w'.cell? ⟨p, i, none⟩ = (#[(.slice (some ⟨g, 0, none⟩) z.ws.length c), .int .i64 z.off, .int .i64 z.rows, .int .i64 z.cols, .int .i64 z.ld] : Array Value)[i]? := fun w' h i => (h.cell (by omega) (by simp; omega)).trans (jp i)
  have cq : ∀ w', But V1 [g] w' → ∀ i, w'.cell? ⟨q, i, none⟩ = (#[(.slice (some ⟨h, 0, none⟩) x.ws.length d), .int .i64 x.off, .int .i64 x.rows, .int .i64 x.cols, .int .i64 x.ld] : Array Value)[i]? := fun w' h i => (h.cell (by omega) (by simp; omega)).trans (jq i)
  have cr : ∀ w', But V1 [g] w' → ∀ i, w'.cell? ⟨r, i, none⟩ = (#[(.slice (some ⟨k, 0, none⟩) y.ws.length f), .int .i64 y.off, .int .i64 y.rows, .int .i64 y.cols, .int .i64 y.ld] : Array Value)[i]? := fun w' h i => (h.cell (by omega) (by simp; omega)).trans (jr i)
  have hDu := But.fs gw1 hZ hgw
  have hDa := But.fs gw1 hX hgw
  have hDb : ∀ w', But V1 [g] w' → FS w' (.slice (some ⟨h, 0, none⟩) x.ws.length d) x.ws := fun w' hb => hb.fs_ne (H1.fs (by omega) d) nhg
  have hDc := But.fs gw1 hY hgw
  have hDd : ∀ w', But V1 [g] w' → FS w' (.slice (some ⟨k, 0, none⟩) y.ws.length f) y.ws := fun w' hb => hb.fs_ne (K1.fs (by omega) f) nkg
  have hmul : Calls Try.prog 75 #[.float .f64 a, .agg #[(.slice (some ⟨h, 0, none⟩) x.ws.length d), .int .i64 x.off, .int .i64 x.rows, .int .i64 x.cols, .int .i64 x.ld], .agg #[(.slice (some ⟨k, 0, none⟩) y.ws.length f), .int .i64 y.off, .int .i64 y.rows, .int .i64 y.cols, .int .i64 y.ld], .float .f64 b, .agg #[(.slice (some ⟨g, 0, none⟩) z.ws.length c), .int .i64 z.off, .int .i64 z.rows, .int .i64 z.cols, .int .i64 z.ld]] V1 (fun e w' => e = .returned (.int .i64 E) ∧ But V1 [g] w' ∧ ∃ L, FW w' g L ∧ (E ≠ 0 → L = z.ws) ∧ (E = 0 → Hold z.place z.rows.toNat z.cols.toNat z.ws L (gemmF α β x y z))) := by
    have := gemm_any a α b β x y z h d k f g c V1 (H1.fs (by omega) d) (K1.fs (by omega) f) F1 (FW.plain H1) (FW.plain K1) (fun e => absurd e nhg) (fun e => absurd e nkg) Hwx.out Hwy.out Hwz.out hlx' hly' hlz' H1.lt K1.lt ha hb
    rw [show decide (g = h) = false by simpa using nhg.symm, show decide (g = k) = false by simpa using nkg.symm, ← hE.out] at this
    exact this
  clear hV1 e1 e2 e3 ep1 eq1 er1 zq zr j1 j2 j3 jp jq jr F0 H0 K0
  by_cases h0 : E = 0
  · subst h0
    obtain ⟨gx, gy, gz, e1, e2, e3, _, _⟩ := gemmE_ok hE.out.symm
    have hpart : ∀ w' A B D, FS w' A x.tab → FS w' B y.tab → FS w' D z.tab → Calls Try.prog 77 #[.float .f64 a, .agg #[.int .i64 x.rows, .int .i64 x.cols, A], .agg #[.int .i64 y.rows, .int .i64 y.cols, B], .float .f64 b, .agg #[.int .i64 z.rows, .int .i64 z.cols, D]] w' (fun e w2 => ∃ v t, e = .returned (.agg #[.int .i64 z.rows, .int .i64 z.cols, v]) ∧ FS w2 v t ∧ t.length = z.rows.toNat * z.cols.toNat ∧ Hold z.place z.rows.toNat z.cols.toNat z.ws (z.into z.rows.toNat z.cols.toNat t) (gemmF α β x y z) ∧ ∃ o n, w2 = ext w' o n) := rmul_mat a α b β x y z ha hb gx gy gz e1 e2 e3 (by show x.rows ≤ _; omega) (by show x.cols ≤ _; omega) (by show y.cols ≤ _; omega)
    have hin := rinto_matZ z (.slice aZ z.ws.length cZ) gz (by omega) (by omega) (by omega)
    have hofx' := hofx gx
    have hofy' := hofy gy
    have hofz' := hofz gz
    clear hofx hofy hofz gx gy gz e1 e2 e3
    have hfL : ∀ (L : List Nat) w', FW w' g L → L.length = z.ws.length → FS w' (.slice (some ⟨g, 0, none⟩) z.ws.length c) L := fun L w' h1 h2 => by
      have := h1.fs (by rw [h2]; omega) c; rwa [h2] at this
    go_wp2_with (first | (go_at_call 75; ((with_reducible refine (hmul).mono ?_); rintro e w1 ⟨rfl, B1, L, F, hL1, hL0⟩; (have hH := hid (hL0 rfl)); clear hL1 hL0)) | (go_at_call 76; ((with_reducible refine (hck0 _ ?_ ?_ ?_).mono ?_); (focus (first | (with_reducible assumption) | (with_reducible refine FS.ext ?_ _ _; with_reducible assumption) | (with_reducible refine IS.ext ?_ _ _; with_reducible assumption) | (refine hDu _ ?_; with_reducible assumption) | (refine hOu _ ?_; with_reducible assumption) | (refine hDa _ ?_; with_reducible assumption) | (refine hDb _ ?_; with_reducible assumption) | (refine hDc _ ?_; with_reducible assumption) | (refine hDd _ ?_; with_reducible assumption) | (refine FW.fs ?_ (by omega) _; with_reducible assumption) | (refine WS.fs ?_; with_reducible assumption) | (refine FW.fs ?_ (by omega) _; assumption) | omega | assumption)); (focus (first | (with_reducible assumption) | (with_reducible refine FS.ext ?_ _ _; with_reducible assumption) | (with_reducible refine IS.ext ?_ _ _; with_reducible assumption) | (refine hDu _ ?_; with_reducible assumption) | (refine hOu _ ?_; with_reducible assumption) | (refine hDa _ ?_; with_reducible assumption) | (refine hDb _ ?_; with_reducible assumption) | (refine hDc _ ?_; with_reducible assumption) | (refine hDd _ ?_; with_reducible assumption) | (refine FW.fs ?_ (by omega) _; with_reducible assumption) | (refine WS.fs ?_; with_reducible assumption) | (refine FW.fs ?_ (by omega) _; assumption) | omega | assumption)); (focus (first | (with_reducible assumption) | (with_reducible refine FS.ext ?_ _ _; with_reducible assumption) | (with_reducible refine IS.ext ?_ _ _; with_reducible assumption) | (refine hDu _ ?_; with_reducible assumption) | (refine hOu _ ?_; with_reducible assumption) | (refine hDa _ ?_; with_reducible assumption) | (refine hDb _ ?_; with_reducible assumption) | (refine hDc _ ?_; with_reducible assumption) | (refine hDd _ ?_; with_reducible assumption) | (refine FW.fs ?_ (by omega) _; with_reducible assumption) | (refine WS.fs ?_; with_reducible assumption) | (refine FW.fs ?_ (by omega) _; assumption) | omega | assumption)); rintro e w1 ⟨rfl, hw1⟩; (have B1 : But V1 [g] w1 := But.grew (by assumption) hw1; have F : FW w1 g _ := FW.grew (by assumption) hw1))))
    refine wp_region_R (But V1 [g]) [] [(0,0), (0,1), (0,2), (0,4), (0,6), (0,7), (1,3), (1,5), (1,8), (1,9), (1,10), (0,11)] (by kernel_rfl) (by kernel_rfl) (fun _ _ _ _ h _ => h) (B1.grew ((Grew.refl _).drew)) ?_
    refine name_any (fun V6 hV6 => ?_)
    have hg6 : Grew w1 V6 := by rw [← hV6]; (show Grew _ _; repeat (first | (with_reducible exact Grew.refl _) | (with_reducible assumption) | (with_reducible refine Grew.ext ?_ _ _) | (with_reducible refine Grew.alloc ?_ _) | ((with_reducible refine Grew.setCell ?_ ?_ _); rotate_left; (focus (dsimp only; first | omega | (simp only [size_ext, World.size_alloc, Array.size_append]; omega)))) | (with_reducible refine Grew.drewN ?_ _) | (with_reducible refine Grew.drew ?_)))
    have B6 := B1.grew hg6
    have F6 := F.grew hg6
    clear hV6 hg6 B1 F
    go_wp2_with (first | ((with_reducible refine wpR_id ?_); first | (refine wpR_take (v := ?_) rfl rfl ?_ ?_; rotate_left; (focus (intro w' hw'; go_simp; try with_reducible rfl)); simp only [Act.put, List.setIfInBounds_toArray, List.set_cons_zero, List.set_cons_succ]) | (refine wpR_pure (v := ?_) rfl rfl ?_ ?_; rotate_left; (focus (intro w'; go_simp; try with_reducible rfl)); simp only [Act.put, List.setIfInBounds_toArray, List.set_cons_zero, List.set_cons_succ]) | (refine wpR_takeG (v := ?_) rfl rfl rfl rfl rfl ?_ ?_; rotate_left; (focus (intro w' hw'; go_simp; try with_reducible rfl)); simp only [Act.put, List.setIfInBounds_toArray, List.set_cons_zero, List.set_cons_succ]) | (refine wpR_skip rfl rfl rfl rfl rfl rfl ?_; simp only [Act.put, List.setIfInBounds_toArray, List.set_cons_zero, List.set_cons_succ]) | (refine wpR_skipU rfl rfl rfl rfl rfl ?_; simp only [Act.put, List.setIfInBounds_toArray, List.set_cons_zero, List.set_cons_succ]) | (refine wpR_do rfl rfl (fun K hK => ?_)) | (refine wpR_doG rfl rfl rfl rfl rfl (fun K hK => ?_)) | (refine wpR_last rfl rfl (fun K hK => ?_)) | (refine wpR_nil ?_)) | ((with_reducible refine wpR_go ?_ ?_); (focus (with_reducible assumption))) | ((with_reducible refine upon_id ?_); refine upon_fop rfl (by assumption) (by assumption) ?_; intro rr nn hr) | (go_at_call 48; ((with_reducible refine (hofx' _ ?_).mono ?_); (focus (first | (with_reducible assumption) | (with_reducible refine FS.ext ?_ _ _; with_reducible assumption) | (with_reducible refine IS.ext ?_ _ _; with_reducible assumption) | (refine hDu _ ?_; with_reducible assumption) | (refine hOu _ ?_; with_reducible assumption) | (refine hDa _ ?_; with_reducible assumption) | (refine hDb _ ?_; with_reducible assumption) | (refine hDc _ ?_; with_reducible assumption) | (refine hDd _ ?_; with_reducible assumption) | (refine FW.fs ?_ (by omega) _; with_reducible assumption) | (refine WS.fs ?_; with_reducible assumption) | (refine FW.fs ?_ (by omega) _; assumption) | omega | assumption)); rintro e w1 ⟨v1, rfl, hv1, hw1⟩; (have B1 : But V1 [g] w1 := But.grew (by assumption) hw1; have F : FW w1 g _ := FW.grew (by assumption) hw1); (have hv1 := hv1.fs))) | (go_at_call 48; ((with_reducible refine (hofy' _ ?_).mono ?_); (focus (first | (with_reducible assumption) | (with_reducible refine FS.ext ?_ _ _; with_reducible assumption) | (with_reducible refine IS.ext ?_ _ _; with_reducible assumption) | (refine hDu _ ?_; with_reducible assumption) | (refine hOu _ ?_; with_reducible assumption) | (refine hDa _ ?_; with_reducible assumption) | (refine hDb _ ?_; with_reducible assumption) | (refine hDc _ ?_; with_reducible assumption) | (refine hDd _ ?_; with_reducible assumption) | (refine FW.fs ?_ (by omega) _; with_reducible assumption) | (refine WS.fs ?_; with_reducible assumption) | (refine FW.fs ?_ (by omega) _; assumption) | omega | assumption)); rintro e w1 ⟨v2, rfl, hv2, hw1⟩; (have B1 : But V1 [g] w1 := But.grew (by assumption) hw1; have F : FW w1 g _ := FW.grew (by assumption) hw1); (have hv2 := hv2.fs; have hv1 := hv1.grew hw1))) | (go_at_call 48; ((with_reducible refine (hofz' _ ?_).mono ?_); (focus (first | (with_reducible assumption) | (with_reducible refine FS.ext ?_ _ _; with_reducible assumption) | (with_reducible refine IS.ext ?_ _ _; with_reducible assumption) | (refine hDu _ ?_; with_reducible assumption) | (refine hOu _ ?_; with_reducible assumption) | (refine hDa _ ?_; with_reducible assumption) | (refine hDb _ ?_; with_reducible assumption) | (refine hDc _ ?_; with_reducible assumption) | (refine hDd _ ?_; with_reducible assumption) | (refine FW.fs ?_ (by omega) _; with_reducible assumption) | (refine WS.fs ?_; with_reducible assumption) | (refine FW.fs ?_ (by omega) _; assumption) | omega | assumption)); rintro e w1 ⟨v3, rfl, hv3, hw1⟩; (have B1 : But V1 [g] w1 := But.grew (by assumption) hw1; have F : FW w1 g _ := FW.grew (by assumption) hw1); (have hv3 := hv3.fs; have hv1 := hv1.grew hw1; have hv2 := hv2.grew hw1))) | (go_at_call 77; ((with_reducible refine (hpart _ v1 v2 v3 hv1 hv2 hv3).mono ?_); rintro e w1 ⟨v4, t4, rfl, hv4, ht4, hH4, hw1⟩; (have B1 : But V1 [g] w1 := But.grew (by assumption) hw1; have F : FW w1 g _ := FW.grew (by assumption) hw1))) | (go_at_call 51; ((with_reducible refine (hin _ v4 t4 ?_ hv4 ht4).mono ?_); (focus (first | (with_reducible assumption) | (with_reducible refine FS.ext ?_ _ _; with_reducible assumption) | (with_reducible refine IS.ext ?_ _ _; with_reducible assumption) | (refine hDu _ ?_; with_reducible assumption) | (refine hOu _ ?_; with_reducible assumption) | (refine hDa _ ?_; with_reducible assumption) | (refine hDb _ ?_; with_reducible assumption) | (refine hDc _ ?_; with_reducible assumption) | (refine hDd _ ?_; with_reducible assumption) | (refine FW.fs ?_ (by omega) _; with_reducible assumption) | (refine WS.fs ?_; with_reducible assumption) | (refine FW.fs ?_ (by omega) _; assumption) | omega | assumption)); rintro e w1 ⟨v5, rfl, hv5, hw1⟩; (have B1 : But V1 [g] w1 := But.grew (by assumption) hw1; have F : FW w1 g _ := FW.grew (by assumption) hw1); (have hv5 : FS w1 v5 L := by rw [Hold.unique hH.out hH4 (fun _ _ _ _ => rfl)]; exact hv5); clear hH4)) | (go_at_call 47; ((with_reducible refine (all_any (.slice (some ⟨g, 0, none⟩) z.ws.length c) v5 L L _ (hfL L _ (by assumption) hH.out.len) hv5).mono ?_); rintro e w1 ⟨rfl, hw1⟩; (have B1 : But V1 [g] w1 := But.grew (by assumption) hw1; have F : FW w1 g _ := FW.grew (by assumption) hw1))) | (go_at_call 47; ((with_reducible refine (all_any (.slice (some ⟨g, 0, none⟩) z.ws.length c) (.slice aZ z.ws.length cZ) z.ws z.ws _ ?_ ?_).mono ?_); (focus (first | (with_reducible assumption) | (with_reducible refine FS.ext ?_ _ _; with_reducible assumption) | (with_reducible refine IS.ext ?_ _ _; with_reducible assumption) | (refine hDu _ ?_; with_reducible assumption) | (refine hOu _ ?_; with_reducible assumption) | (refine hDa _ ?_; with_reducible assumption) | (refine hDb _ ?_; with_reducible assumption) | (refine hDc _ ?_; with_reducible assumption) | (refine hDd _ ?_; with_reducible assumption) | (refine FW.fs ?_ (by omega) _; with_reducible assumption) | (refine WS.fs ?_; with_reducible assumption) | (refine FW.fs ?_ (by omega) _; assumption) | omega | assumption)); (focus (first | (with_reducible assumption) | (with_reducible refine FS.ext ?_ _ _; with_reducible assumption) | (with_reducible refine IS.ext ?_ _ _; with_reducible assumption) | (refine hDu _ ?_; with_reducible assumption) | (refine hOu _ ?_; with_reducible assumption) | (refine hDa _ ?_; with_reducible assumption) | (refine hDb _ ?_; with_reducible assumption) | (refine hDc _ ?_; with_reducible assumption) | (refine hDd _ ?_; with_reducible assumption) | (refine FW.fs ?_ (by omega) _; with_reducible assumption) | (refine WS.fs ?_; with_reducible assumption) | (refine FW.fs ?_ (by omega) _; assumption) | omega | assumption)); rintro e w1 ⟨rfl, hw1⟩; (have B1 : But V1 [g] w1 := But.grew (by assumption) hw1; have F : FW w1 g _ := FW.grew (by assumption) hw1))) | (go_at_call 47; ((with_reducible refine (all_any (.slice (some ⟨h, 0, none⟩) x.ws.length d) (.slice aX x.ws.length cX) x.ws x.ws _ ?_ ?_).mono ?_); (focus (first | (with_reducible assumption) | (with_reducible refine FS.ext ?_ _ _; with_reducible assumption) | (with_reducible refine IS.ext ?_ _ _; with_reducible assumption) | (refine hDu _ ?_; with_reducible assumption) | (refine hOu _ ?_; with_reducible assumption) | (refine hDa _ ?_; with_reducible assumption) | (refine hDb _ ?_; with_reducible assumption) | (refine hDc _ ?_; with_reducible assumption) | (refine hDd _ ?_; with_reducible assumption) | (refine FW.fs ?_ (by omega) _; with_reducible assumption) | (refine WS.fs ?_; with_reducible assumption) | (refine FW.fs ?_ (by omega) _; assumption) | omega | assumption)); (focus (first | (with_reducible assumption) | (with_reducible refine FS.ext ?_ _ _; with_reducible assumption) | (with_reducible refine IS.ext ?_ _ _; with_reducible assumption) | (refine hDu _ ?_; with_reducible assumption) | (refine hOu _ ?_; with_reducible assumption) | (refine hDa _ ?_; with_reducible assumption) | (refine hDb _ ?_; with_reducible assumption) | (refine hDc _ ?_; with_reducible assumption) | (refine hDd _ ?_; with_reducible assumption) | (refine FW.fs ?_ (by omega) _; with_reducible assumption) | (refine WS.fs ?_; with_reducible assumption) | (refine FW.fs ?_ (by omega) _; assumption) | omega | assumption)); rintro e w1 ⟨rfl, hw1⟩; (have B1 : But V1 [g] w1 := But.grew (by assumption) hw1; have F : FW w1 g _ := FW.grew (by assumption) hw1))) | (go_at_call 47; ((with_reducible refine (all_any (.slice (some ⟨k, 0, none⟩) y.ws.length f) (.slice aY y.ws.length cY) y.ws y.ws _ ?_ ?_).mono ?_); (focus (first | (with_reducible assumption) | (with_reducible refine FS.ext ?_ _ _; with_reducible assumption) | (with_reducible refine IS.ext ?_ _ _; with_reducible assumption) | (refine hDu _ ?_; with_reducible assumption) | (refine hOu _ ?_; with_reducible assumption) | (refine hDa _ ?_; with_reducible assumption) | (refine hDb _ ?_; with_reducible assumption) | (refine hDc _ ?_; with_reducible assumption) | (refine hDd _ ?_; with_reducible assumption) | (refine FW.fs ?_ (by omega) _; with_reducible assumption) | (refine WS.fs ?_; with_reducible assumption) | (refine FW.fs ?_ (by omega) _; assumption) | omega | assumption)); (focus (first | (with_reducible assumption) | (with_reducible refine FS.ext ?_ _ _; with_reducible assumption) | (with_reducible refine IS.ext ?_ _ _; with_reducible assumption) | (refine hDu _ ?_; with_reducible assumption) | (refine hOu _ ?_; with_reducible assumption) | (refine hDa _ ?_; with_reducible assumption) | (refine hDb _ ?_; with_reducible assumption) | (refine hDc _ ?_; with_reducible assumption) | (refine hDd _ ?_; with_reducible assumption) | (refine FW.fs ?_ (by omega) _; with_reducible assumption) | (refine WS.fs ?_; with_reducible assumption) | (refine FW.fs ?_ (by omega) _; assumption) | omega | assumption)); rintro e w1 ⟨rfl, hw1⟩; (have B1 : But V1 [g] w1 := But.grew (by assumption) hw1; have F : FW w1 g _ := FW.grew (by assumption) hw1))) | (go_at_call 73; ((with_reducible refine (awake11 _).mono ?_); rintro e w1 ⟨rfl, hw1⟩; (have B1 : But V1 [g] w1 := But.grew (by assumption) hw1; have F : FW w1 g _ := FW.grew (by assumption) hw1))))
    go_ret
    exact ⟨rfl, B1.grew0 gw1 hgw⟩
  · have hE0 := hid h0
    have d0 : (E == 0) = false := by simpa using h0
    have d1 : (E != 0) = true := by simpa using h0
    clear h0
    go_wp2_with (first | (go_at_call 75; ((with_reducible refine (hmul).mono ?_); rintro e w1 ⟨rfl, B1, L, F, hL1, hL0⟩; (obtain rfl : L = z.ws := hL1 hE0.out); clear hL1 hL0)) | (go_at_call 76; ((with_reducible refine (hck0 _ ?_ ?_ ?_).mono ?_); (focus (first | (with_reducible assumption) | (with_reducible refine FS.ext ?_ _ _; with_reducible assumption) | (with_reducible refine IS.ext ?_ _ _; with_reducible assumption) | (refine hDu _ ?_; with_reducible assumption) | (refine hOu _ ?_; with_reducible assumption) | (refine hDa _ ?_; with_reducible assumption) | (refine hDb _ ?_; with_reducible assumption) | (refine hDc _ ?_; with_reducible assumption) | (refine hDd _ ?_; with_reducible assumption) | (refine FW.fs ?_ (by omega) _; with_reducible assumption) | (refine WS.fs ?_; with_reducible assumption) | (refine FW.fs ?_ (by omega) _; assumption) | omega | assumption)); (focus (first | (with_reducible assumption) | (with_reducible refine FS.ext ?_ _ _; with_reducible assumption) | (with_reducible refine IS.ext ?_ _ _; with_reducible assumption) | (refine hDu _ ?_; with_reducible assumption) | (refine hOu _ ?_; with_reducible assumption) | (refine hDa _ ?_; with_reducible assumption) | (refine hDb _ ?_; with_reducible assumption) | (refine hDc _ ?_; with_reducible assumption) | (refine hDd _ ?_; with_reducible assumption) | (refine FW.fs ?_ (by omega) _; with_reducible assumption) | (refine WS.fs ?_; with_reducible assumption) | (refine FW.fs ?_ (by omega) _; assumption) | omega | assumption)); (focus (first | (with_reducible assumption) | (with_reducible refine FS.ext ?_ _ _; with_reducible assumption) | (with_reducible refine IS.ext ?_ _ _; with_reducible assumption) | (refine hDu _ ?_; with_reducible assumption) | (refine hOu _ ?_; with_reducible assumption) | (refine hDa _ ?_; with_reducible assumption) | (refine hDb _ ?_; with_reducible assumption) | (refine hDc _ ?_; with_reducible assumption) | (refine hDd _ ?_; with_reducible assumption) | (refine FW.fs ?_ (by omega) _; with_reducible assumption) | (refine WS.fs ?_; with_reducible assumption) | (refine FW.fs ?_ (by omega) _; assumption) | omega | assumption)); rintro e w1 ⟨rfl, hw1⟩; (have B1 : But V1 [g] w1 := But.grew (by assumption) hw1; have F : FW w1 g _ := FW.grew (by assumption) hw1))) | (go_at_call 47; ((with_reducible refine (all_any (.slice (some ⟨g, 0, none⟩) z.ws.length c) (.slice aZ z.ws.length cZ) z.ws z.ws _ ?_ ?_).mono ?_); (focus (first | (with_reducible assumption) | (with_reducible refine FS.ext ?_ _ _; with_reducible assumption) | (with_reducible refine IS.ext ?_ _ _; with_reducible assumption) | (refine hDu _ ?_; with_reducible assumption) | (refine hOu _ ?_; with_reducible assumption) | (refine hDa _ ?_; with_reducible assumption) | (refine hDb _ ?_; with_reducible assumption) | (refine hDc _ ?_; with_reducible assumption) | (refine hDd _ ?_; with_reducible assumption) | (refine FW.fs ?_ (by omega) _; with_reducible assumption) | (refine WS.fs ?_; with_reducible assumption) | (refine FW.fs ?_ (by omega) _; assumption) | omega | assumption)); (focus (first | (with_reducible assumption) | (with_reducible refine FS.ext ?_ _ _; with_reducible assumption) | (with_reducible refine IS.ext ?_ _ _; with_reducible assumption) | (refine hDu _ ?_; with_reducible assumption) | (refine hOu _ ?_; with_reducible assumption) | (refine hDa _ ?_; with_reducible assumption) | (refine hDb _ ?_; with_reducible assumption) | (refine hDc _ ?_; with_reducible assumption) | (refine hDd _ ?_; with_reducible assumption) | (refine FW.fs ?_ (by omega) _; with_reducible assumption) | (refine WS.fs ?_; with_reducible assumption) | (refine FW.fs ?_ (by omega) _; assumption) | omega | assumption)); rintro e w1 ⟨rfl, hw1⟩; (have B1 : But V1 [g] w1 := But.grew (by assumption) hw1; have F : FW w1 g _ := FW.grew (by assumption) hw1))) | (go_at_call 47; ((with_reducible refine (all_any (.slice (some ⟨h, 0, none⟩) x.ws.length d) (.slice aX x.ws.length cX) x.ws x.ws _ ?_ ?_).mono ?_); (focus (first | (with_reducible assumption) | (with_reducible refine FS.ext ?_ _ _; with_reducible assumption) | (with_reducible refine IS.ext ?_ _ _; with_reducible assumption) | (refine hDu _ ?_; with_reducible assumption) | (refine hOu _ ?_; with_reducible assumption) | (refine hDa _ ?_; with_reducible assumption) | (refine hDb _ ?_; with_reducible assumption) | (refine hDc _ ?_; with_reducible assumption) | (refine hDd _ ?_; with_reducible assumption) | (refine FW.fs ?_ (by omega) _; with_reducible assumption) | (refine WS.fs ?_; with_reducible assumption) | (refine FW.fs ?_ (by omega) _; assumption) | omega | assumption)); (focus (first | (with_reducible assumption) | (with_reducible refine FS.ext ?_ _ _; with_reducible assumption) | (with_reducible refine IS.ext ?_ _ _; with_reducible assumption) | (refine hDu _ ?_; with_reducible assumption) | (refine hOu _ ?_; with_reducible assumption) | (refine hDa _ ?_; with_reducible assumption) | (refine hDb _ ?_; with_reducible assumption) | (refine hDc _ ?_; with_reducible assumption) | (refine hDd _ ?_; with_reducible assumption) | (refine FW.fs ?_ (by omega) _; with_reducible assumption) | (refine WS.fs ?_; with_reducible assumption) | (refine FW.fs ?_ (by omega) _; assumption) | omega | assumption)); rintro e w1 ⟨rfl, hw1⟩; (have B1 : But V1 [g] w1 := But.grew (by assumption) hw1; have F : FW w1 g _ := FW.grew (by assumption) hw1))) | (go_at_call 47; ((with_reducible refine (all_any (.slice (some ⟨k, 0, none⟩) y.ws.length f) (.slice aY y.ws.length cY) y.ws y.ws _ ?_ ?_).mono ?_); (focus (first | (with_reducible assumption) | (with_reducible refine FS.ext ?_ _ _; with_reducible assumption) | (with_reducible refine IS.ext ?_ _ _; with_reducible assumption) | (refine hDu _ ?_; with_reducible assumption) | (refine hOu _ ?_; with_reducible assumption) | (refine hDa _ ?_; with_reducible assumption) | (refine hDb _ ?_; with_reducible assumption) | (refine hDc _ ?_; with_reducible assumption) | (refine hDd _ ?_; with_reducible assumption) | (refine FW.fs ?_ (by omega) _; with_reducible assumption) | (refine WS.fs ?_; with_reducible assumption) | (refine FW.fs ?_ (by omega) _; assumption) | omega | assumption)); (focus (first | (with_reducible assumption) | (with_reducible refine FS.ext ?_ _ _; with_reducible assumption) | (with_reducible refine IS.ext ?_ _ _; with_reducible assumption) | (refine hDu _ ?_; with_reducible assumption) | (refine hOu _ ?_; with_reducible assumption) | (refine hDa _ ?_; with_reducible assumption) | (refine hDb _ ?_; with_reducible assumption) | (refine hDc _ ?_; with_reducible assumption) | (refine hDd _ ?_; with_reducible assumption) | (refine FW.fs ?_ (by omega) _; with_reducible assumption) | (refine WS.fs ?_; with_reducible assumption) | (refine FW.fs ?_ (by omega) _; assumption) | omega | assumption)); rintro e w1 ⟨rfl, hw1⟩; (have B1 : But V1 [g] w1 := But.grew (by assumption) hw1; have F : FW w1 g _ := FW.grew (by assumption) hw1))) | (go_at_call 73; ((with_reducible refine (awake11 _).mono ?_); rintro e w1 ⟨rfl, hw1⟩; (have B1 : But V1 [g] w1 := But.grew (by assumption) hw1; have F : FW w1 g _ := FW.grew (by assumption) hw1))))
    go_ret
    exact ⟨rfl, B1.grew0 gw1 hgw⟩
end Go.Proofs.Ytcmggfpcbijcjaa
