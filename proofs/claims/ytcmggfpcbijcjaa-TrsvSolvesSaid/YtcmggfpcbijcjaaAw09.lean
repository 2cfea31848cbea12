/-
  The example of layer 9.
-/
import Derived.Test.YtcmggfpcbijcjaaTrsv8
import Derived.Test.YtcmggfpcbijcjaaDense
set_option linter.unusedSimpArgs false
set_option linter.unusedVariables false
open Go Go.RowKit Sedge
namespace Go.Proofs.Ytcmggfpcbijcjaa
theorem FW.lit {w : World} {t : TypeId} (l : List Nat) (h : ∀ x ∈ l, IsF x x) : FW (w.alloc (.cells (l.map (Value.float .f64)).toArray t)) w.heap.size l := by
  refine ⟨(l.map (Value.float .f64)).toArray, t, by show (w.heap.push _)[w.heap.size]? = _; simp, by simp, fun i hi => ⟨l.getD i 0, ?_, ?_⟩⟩
  · simp [List.getD_eq_getElem?_getD, hi]
  · rw [List.getD_eq_getElem?_getD, List.getElem?_eq_getElem hi]
    exact h _ (List.getElem_mem hi)
set_option maxRecDepth 100000 in
set_option maxHeartbeats 1000000 in
/-- trsv.Solve, of a vector that isn't right. -/
theorem solve_r (k : Int) (m : MatM) (x : VecM) (D X : Value) (w : World) (hX : FS w X x.ws) (hwx : x.wf) (h1 : x.right = false) :
   Calls Try.prog 79 #[.int .i64 k, .agg #[D, .int .i64 m.off, .int .i64 m.rows, .int .i64 m.cols, .int .i64 m.ld], .agg #[X, .int .i64 x.off, .int .i64 x.n, .int .i64 x.inc]] w
     (fun e w' => e = .returned (.int .i64 1) ∧ ∃ o n, w' = ext w o n) := by
  have cR : ∀ w', FS w' X x.ws → Calls Try.prog 135 #[.agg #[X, .int .i64 x.off, .int .i64 x.n, .int .i64 x.inc]] w' (fun e w2 => e = .returned (.bool false) ∧ ∃ o n, w2 = ext w' o n) := fun w' h => by
    have := right_any x _ w' h hwx; rw [h1] at this; exact this
  clear h1 hwx
  go_enter Try.func79, Try.ntmps79
  refine seq_stop ?_
  go_wp2
  refine stop_go (fun W hW => ?_)
  have s1 : w.heap.size < W.heap.size := by rw [hW]; simp only [World.size_alloc]; omega
  have b1 : ∀ i, W.cell? ⟨w.heap.size, i, none⟩ = (#[D, .int .i64 m.off, .int .i64 m.rows, .int .i64 m.cols, .int .i64 m.ld] : Array Value)[i]? := by intro i; rw [hW]; go_simp
  have s2 : w.heap.size + 1 < W.heap.size := by rw [hW]; simp only [World.size_alloc]; omega
  have b2 : ∀ i, W.cell? ⟨w.heap.size + 1, i, none⟩ = (#[X, .int .i64 x.off, .int .i64 x.n, .int .i64 x.inc] : Array Value)[i]? := by intro i; rw [hW]; go_simp
  have g0 : Grew w W := by rw [hW]; exact ((Grew.refl _).alloc _).alloc _
  clear hW
  have hXW := hX.grew g0
  go_wp2_with (first | (go_at_call 135; ((with_reducible refine (cR _ ?_).mono ?_); (focus (first | assumption | (refine FS.ext ?_ _ _; assumption) | (refine IS.ext ?_ _ _; assumption) | (refine hDu _ ?_; assumption) | (refine hOu _ ?_; assumption) | (refine FW.fs ?_ (by omega) _; assumption) | (refine WS.fs ?_; assumption) | omega)); rintro e w1 ⟨rfl, oa, na, rfl⟩)))
  go_ret
  exact ⟨rfl, by (show Grew _ _; repeat (first | (with_reducible exact Grew.refl _) | (with_reducible assumption) | (with_reducible refine Grew.ext ?_ _ _) | (with_reducible refine Grew.alloc ?_ _) | ((with_reducible refine Grew.setCell ?_ ?_ _); rotate_left; (focus (dsimp only; first | omega | (simp only [size_ext, World.size_alloc, Array.size_append]; omega)))) | (with_reducible refine Grew.drewN ?_ _) | (with_reducible refine Grew.drew ?_)))⟩
theorem solve_0 (w : World) : Calls Try.prog 79 #[.int .i64 0, .agg #[.slice none 0 0, .int .i64 0, .int .i64 0, .int .i64 0, .int .i64 0], .agg #[.slice none 0 0, .int .i64 0, .int .i64 0, .int .i64 0]] w (fun e w' => e = .returned (.int .i64 1) ∧ ∃ o n, w' = ext w o n) :=
  solve_r 0 ⟨[], 0, 0, 0, 0⟩ ⟨[], 0, 0, 0⟩ _ _ w (FS.nil w) (by simp [VecM.wf, I64]) (by decide)
def M9a : List Nat := [4611686018427387904, 4607182418800017408, 0, 4616189618054758400]
def M9d : List Nat := [4611686018427387904, 0, 4607182418800017408, 4616189618054758400]
def X48 : List Nat := [4616189618054758400, 4620693217682128896]
def X12 : List Nat := [4607182418800017408, 4611686018427387904]
theorem dense_9 (aL : Option Addr) (w : World) (hL : FS w (.slice aL 4 4) M9a) :
   Calls Try.prog 69 #[.int .i64 2, .int .i64 2, .slice aL 4 4] w (fun e w' => ∃ v, e = .returned (.agg #[v, .int .i64 0, .int .i64 2, .int .i64 2, .int .i64 2]) ∧ WS w' w.heap.size v M9d ∧ ∃ o n, w' = ext w o n) := by
  have h := dense_any 2 2 aL M9a w hL (by decide) (by decide) (by decide) (by decide) rfl
  have e : denseL 2 2 M9a = M9d := by decide +kernel
  rw [e] at h
  exact h
theorem solve_9 (a g ca cg : Nat) (w : World) (hD : FW w a M9d) (hF : FW w g X48) (hne : g ≠ a) :
   Calls Try.prog 79 #[.int .i64 2, .agg #[.slice (some ⟨a, 0, none⟩) 4 ca, .int .i64 0, .int .i64 2, .int .i64 2, .int .i64 2], .agg #[.slice (some ⟨g, 0, none⟩) 2 cg, .int .i64 0, .int .i64 2, .int .i64 1]] w
     (fun e w' => e = .returned (.int .i64 0) ∧ But w [g] w' ∧ FW w' g X12) := by
  have h := tsolve_any 2 ⟨M9d, 0, 2, 2, 2⟩ ⟨X48, 0, 2, 1⟩ a g ca cg w (hD.fs (by decide) ca) hF (FW.plain hD) (fun e => absurd e hne) (by simp [MatM.wf, I64]) (by simp [VecM.wf, I64]) (by decide) (by decide) (by decide)
  rw [show decide (g = a) = false by simpa using hne] at h
  have e1 : tsolveE 2 ⟨M9d, 0, 2, 2, 2⟩ ⟨X48, 0, 2, 1⟩ false = 0 := by decide +kernel
  have e2 : tsolveL 2 ⟨M9d, 0, 2, 2, 2⟩ ⟨X48, 0, 2, 1⟩ false = X12 := by decide +kernel
  rw [e1, e2] at h
  exact h
set_option maxRecDepth 100000 in
set_option maxHeartbeats 1000000 in
theorem awake09 (w : World) : Calls Try.prog 78 #[] w (fun e w' => e = .returned (.bool true) ∧ ∃ o n, w' = ext w o n) := by
  have h1 : ∀ x ∈ M9a, IsF x x := by decide +kernel
  have h2 : ∀ x ∈ X48, IsF x x := by decide +kernel
  have h3 : ∀ x ∈ X12, IsF x x := by decide +kernel
  have H1 := hid h1
  have H2 := hid h2
  have H3 := hid h3
  have da : decide (X12 = X12) = true := by decide +kernel
  clear h1 h2 h3
  go_enter Try.func78, Try.ntmps78
  go_wp2_with (first | (go_at_call 79; ((with_reducible refine (solve_0 _).mono ?_); rintro e w1 ⟨rfl, hw1⟩)))
  refine name_call (fun V0 hV0 => ?_)
  have f0 : FW V0 w1.heap.size X48 := by rw [← hV0]; exact (FW.lit X48 H2.out).alloc _
  have l0 : FS V0 (.slice (some ⟨w1.heap.size + 1, 0, none⟩) 4 4) M9a := by rw [← hV0]; exact FS.lit M9a (by decide) H1.out 4 _ (by simp only [World.size_alloc])
  have gW : Grew w1 V0 := by rw [← hV0]; (show Grew _ _; repeat (first | (with_reducible exact Grew.refl _) | (with_reducible assumption) | (with_reducible refine Grew.ext ?_ _ _) | (with_reducible refine Grew.alloc ?_ _) | ((with_reducible refine Grew.setCell ?_ ?_ _); rotate_left; (focus (dsimp only; first | omega | (simp only [size_ext, World.size_alloc, Array.size_append]; omega)))) | (with_reducible refine Grew.drewN ?_ _) | (with_reducible refine Grew.drew ?_)))
  clear hV0
  (with_reducible refine (dense_9 _ _ l0).mono ?_)
  rintro e w2 ⟨v, rfl, ⟨g, cap, rfl, hg, hF, hgl⟩, hw2⟩
  have f2 := f0.grew hw2
  have gw2 : Grew w w2 := (Grew.trans hw1 gW).trans hw2
  have hsz : ∀ k ∈ [w1.heap.size], w.heap.size ≤ k := by intro k hk; simp at hk; rw [hk]; exact (show Grew w w1 from hw1).below.size
  have nge : w1.heap.size ≠ g := by have := f0.lt; omega
  have hs : ∀ w', FW w' g M9d → FW w' w1.heap.size X48 → Calls Try.prog 79 #[.int .i64 2, .agg #[.slice (some ⟨g, 0, none⟩) M9d.length cap, .int .i64 0, .int .i64 2, .int .i64 2, .int .i64 2], .agg #[.slice (some ⟨w1.heap.size, 0, none⟩) 2 2, .int .i64 0, .int .i64 2, .int .i64 1]] w'
     (fun e w'' => e = .returned (.int .i64 0) ∧ But w' [w1.heap.size] w'' ∧ FW w'' w1.heap.size X12) := fun w' a b => solve_9 g w1.heap.size cap 2 w' a b nge
  go_wp2_with (first | (go_at_call 79; ((with_reducible refine (hs _ hF f2).mono ?_); rintro e w1 ⟨rfl, hB, hF3⟩)) | (go_at_call 47; ((with_reducible refine (all_any _ _ X12 X12 _ ?_ ?_).mono ?_); (focus (exact (hF3.fs (by decide) 2).alloc _)); (focus (repeat (first | exact FS.lit X12 (by decide) H3.out 2 _ (by simp only [size_ext, World.size_alloc]) | exact FS.lit X12 (by decide) H3.out 2 _ rfl | refine FS.alloc ?_ _ | refine FS.ext ?_ _ _))); rintro e w4 ⟨rfl, hw4⟩)))
  go_ret
  exact ⟨rfl, (hB.grew0 gw2 hsz).trans (((Grew.refl _).alloc _).trans hw4)⟩
end Go.Proofs.Ytcmggfpcbijcjaa
