/-
  The law MoveVectors: its walk, vectors in one list.
-/
import Derived.Test.YtcmggfpcbijcjaaAw04
import Derived.Test.YtcmggfpcbijcjaaVec5
import Derived.Test.YtcmggfpcbijcjaaPar2
import Derived.Test.YtcmggfpcbijcjaaSeg
import Derived.Test.YtcmggfpcbijcjaaLawVec2
open Go Go.RowKit Sedge
namespace Go.Proofs.Ytcmggfpcbijcjaa
theorem frozen_of_block {w : World} {p i : Nat} {cs : Array Value} {e : TypeId} (h : w.heap[p]? = some (.cells cs e (0, 0))) : w.frozen? ⟨p, i, none⟩ = false := by
  unfold World.frozen?; simp [h]
theorem pairE_len {a y : VecM} (hy : y.ws = a.ws) : pairE a y (decide (0 < a.ws.length)) = pairE a y true := by
  by_cases h : 0 < a.ws.length
  · rw [show decide (0 < a.ws.length) = true by simpa using h]
  · rw [show decide (0 < a.ws.length) = false by simpa using h]
    have h0 : a.ws.length = 0 := by omega
    unfold pairE
    by_cases hr : a.right = true ∧ y.right = true
    · rw [if_pos hr, if_pos hr]
      by_cases hn : a.n = y.n
      · rw [if_pos hn, if_pos hn]
        have hn0 : a.n = 0 := by
          have h1 := VecM.right_n hr.1
          rcases Int.lt_or_le 0 a.n with h2 | h2
          · have := VecM.right_place hr.1 (i := 0) (by omega); omega
          · omega
        rw [meets_n0 a y hn0]; simp
      · rw [if_neg hn, if_neg hn]
    · rw [if_neg hr, if_neg hr]
set_option maxRecDepth 100000 in
set_option maxHeartbeats 4000000 in
theorem mv_one (a b : VecM) (A B : Value) (sw : Bool) (w : World) (hA : FS w A a.ws) (hB : FS w B b.ws) (hwa : a.wf) (hwb : b.wf) (la : VecM.long a = false) (lb : VecM.long b = false) :
   Calls Try.prog 7 #[.agg #[A, .int .i64 a.off, .int .i64 a.n, .int .i64 a.inc], .agg #[B, .int .i64 b.off, .int .i64 b.n, .int .i64 b.inc], .bool true, .bool sw] w (fun e w' => e = .returned (.bool true) ∧ ∃ o n, w' = ext w o n) := by
  obtain ⟨aA, cA, rfl⟩ := hA.shape
  obtain ⟨aB, cB, rfl⟩ := hB.shape
  have na := long_no la
  have nb := long_no lb
  have Hwa := hid hwa
  have Hwb := hid hwb
  have hla : ∀ w', FS w' (.slice aA a.ws.length cA) a.ws → Calls Try.prog 53 #[.agg #[(.slice aA a.ws.length cA), .int .i64 a.off, .int .i64 a.n, .int .i64 a.inc]] w' (fun e w2 => e = .returned (.bool false) ∧ ∃ o n, w2 = ext w' o n) := fun w' h => by
    have := long_any a (.slice aA a.ws.length cA) w' h; rw [la] at this; exact this
  have hlb : ∀ w', FS w' (.slice aB b.ws.length cB) b.ws → Calls Try.prog 53 #[.agg #[(.slice aB b.ws.length cB), .int .i64 b.off, .int .i64 b.n, .int .i64 b.inc]] w' (fun e w2 => e = .returned (.bool false) ∧ ∃ o n, w2 = ext w' o n) := fun w' h => by
    have := long_any b (.slice aB b.ws.length cB) w' h; rw [lb] at this; exact this
  clear hwa hwb la lb
  go_enter Try.func7, Try.ntmps7
  refine seq_stop ?_
  go_wp2
  refine stop_go (fun W hW => ?_)
  have s1 : w.heap.size < W.heap.size := by rw [hW]; simp only [World.size_alloc]; omega
  have b1 : ∀ i, W.cell? ⟨w.heap.size, i, none⟩ = (#[(.slice aA a.ws.length cA), .int .i64 a.off, .int .i64 a.n, .int .i64 a.inc] : Array Value)[i]? := by intro i; rw [hW]; go_simp
  have f1 : ∀ i, W.frozen? ⟨w.heap.size, i, none⟩ = false := by intro i; rw [hW]; go_simp
  have s2 : w.heap.size + 1 < W.heap.size := by rw [hW]; simp only [World.size_alloc]; omega
  have b2 : ∀ i, W.cell? ⟨w.heap.size + 1, i, none⟩ = (#[(.slice aB b.ws.length cB), .int .i64 b.off, .int .i64 b.n, .int .i64 b.inc] : Array Value)[i]? := by intro i; rw [hW]; go_simp
  have f2 : ∀ i, W.frozen? ⟨w.heap.size + 1, i, none⟩ = false := by intro i; rw [hW]; go_simp
  have g0 : Grew w W := by rw [hW]; exact ((Grew.refl _).alloc _).alloc _
  clear hW
  have hAW := hA.grew g0
  have hBW := hB.grew g0
  go_wp2_with (first | (go_at_call 41; ((with_reducible refine (awake04 _).mono ?_); rintro e w1 ⟨rfl, o1, n1, rfl⟩)) | (go_at_call 53; ((with_reducible refine (hla _ ?_).mono ?_); (focus (first | assumption | (refine FS.ext ?_ _ _; assumption) | (refine IS.ext ?_ _ _; assumption) | (refine hDu _ ?_; assumption) | (refine hOu _ ?_; assumption) | (refine FW.fs ?_ (by omega) _; assumption) | (refine WS.fs ?_; assumption) | omega)); rintro e w1 ⟨rfl, o1, n1, rfl⟩)) | (go_at_call 53; ((with_reducible refine (hlb _ ?_).mono ?_); (focus (first | assumption | (refine FS.ext ?_ _ _; assumption) | (refine IS.ext ?_ _ _; assumption) | (refine hDu _ ?_; assumption) | (refine hOu _ ?_; assumption) | (refine FW.fs ?_ (by omega) _; assumption) | (refine WS.fs ?_; assumption) | omega)); rintro e w1 ⟨rfl, o1, n1, rfl⟩)))
  refine wp_region_JJ W [.is (.agg #[(.slice aA a.ws.length cA), .int .i64 a.off, .int .i64 a.n, .int .i64 a.inc]), .row (fun s => .agg #[s, .int .i64 a.off, .int .i64 a.n, .int .i64 a.inc]) (a.ws), .is (.agg #[(.slice aB b.ws.length cB), .int .i64 b.off, .int .i64 b.n, .int .i64 b.inc]), .row (fun s => .agg #[s, .int .i64 b.off, .int .i64 b.n, .int .i64 b.inc]) (b.ws), .box 4, .box 4, .put 9 27 (fun s => #[s, .int .i64 a.off, .int .i64 a.n, .int .i64 a.inc]) (a.ws), .put 10 29 (fun s => #[s, .int .i64 b.off, .int .i64 b.n, .int .i64 b.inc]) (b.ws)] [26, 27, 28, 29, 9, 10] (by kernel_rfl) (by kernel_rfl) (by (show Grew _ _; repeat (first | (with_reducible exact Grew.refl _) | (with_reducible assumption) | (with_reducible refine Grew.ext ?_ _ _) | (with_reducible refine Grew.alloc ?_ _) | ((with_reducible refine Grew.setCell ?_ ?_ _); rotate_left; (focus (dsimp only; first | omega | (simp only [size_ext, World.size_alloc, Array.size_append]; omega)))) | (with_reducible refine Grew.drewN ?_ _) | (with_reducible refine Grew.drew ?_)))) ?_ (fun ρ own V gV hF => ?_)
  · refine stepsS_cons (j := 1) rfl ?_ ?_
    · intro L ρ own u hS K hK
      obtain ⟨o', n', hu⟩ := hS.grew
      subst hu
      simp only [mkA_cons, mkA_nil, List.setIfInBounds_toArray, List.set_cons_zero, List.set_cons_succ]
      go_wp2_with fail
      exact hS.is rfl rfl (by kernel_rfl) (by (show Grew _ _; repeat (first | (with_reducible exact Grew.refl _) | (with_reducible assumption) | (with_reducible refine Grew.ext ?_ _ _) | (with_reducible refine Grew.alloc ?_ _) | ((with_reducible refine Grew.setCell ?_ ?_ _); rotate_left; (focus (dsimp only; first | omega | (simp only [size_ext, World.size_alloc, Array.size_append]; omega)))) | (with_reducible refine Grew.drewN ?_ _) | (with_reducible refine Grew.drew ?_)))) (by simp only [mkA_cons, mkA_nil, List.setIfInBounds_toArray, List.set_cons_zero, List.set_cons_succ, *] )
    refine stepsS_cons (j := 2) rfl ?_ ?_
    · intro L ρ own u hS K hK
      have e0 := hS.fact 0 rfl rfl (by kernel_rfl)
      change ρ 26 = _ at e0
      obtain ⟨o', n', hu⟩ := hS.grew
      subst hu
      simp only [mkA_cons, mkA_nil, List.setIfInBounds_toArray, List.set_cons_zero, List.set_cons_succ]
      go_wp2_with (first | (go_at_call 54; ((with_reducible refine (alone_any a _ _ ?_ (by omega)).mono ?_); (focus (first | assumption | (refine FS.ext ?_ _ _; assumption) | (refine IS.ext ?_ _ _; assumption) | (refine hDu _ ?_; assumption) | (refine hOu _ ?_; assumption) | (refine FW.fs ?_ (by omega) _; assumption) | (refine WS.fs ?_; assumption) | omega)); rintro e w1 ⟨v1, rfl, ⟨g1, cap1, rfl, hg1, hF1, hgl1⟩, hw1⟩)))
      exact hS.row (cap := cap1) rfl rfl (by kernel_rfl) hw1 hg1 hF1 (by simp only [mkA_cons, mkA_nil, List.setIfInBounds_toArray, List.set_cons_zero, List.set_cons_succ, *] )
    refine stepsS_cons (j := 3) rfl ?_ ?_
    · intro L ρ own u hS K hK
      obtain ⟨o', n', hu⟩ := hS.grew
      subst hu
      simp only [mkA_cons, mkA_nil, List.setIfInBounds_toArray, List.set_cons_zero, List.set_cons_succ]
      go_wp2_with fail
      exact hS.is rfl rfl (by kernel_rfl) (by (show Grew _ _; repeat (first | (with_reducible exact Grew.refl _) | (with_reducible assumption) | (with_reducible refine Grew.ext ?_ _ _) | (with_reducible refine Grew.alloc ?_ _) | ((with_reducible refine Grew.setCell ?_ ?_ _); rotate_left; (focus (dsimp only; first | omega | (simp only [size_ext, World.size_alloc, Array.size_append]; omega)))) | (with_reducible refine Grew.drewN ?_ _) | (with_reducible refine Grew.drew ?_)))) (by simp only [mkA_cons, mkA_nil, List.setIfInBounds_toArray, List.set_cons_zero, List.set_cons_succ, *] )
    refine stepsS_cons (j := 4) rfl ?_ ?_
    · intro L ρ own u hS K hK
      have e2 := hS.fact 2 rfl rfl (by kernel_rfl)
      change ρ 28 = _ at e2
      obtain ⟨o', n', hu⟩ := hS.grew
      subst hu
      simp only [mkA_cons, mkA_nil, List.setIfInBounds_toArray, List.set_cons_zero, List.set_cons_succ]
      go_wp2_with (first | (go_at_call 54; ((with_reducible refine (alone_any b _ _ ?_ (by omega)).mono ?_); (focus (first | assumption | (refine FS.ext ?_ _ _; assumption) | (refine IS.ext ?_ _ _; assumption) | (refine hDu _ ?_; assumption) | (refine hOu _ ?_; assumption) | (refine FW.fs ?_ (by omega) _; assumption) | (refine WS.fs ?_; assumption) | omega)); rintro e w1 ⟨v1, rfl, ⟨g1, cap1, rfl, hg1, hF1, hgl1⟩, hw1⟩)))
      exact hS.row (cap := cap1) rfl rfl (by kernel_rfl) hw1 hg1 hF1 (by simp only [mkA_cons, mkA_nil, List.setIfInBounds_toArray, List.set_cons_zero, List.set_cons_succ, *] )
    refine stepsS_cons (j := 5) rfl ?_ ?_
    · intro L ρ own u hS K hK
      simp only [mkA_cons, mkA_nil, List.setIfInBounds_toArray, List.set_cons_zero, List.set_cons_succ]
      go_wp2_with fail
      exact hS.box rfl rfl (by kernel_rfl) rfl (by simp only [mkA_cons, mkA_nil, List.setIfInBounds_toArray, List.set_cons_zero, List.set_cons_succ, *] )
    refine stepsS_cons (j := 6) rfl ?_ ?_
    · intro L ρ own u hS K hK
      simp only [mkA_cons, mkA_nil, List.setIfInBounds_toArray, List.set_cons_zero, List.set_cons_succ]
      go_wp2_with fail
      exact hS.box rfl rfl (by kernel_rfl) rfl (by simp only [mkA_cons, mkA_nil, List.setIfInBounds_toArray, List.set_cons_zero, List.set_cons_succ, *] )
    refine stepsS_cons (j := 7) rfl ?_ ?_
    · intro L ρ own u hS K hK
      exact hS.put (kb := 4) (kr := 1) rfl rfl (by kernel_rfl) (by decide) (fun _ => rfl) rfl rfl (by kernel_rfl) rfl rfl rfl (by kernel_rfl) rfl (by kernel_rfl) rfl (by simp only [mkA_cons, mkA_nil, List.setIfInBounds_toArray, List.set_cons_zero, List.set_cons_succ]; rfl) (by simp only [mkA_cons, mkA_nil, List.setIfInBounds_toArray, List.set_cons_zero, List.set_cons_succ]; rfl) (by kernel_rfl) (fun _ _ _ => by kernel_rfl) hK
    refine stepsS_cons (j := 8) rfl ?_ ?_
    · intro L ρ own u hS K hK
      exact hS.put (kb := 5) (kr := 3) rfl rfl (by kernel_rfl) (by decide) (fun _ => rfl) rfl rfl (by kernel_rfl) rfl rfl rfl (by kernel_rfl) rfl (by kernel_rfl) rfl (by simp only [mkA_cons, mkA_nil, List.setIfInBounds_toArray, List.set_cons_zero, List.set_cons_succ]; rfl) (by simp only [mkA_cons, mkA_nil, List.setIfInBounds_toArray, List.set_cons_zero, List.set_cons_succ]; rfl) (by kernel_rfl) (fun _ _ _ => by kernel_rfl) hK
    exact stepsS_nil
  have r6 := hF 6 _ _ rfl rfl
  have r7 := hF 7 _ _ rfl rfl
  simp only [mkA_cons, mkA_nil, List.setIfInBounds_toArray, List.set_cons_zero, List.set_cons_succ]
  obtain ⟨p, g, c, ep, h9, o9, l9, hp, og, lg, F0⟩ := r6
  obtain ⟨q, h, d, eq, h10, o10, l10, hq, oh, lh, H0⟩ := r7
  have npg := ne_own o9 og (by decide)
  have nph := ne_own o9 oh (by decide)
  have nqg := ne_own o10 og (by decide)
  have nqh := ne_own o10 oh (by decide)
  have ngh := ne_own og oh (by decide)
  have npq := ne_own o9 o10 (by decide)
  have npq' := npq.symm
  have ltp := some_lt hp
  have ltq := some_lt hq
  have ltg := F0.lt
  have zV0 := gV.below.size
  have gwV : Grew w V := g0.trans gV
  have e1 := fun i => (gV.cell s1).trans (b1 i)
  have e2 := fun i => (gV.cell s2).trans (b2 i)
  have z2 : ∀ i, V.frozen? ⟨w.heap.size + 1, i, none⟩ = false := fun i => (gV.frozen s2).trans (f2 i)
  have ep1 := fun i => cell_of_block (i := i) hp
  have eq1 := fun i => cell_of_block (i := i) hq
  have zq : ∀ i, V.frozen? ⟨q, i, none⟩ = false := fun i => frozen_of_block hq
  have x1 : w.heap.size < V.heap.size := by omega
  have x2 : w.heap.size + 1 < V.heap.size := by omega
  have y1 : w.heap.size ≠ p := by omega
  have y2 : w.heap.size ≠ q := by omega
  have y3 : w.heap.size + 1 ≠ p := by omega
  have y4 : w.heap.size + 1 ≠ q := by omega
  have y5 : w.heap.size + 1 ≠ g := by omega
  simp only [h9, h10]
  clear hF hp hq hla hlb b1 b2 f1 f2
  go_wp2_with fail
  refine name_call (fun V1 hV1 => ?_)
  have gw1 : Grew w V1 := by rw [← hV1]; (show Grew _ _; repeat (first | (with_reducible exact Grew.refl _) | (with_reducible assumption) | (with_reducible refine Grew.ext ?_ _ _) | (with_reducible refine Grew.alloc ?_ _) | ((with_reducible refine Grew.setCell ?_ ?_ _); rotate_left; (focus (dsimp only; first | omega | (simp only [size_ext, World.size_alloc, Array.size_append]; omega)))) | (with_reducible refine Grew.drewN ?_ _) | (with_reducible refine Grew.drew ?_)))
  have zw1 := gw1.below.size
  have zV1 : V.heap.size ≤ V1.heap.size := by rw [← hV1]; simp only [size_setCell']; omega
  have r1 : ∀ i, V1.cell? ⟨w.heap.size, i, none⟩ = (#[(.slice aA a.ws.length cA), .int .i64 a.off, .int .i64 a.n, .int .i64 a.inc] : Array Value)[i]? := by subst hV1; intro i; go_simp
  have r2 : ∀ i, V1.cell? ⟨w.heap.size + 1, i, none⟩ = (#[(.slice aA a.ws.length cA), .int .i64 b.off, .int .i64 b.n, .int .i64 b.inc] : Array Value)[i]? := by subst hV1; intro i; rcases i with _ | _ | _ | _ | i <;> go_simp
  have rp : ∀ i, V1.cell? ⟨p, i, none⟩ = (#[(.slice (some ⟨g, 0, none⟩) a.ws.length c), .int .i64 a.off, .int .i64 a.n, .int .i64 a.inc] : Array Value)[i]? := by subst hV1; intro i; go_simp
  have rq : ∀ i, V1.cell? ⟨q, i, none⟩ = (#[(.slice (some ⟨g, 0, none⟩) a.ws.length c), .int .i64 b.off, .int .i64 b.n, .int .i64 b.inc] : Array Value)[i]? := by
    subst hV1; intro i; rcases i with _ | _ | _ | _ | i
    · exact (World.cell?_setCell_same' _ _ _ (by go_simp)).trans rfl
    all_goals go_simp
  have F1 : FW V1 g a.ws := by rw [← hV1]; exact (((((F0.setCell_ne y5 _).setCell_ne nqg _).setCell_ne nqg _).setCell_ne nqg _).setCell_ne nqg _).setCell_ne nqg _
  have hAV := hA.grew gw1
  have ltg1 := F1.lt
  have c1 : ∀ w', But V1 [g] w' → ∀ i, w'.cell? ⟨w.heap.size, i, none⟩ = (#[(.slice aA a.ws.length cA), .int .i64 a.off, .int .i64 a.n, .int .i64 a.inc] : Array Value)[i]? := fun w' h i => (h.cell (by omega) (by simp; omega)).trans (r1 i)
  have c2 : ∀ w', But V1 [g] w' → ∀ i, w'.cell? ⟨w.heap.size + 1, i, none⟩ = (#[(.slice aA a.ws.length cA), .int .i64 b.off, .int .i64 b.n, .int .i64 b.inc] : Array Value)[i]? := fun w' h i => (h.cell (by omega) (by simp; omega)).trans (r2 i)
  have cp : ∀ w', But V1 [g] w' → ∀ i, w'.cell? ⟨p, i, none⟩ = (#[(.slice (some ⟨g, 0, none⟩) a.ws.length c), .int .i64 a.off, .int .i64 a.n, .int .i64 a.inc] : Array Value)[i]? := fun w' h i => (h.cell (by omega) (by simp; omega)).trans (rp i)
  have cq : ∀ w', But V1 [g] w' → ∀ i, w'.cell? ⟨q, i, none⟩ = (#[(.slice (some ⟨g, 0, none⟩) a.ws.length c), .int .i64 b.off, .int .i64 b.n, .int .i64 b.inc] : Array Value)[i]? := fun w' h i => (h.cell (by omega) (by simp; omega)).trans (rq i)
  have hgw : ∀ k ∈ [g], w.heap.size ≤ k := by intro k hk; simp at hk; omega
  have hDu := But.fs gw1 hA hgw
  have B0 := But.refl V1 [g]
  clear hV1 e1 e2 z2 ep1 eq1 zq r1 r2 rp rq
  have hwy : (withV b a.ws).wf := Hwb.out
  obtain ⟨E, hE⟩ : ∃ E, Hid (E = pairE a (withV b a.ws) true) := ⟨_, hid rfl⟩
  have hrp : ∀ w', FS w' (.slice aA a.ws.length cA) a.ws → Calls Try.prog 62 #[.agg #[(.slice aA a.ws.length cA), .int .i64 a.off, .int .i64 a.n, .int .i64 a.inc], .agg #[(.slice aA a.ws.length cA), .int .i64 b.off, .int .i64 b.n, .int .i64 b.inc], .bool (decide (0 < a.ws.length))] w' (fun e w2 => e = .returned (.int .i64 E) ∧ ∃ o n, w2 = ext w' o n) := fun w' h1 => by
    have := rpair_any a (withV b a.ws) (.slice aA a.ws.length cA) (.slice aA a.ws.length cA) (decide (0 < a.ws.length)) w' h1 h1 Hwa.out hwy (by omega) (by show a.ws.length ≤ _; omega)
    rw [pairE_len (a := a) (y := withV b a.ws) rfl, ← hE.out] at this; exact this
  have hmp : ∀ w', FW w' g a.ws → Calls Try.prog 63 #[.agg #[(.slice (some ⟨g, 0, none⟩) a.ws.length c), .int .i64 a.off, .int .i64 a.n, .int .i64 a.inc], .agg #[(.slice (some ⟨g, 0, none⟩) a.ws.length c), .int .i64 b.off, .int .i64 b.n, .int .i64 b.inc]] w' (fun e w2 => e = .returned (.int .i64 E) ∧ ∃ o n, w2 = ext w' o n) := fun w' h1 => by
    have := pair_any a (withV b a.ws) g g c c w' (h1.fs (by omega) c) (h1.fs (by omega) c) (FW.plain h1) (FW.plain h1) Hwa.out hwy (by omega) (by show a.ws.length ≤ _; omega)
    rw [show decide (g = g) = true by simp, ← hE.out] at this; exact this
  have hlist : ∀ w', FS w' (.slice aA a.ws.length cA) a.ws → (withV b a.ws).right = true → Calls Try.prog 61 #[.agg #[(.slice aA a.ws.length cA), .int .i64 b.off, .int .i64 b.n, .int .i64 b.inc]] w' (fun e w2 => ∃ v, e = .returned v ∧ FS w2 v (withV b a.ws).list ∧ ∃ o n, w2 = ext w' o n) := fun w' h1 h2 => list_any (withV b a.ws) (.slice aA a.ws.length cA) w' h1 h2 hwy (by show a.ws.length ≤ _; omega)
  cases sw
  · obtain ⟨xl, hxl⟩ : ∃ xl, xl = copyL a (withV b a.ws) true := ⟨_, rfl⟩
    have hx0 : pairE a (withV b a.ws) true = 0 → xl = VecMwrite a (withV b a.ws).list := fun e => by rw [hxl]; unfold copyL; rw [if_pos e]
    have hx1 : pairE a (withV b a.ws) true ≠ 0 → xl = a.ws := fun e => by rw [hxl]; unfold copyL; rw [if_neg e]
    have hcp : ∀ w', FW w' g a.ws → Calls Try.prog 65 #[.agg #[(.slice (some ⟨g, 0, none⟩) a.ws.length c), .int .i64 a.off, .int .i64 a.n, .int .i64 a.inc], .agg #[(.slice (some ⟨g, 0, none⟩) a.ws.length c), .int .i64 b.off, .int .i64 b.n, .int .i64 b.inc]] w' (fun e w2 => e = .returned (.int .i64 E) ∧ But w' [g] w2 ∧ FW w2 g xl) := fun w' h1 => by
      have := copy_any a (withV b a.ws) g g c c w' h1 (FW.plain h1) (h1.fs (by omega) c) (fun _ => rfl) Hwa.out hwy (by omega) (by show a.ws.length ≤ _; omega)
      rw [show decide (g = g) = true by simp, ← hE.out, ← hxl] at this
      exact this.mono fun e w2 hh => ⟨hh.1, (But.refl w' [g]).wrote hh.2 (.inl (by simp)), hh.2.fw h1⟩
    clear hxl
    obtain ⟨X, hX⟩ : ∃ X, Hid (X = xl) := ⟨_, hid rfl⟩
    rw [← hX.out] at hcp
    by_cases hE0 : E = 0
    · subst hE0
      obtain ⟨rx, ry, rn, _⟩ := pairE_ok hE.out.symm
      have hX2 := hid (show X = VecMwrite a (withV b a.ws).list by rw [hX.out]; exact hx0 hE.out.symm)
      replace rn := hid rn
      have ry' : (withV b a.ws).right = true := ry
      have HX := hid (show X.length = a.ws.length by rw [hX2.out]; simp [VecMwrite, VecMwriteTo, withV])
      go_wp2_with (first | (go_at_call 62; ((with_reducible refine (hrp _ ?_).mono ?_); (focus (first | assumption | (refine FS.ext ?_ _ _; assumption) | (refine IS.ext ?_ _ _; assumption) | (refine hDu _ ?_; assumption) | (refine hOu _ ?_; assumption) | (refine FW.fs ?_ (by omega) _; assumption) | (refine WS.fs ?_; assumption) | omega)); rintro e w1 ⟨rfl, hw1⟩; (have B1 : But V1 [g] w1 := But.grew (by assumption) hw1; have F : FW w1 g a.ws := FW.grew (by assumption) hw1))) | (go_at_call 63; ((with_reducible refine (hmp _ (by assumption)).mono ?_); rintro e w1 ⟨rfl, hw1⟩; (have B1 : But V1 [g] w1 := But.grew (by assumption) hw1; have F : FW w1 g a.ws := FW.grew (by assumption) hw1))) | (go_at_call 65; ((with_reducible refine (hcp _ (by assumption)).mono ?_); rintro e w1 ⟨rfl, hb1, F⟩; (have B1 := B1.trans hb1 (fun _ hb => .inl hb)))))
      have gW1 := B1.grew0 gw1 hgw
      have sV := B1.size
      have zW := gW1.below.size
      have t1 := c1 _ B1
      have t2 := c2 _ B1
      have tp := cp _ B1
      have tq := cq _ B1
      have k1 : w.heap.size < w1.heap.size := by omega
      have k2 : w.heap.size + 1 < w1.heap.size := by omega
      have kp : p < w1.heap.size := by omega
      have kq : q < w1.heap.size := by omega
      have fA := hDu _ B1
      have fX : FS w1 (.slice (some ⟨g, 0, none⟩) a.ws.length c) X := by have := F.fs (by rw [HX.out]; omega) c; rwa [HX.out] at this
      clear c1 c2 cp cq hDu B0 hrp hmp hcp hb1 F0
      rw [hX2.out] at fX
      refine wp_region_R (Grew w1) [] [(0,0), (0,2), (1,1), (1,3), (0,4), (0,5)] (by kernel_rfl) (by kernel_rfl) (fun _ _ _ _ h _ => h) (by first | exact ⟨_, _, ext_drew⟩ | exact ⟨_, _, drew_ext0⟩) ?_
      go_wp2_with (first | ((with_reducible refine wpR_id ?_); first | (refine wpR_take (v := ?_) rfl rfl ?_ ?_; rotate_left; (focus (rintro w' ⟨o', n', rfl⟩; go_simp; try with_reducible rfl)); simp only [Act.put, List.setIfInBounds_toArray, List.set_cons_zero, List.set_cons_succ]) | (refine wpR_pure (v := ?_) rfl rfl ?_ ?_; rotate_left; (focus (intro w'; go_simp; try with_reducible rfl)); simp only [Act.put, List.setIfInBounds_toArray, List.set_cons_zero, List.set_cons_succ]) | (refine wpR_takeG (v := ?_) rfl rfl rfl rfl rfl ?_ ?_; rotate_left; (focus (rintro w' ⟨o', n', rfl⟩; go_simp; try with_reducible rfl)); simp only [Act.put, List.setIfInBounds_toArray, List.set_cons_zero, List.set_cons_succ]) | (refine wpR_skip rfl rfl rfl rfl rfl rfl ?_; simp only [Act.put, List.setIfInBounds_toArray, List.set_cons_zero, List.set_cons_succ]) | (refine wpR_skipU rfl rfl rfl rfl rfl ?_; simp only [Act.put, List.setIfInBounds_toArray, List.set_cons_zero, List.set_cons_succ]) | (refine wpR_do rfl rfl (fun K hK => ?_)) | (refine wpR_doG rfl rfl rfl rfl rfl (fun K hK => ?_)) | (refine wpR_last rfl rfl (fun K hK => ?_)) | (refine wpR_nil ?_)) | ((with_reducible refine wpR_go ?_ ?_); (focus exact ⟨_, _, rfl⟩)) | ((with_reducible refine upon_id ?_); refine upon_fop rfl (by assumption) (by assumption) ?_; intro rr nn hr) | (go_at_call 61; ((with_reducible refine (list_any a (.slice aA a.ws.length cA) _ ?_ rx Hwa.out (by omega)).mono ?_); (focus (first | assumption | (refine FS.ext ?_ _ _; assumption) | (refine IS.ext ?_ _ _; assumption) | (refine hDu _ ?_; assumption) | (refine hOu _ ?_; assumption) | (refine FW.fs ?_ (by omega) _; assumption) | (refine WS.fs ?_; assumption) | omega)); rintro e w1 ⟨v1, rfl, hv1, o1, n1, rfl⟩)) | (go_at_call 61; ((with_reducible refine (hlist _ ?_ ry').mono ?_); (focus (first | assumption | (refine FS.ext ?_ _ _; assumption) | (refine IS.ext ?_ _ _; assumption) | (refine hDu _ ?_; assumption) | (refine hOu _ ?_; assumption) | (refine FW.fs ?_ (by omega) _; assumption) | (refine WS.fs ?_; assumption) | omega)); rintro e w1 ⟨v2, rfl, hv2, o2, n2, rfl⟩; (have hv1' := hv1.ext o2 n2; simp only [drew_ext0, ext_ext, Array.empty_append] at hv2 hv1'))))
      refine name_call (fun V3 hV3 => ?_)
      have gX : Grew w1 V3 := by rw [← hV3]; (show Grew _ _; repeat (first | (with_reducible exact Grew.refl _) | (with_reducible assumption) | (with_reducible refine Grew.ext ?_ _ _) | (with_reducible refine Grew.alloc ?_ _) | ((with_reducible refine Grew.setCell ?_ ?_ _); rotate_left; (focus (dsimp only; first | omega | (simp only [size_ext, World.size_alloc, Array.size_append]; omega)))) | (with_reducible refine Grew.drewN ?_ _) | (with_reducible refine Grew.drew ?_)))
      have zX := gX.below.size
      have p1 := fun i => (gX.cell k1).trans (t1 i)
      have p2 := fun i => (gX.cell k2).trans (t2 i)
      have pp := fun i => (gX.cell kp).trans (tp i)
      have pq := fun i => (gX.cell kq).trans (tq i)
      have j1 : w.heap.size < V3.heap.size := by omega
      have j2 : w.heap.size + 1 < V3.heap.size := by omega
      have jp : p < V3.heap.size := by omega
      have jq : q < V3.heap.size := by omega
      have pT : ∀ i, V3.cell? ⟨w1.heap.size + (o1.size + o2.size), i, none⟩ = (#[(.slice aA a.ws.length cA), .int .i64 a.off, .int .i64 a.n, .int .i64 a.inc] : Array Value)[i]? := by subst hV3; intro i; go_simp
      have fT : ∀ i, V3.frozen? ⟨w1.heap.size + (o1.size + o2.size), i, none⟩ = false := by subst hV3; intro i; go_simp
      have jT : w1.heap.size + (o1.size + o2.size) < V3.heap.size := by rw [← hV3]; simp only [World.size_alloc, size_ext, Array.size_append]; omega
      have hw2v : FS V3 v2 (withV b a.ws).list := by rw [← hV3]; exact hv2.alloc _
      have fA3 := fA.grew gX
      obtain ⟨T, hT⟩ : ∃ T, w1.heap.size + (o1.size + o2.size) = T := ⟨_, rfl⟩
      have zT : w1.heap.size ≤ T := by omega
      rw [hT] at pT fT jT
      simp only [hT]
      have nT1 : w.heap.size ≠ T := by omega
      have nT2 : w.heap.size + 1 ≠ T := by omega
      have nTp : p ≠ T := by omega
      have nTq : q ≠ T := by omega
      have gE : Grew (ext w1 (o1 ++ o2) n2) V3 := by rw [← hV3]; (show Grew _ _; repeat (first | (with_reducible exact Grew.refl _) | (with_reducible assumption) | (with_reducible refine Grew.ext ?_ _ _) | (with_reducible refine Grew.alloc ?_ _) | ((with_reducible refine Grew.setCell ?_ ?_ _); rotate_left; (focus (dsimp only; first | omega | (simp only [size_ext, World.size_alloc, Array.size_append]; omega)))) | (with_reducible refine Grew.drewN ?_ _) | (with_reducible refine Grew.drew ?_)))
      have zE : (ext w1 (o1 ++ o2) n2).heap.size ≤ T := by simp only [size_ext, Array.size_append]; omega
      have T1 := hid t1
      have T2 := hid t2
      have TP := hid tp
      have TQ := hid tq
      clear hV3 hT t1 t2 tp tq
      go_wp2_with (first | (go_at_call 66; ((with_reducible refine (rwrite_any a (.slice aA a.ws.length cA) v2 (withV b a.ws).list _ fA3 hw2v rx Hwa.out (by omega)).mono ?_); rintro e w1 ⟨v3, rfl, ⟨g3, cap3, rfl, hg3, hF3, hL3⟩, o3, n3, rfl⟩)))
      refine name_call (fun V4 hV4 => ?_)
      have gY : Grew w1 V4 := by rw [← hV4]; (show Grew _ _; repeat (first | (with_reducible exact Grew.refl _) | (with_reducible assumption) | (with_reducible refine Grew.ext ?_ _ _) | (with_reducible refine Grew.alloc ?_ _) | ((with_reducible refine Grew.setCell ?_ ?_ _); rotate_left; (focus (dsimp only; first | omega | (simp only [size_ext, World.size_alloc, Array.size_append]; omega)))) | (with_reducible refine Grew.drewN ?_ _) | (with_reducible refine Grew.drew ?_)))
      have gE4 : Grew (ext w1 (o1 ++ o2) n2) V4 := by rw [← hV4]; (show Grew _ _; repeat (first | (with_reducible exact Grew.refl _) | (with_reducible assumption) | (with_reducible refine Grew.ext ?_ _ _) | (with_reducible refine Grew.alloc ?_ _) | ((with_reducible refine Grew.setCell ?_ ?_ _); rotate_left; (focus (dsimp only; first | omega | (simp only [size_ext, World.size_alloc, Array.size_append]; omega)))) | (with_reducible refine Grew.drewN ?_ _) | (with_reducible refine Grew.drew ?_)))
      have zY := gY.below.size
      have m1 := fun i => (gY.cell k1).trans (T1.out i)
      have m2 := fun i => (gY.cell k2).trans (T2.out i)
      have mp := fun i => (gY.cell kp).trans (TP.out i)
      have mq := fun i => (gY.cell kq).trans (TQ.out i)
      have zV : V3.heap.size + o3.size < V4.heap.size := by rw [← hV4]; simp only [World.size_alloc, size_ext, size_setCell']; omega
      have l1 : w.heap.size < V4.heap.size := by omega
      have l2 : w.heap.size + 1 < V4.heap.size := by omega
      have lp : p < V4.heap.size := by omega
      have lq : q < V4.heap.size := by omega
      have lT : T < V4.heap.size := by omega
      have mU : ∀ i, V4.cell? ⟨V3.heap.size + o3.size, i, none⟩ = (#[.slice (some ⟨g3, 0, none⟩) (VecMwrite a (withV b a.ws).list).length cap3, .int .i64 b.off, .int .i64 b.n, .int .i64 b.inc] : Array Value)[i]? := by subst hV4; intro i; go_simp
      have eU : ∀ i, V4.frozen? ⟨V3.heap.size + o3.size, i, none⟩ = false := by subst hV4; intro i; go_simp
      have hF3' : FW V4 g3 (VecMwrite a (withV b a.ws).list) := by rw [← hV4]; exact (FW.ext_set hF3 jT (by dsimp only; omega) _).alloc _
      have f3 := hF3'.fs hL3 cap3
      have hG3 := hF3'
      have fX' := fX.grew gY
      have hv1n := hv1'.grew gE4
      have zg3 : g3 < V3.heap.size + o3.size := by have := hF3.lt; simpa only [size_ext] using this
      obtain ⟨U, hU⟩ : ∃ U, V3.heap.size + o3.size = U := ⟨_, rfl⟩
      have zU : w1.heap.size ≤ U := by omega
      have zTU : T < U := by omega
      have zG : g3 < V4.heap.size := hF3'.lt
      rw [hU] at mU eU zV zg3
      simp only [hU]
      have nU1 : w.heap.size ≠ U := by omega
      have nU2 : w.heap.size + 1 ≠ U := by omega
      have nUp : p ≠ U := by omega
      have nUq : q ≠ U := by omega
      clear hV4 hU p1 p2 pp pq pT fT hF3 hF3' fA3 hw2v gE4
      skip
      go_wp2_with (first | (go_at_call 47; ((with_reducible refine (all_any (.slice (some ⟨g, 0, none⟩) a.ws.length c) (.slice (some ⟨g3, 0, none⟩) (VecMwrite a (withV b a.ws).list).length cap3) (VecMwrite a (withV b a.ws).list) (VecMwrite a (withV b a.ws).list) _ (fX'.grew (by (show Grew _ _; repeat (first | (with_reducible exact Grew.refl _) | (with_reducible assumption) | (with_reducible refine Grew.ext ?_ _ _) | (with_reducible refine Grew.alloc ?_ _) | ((with_reducible refine Grew.setCell ?_ ?_ _); rotate_left; (focus (dsimp only; first | omega | (simp only [size_ext, World.size_alloc, Array.size_append]; omega)))) | (with_reducible refine Grew.drewN ?_ _) | (with_reducible refine Grew.drew ?_))))) (f3.grew (by (show Grew _ _; repeat (first | (with_reducible exact Grew.refl _) | (with_reducible assumption) | (with_reducible refine Grew.ext ?_ _ _) | (with_reducible refine Grew.alloc ?_ _) | ((with_reducible refine Grew.setCell ?_ ?_ _); rotate_left; (focus (dsimp only; first | omega | (simp only [size_ext, World.size_alloc, Array.size_append]; omega)))) | (with_reducible refine Grew.drewN ?_ _) | (with_reducible refine Grew.drew ?_)))))).mono ?_); rintro e w1 ⟨rfl, o5, n5, rfl⟩)) | (go_at_call 41; ((with_reducible refine (awake04 _).mono ?_); rintro e w1 ⟨rfl, o6, n6, rfl⟩)))
      go_ret
      exact ⟨rfl, gW1.trans (by (show Grew _ _; repeat (first | (with_reducible exact Grew.refl _) | (with_reducible assumption) | (with_reducible refine Grew.ext ?_ _ _) | (with_reducible refine Grew.alloc ?_ _) | ((with_reducible refine Grew.setCell ?_ ?_ _); rotate_left; (focus (dsimp only; first | omega | (simp only [size_ext, World.size_alloc, Array.size_append]; omega)))) | (with_reducible refine Grew.drewN ?_ _) | (with_reducible refine Grew.drew ?_))))⟩
    · have d0 : (E == 0) = false := by simpa using hE0
      have d1 : (E != 0) = true := by simpa using hE0
      obtain rfl : X = a.ws := by rw [hX.out]; exact hx1 (by rw [← hE.out]; exact hE0)
      go_wp2_with (first | (go_at_call 62; ((with_reducible refine (hrp _ ?_).mono ?_); (focus (first | assumption | (refine FS.ext ?_ _ _; assumption) | (refine IS.ext ?_ _ _; assumption) | (refine hDu _ ?_; assumption) | (refine hOu _ ?_; assumption) | (refine FW.fs ?_ (by omega) _; assumption) | (refine WS.fs ?_; assumption) | omega)); rintro e w1 ⟨rfl, hw1⟩; (have B1 : But V1 [g] w1 := But.grew (by assumption) hw1; have F : FW w1 g a.ws := FW.grew (by assumption) hw1))) | (go_at_call 63; ((with_reducible refine (hmp _ (by assumption)).mono ?_); rintro e w1 ⟨rfl, hw1⟩; (have B1 : But V1 [g] w1 := But.grew (by assumption) hw1; have F : FW w1 g a.ws := FW.grew (by assumption) hw1))) | (go_at_call 65; ((with_reducible refine (hcp _ (by assumption)).mono ?_); rintro e w1 ⟨rfl, hb1, F⟩; (have B1 := B1.trans hb1 (fun _ hb => .inl hb)))) | (go_at_call 47; ((with_reducible refine (all_any (.slice (some ⟨g, 0, none⟩) a.ws.length c) (.slice aA a.ws.length cA) a.ws a.ws _ ?_ ?_).mono ?_); (focus (first | assumption | (refine FS.ext ?_ _ _; assumption) | (refine IS.ext ?_ _ _; assumption) | (refine hDu _ ?_; assumption) | (refine hOu _ ?_; assumption) | (refine FW.fs ?_ (by omega) _; assumption) | (refine WS.fs ?_; assumption) | omega)); (focus (first | assumption | (refine FS.ext ?_ _ _; assumption) | (refine IS.ext ?_ _ _; assumption) | (refine hDu _ ?_; assumption) | (refine hOu _ ?_; assumption) | (refine FW.fs ?_ (by omega) _; assumption) | (refine WS.fs ?_; assumption) | omega)); rintro e w1 ⟨rfl, hw1⟩; (have B1 : But V1 [g] w1 := But.grew (by assumption) hw1; have F : FW w1 g a.ws := FW.grew (by assumption) hw1))) | (go_at_call 41; ((with_reducible refine (awake04 _).mono ?_); rintro e w1 ⟨rfl, hw1⟩; (have B1 : But V1 [g] w1 := But.grew (by assumption) hw1; have F : FW w1 g a.ws := FW.grew (by assumption) hw1))))
      go_ret
      exact ⟨rfl, B1.grew0 gw1 hgw⟩
  · obtain ⟨xl, hxl⟩ : ∃ xl, xl = swapL a (withV b a.ws) := ⟨_, rfl⟩
    have hx0 : pairE a (withV b a.ws) true = 0 → xl = VecMwrite (withV (withV b a.ws) (VecMwrite a (withV b a.ws).list)) a.list := fun e => by rw [hxl]; unfold swapL; rw [if_pos e]
    have hx1 : pairE a (withV b a.ws) true ≠ 0 → xl = a.ws := fun e => by rw [hxl]; unfold swapL; rw [if_neg e]
    have hcp : ∀ w', FW w' g a.ws → Calls Try.prog 64 #[.agg #[(.slice (some ⟨g, 0, none⟩) a.ws.length c), .int .i64 a.off, .int .i64 a.n, .int .i64 a.inc], .agg #[(.slice (some ⟨g, 0, none⟩) a.ws.length c), .int .i64 b.off, .int .i64 b.n, .int .i64 b.inc]] w' (fun e w2 => e = .returned (.int .i64 E) ∧ But w' [g] w2 ∧ FW w2 g xl) := fun w' h1 => by
      have := swapO_any a (withV b a.ws) g c w' h1 rfl Hwa.out hwy (by omega)
      rw [← hE.out, ← hxl] at this
      exact this.mono fun e w2 hh => ⟨hh.1, (But.refl w' [g]).wrote hh.2 (.inl (by simp)), hh.2.fw h1⟩
    clear hxl
    obtain ⟨X, hX⟩ : ∃ X, Hid (X = xl) := ⟨_, hid rfl⟩
    rw [← hX.out] at hcp
    by_cases hE0 : E = 0
    · subst hE0
      obtain ⟨rx, ry, rn, _⟩ := pairE_ok hE.out.symm
      have hX2 := hid (show X = VecMwrite (withV (withV b a.ws) (VecMwrite a (withV b a.ws).list)) a.list by rw [hX.out]; exact hx0 hE.out.symm)
      replace rn := hid rn
      have ry' : (withV b a.ws).right = true := ry
      have HX := hid (show X.length = a.ws.length by rw [hX2.out]; simp [VecMwrite, VecMwriteTo, withV])
      go_wp2_with (first | (go_at_call 62; ((with_reducible refine (hrp _ ?_).mono ?_); (focus (first | assumption | (refine FS.ext ?_ _ _; assumption) | (refine IS.ext ?_ _ _; assumption) | (refine hDu _ ?_; assumption) | (refine hOu _ ?_; assumption) | (refine FW.fs ?_ (by omega) _; assumption) | (refine WS.fs ?_; assumption) | omega)); rintro e w1 ⟨rfl, hw1⟩; (have B1 : But V1 [g] w1 := But.grew (by assumption) hw1; have F : FW w1 g a.ws := FW.grew (by assumption) hw1))) | (go_at_call 63; ((with_reducible refine (hmp _ (by assumption)).mono ?_); rintro e w1 ⟨rfl, hw1⟩; (have B1 : But V1 [g] w1 := But.grew (by assumption) hw1; have F : FW w1 g a.ws := FW.grew (by assumption) hw1))) | (go_at_call 64; ((with_reducible refine (hcp _ (by assumption)).mono ?_); rintro e w1 ⟨rfl, hb1, F⟩; (have B1 := B1.trans hb1 (fun _ hb => .inl hb)))))
      have gW1 := B1.grew0 gw1 hgw
      have sV := B1.size
      have zW := gW1.below.size
      have t1 := c1 _ B1
      have t2 := c2 _ B1
      have tp := cp _ B1
      have tq := cq _ B1
      have k1 : w.heap.size < w1.heap.size := by omega
      have k2 : w.heap.size + 1 < w1.heap.size := by omega
      have kp : p < w1.heap.size := by omega
      have kq : q < w1.heap.size := by omega
      have fA := hDu _ B1
      have fX : FS w1 (.slice (some ⟨g, 0, none⟩) a.ws.length c) X := by have := F.fs (by rw [HX.out]; omega) c; rwa [HX.out] at this
      clear c1 c2 cp cq hDu B0 hrp hmp hcp hb1 F0
      rw [hX2.out] at fX
      refine wp_region_R (Grew w1) [] [(0,0), (0,2), (1,1), (1,3), (0,4), (0,5)] (by kernel_rfl) (by kernel_rfl) (fun _ _ _ _ h _ => h) (by first | exact ⟨_, _, ext_drew⟩ | exact ⟨_, _, drew_ext0⟩) ?_
      go_wp2_with (first | ((with_reducible refine wpR_id ?_); first | (refine wpR_take (v := ?_) rfl rfl ?_ ?_; rotate_left; (focus (rintro w' ⟨o', n', rfl⟩; go_simp; try with_reducible rfl)); simp only [Act.put, List.setIfInBounds_toArray, List.set_cons_zero, List.set_cons_succ]) | (refine wpR_pure (v := ?_) rfl rfl ?_ ?_; rotate_left; (focus (intro w'; go_simp; try with_reducible rfl)); simp only [Act.put, List.setIfInBounds_toArray, List.set_cons_zero, List.set_cons_succ]) | (refine wpR_takeG (v := ?_) rfl rfl rfl rfl rfl ?_ ?_; rotate_left; (focus (rintro w' ⟨o', n', rfl⟩; go_simp; try with_reducible rfl)); simp only [Act.put, List.setIfInBounds_toArray, List.set_cons_zero, List.set_cons_succ]) | (refine wpR_skip rfl rfl rfl rfl rfl rfl ?_; simp only [Act.put, List.setIfInBounds_toArray, List.set_cons_zero, List.set_cons_succ]) | (refine wpR_skipU rfl rfl rfl rfl rfl ?_; simp only [Act.put, List.setIfInBounds_toArray, List.set_cons_zero, List.set_cons_succ]) | (refine wpR_do rfl rfl (fun K hK => ?_)) | (refine wpR_doG rfl rfl rfl rfl rfl (fun K hK => ?_)) | (refine wpR_last rfl rfl (fun K hK => ?_)) | (refine wpR_nil ?_)) | ((with_reducible refine wpR_go ?_ ?_); (focus exact ⟨_, _, rfl⟩)) | ((with_reducible refine upon_id ?_); refine upon_fop rfl (by assumption) (by assumption) ?_; intro rr nn hr) | (go_at_call 61; ((with_reducible refine (list_any a (.slice aA a.ws.length cA) _ ?_ rx Hwa.out (by omega)).mono ?_); (focus (first | assumption | (refine FS.ext ?_ _ _; assumption) | (refine IS.ext ?_ _ _; assumption) | (refine hDu _ ?_; assumption) | (refine hOu _ ?_; assumption) | (refine FW.fs ?_ (by omega) _; assumption) | (refine WS.fs ?_; assumption) | omega)); rintro e w1 ⟨v1, rfl, hv1, o1, n1, rfl⟩)) | (go_at_call 61; ((with_reducible refine (hlist _ ?_ ry').mono ?_); (focus (first | assumption | (refine FS.ext ?_ _ _; assumption) | (refine IS.ext ?_ _ _; assumption) | (refine hDu _ ?_; assumption) | (refine hOu _ ?_; assumption) | (refine FW.fs ?_ (by omega) _; assumption) | (refine WS.fs ?_; assumption) | omega)); rintro e w1 ⟨v2, rfl, hv2, o2, n2, rfl⟩; (have hv1' := hv1.ext o2 n2; simp only [drew_ext0, ext_ext, Array.empty_append] at hv2 hv1'))))
      refine name_call (fun V3 hV3 => ?_)
      have gX : Grew w1 V3 := by rw [← hV3]; (show Grew _ _; repeat (first | (with_reducible exact Grew.refl _) | (with_reducible assumption) | (with_reducible refine Grew.ext ?_ _ _) | (with_reducible refine Grew.alloc ?_ _) | ((with_reducible refine Grew.setCell ?_ ?_ _); rotate_left; (focus (dsimp only; first | omega | (simp only [size_ext, World.size_alloc, Array.size_append]; omega)))) | (with_reducible refine Grew.drewN ?_ _) | (with_reducible refine Grew.drew ?_)))
      have zX := gX.below.size
      have p1 := fun i => (gX.cell k1).trans (t1 i)
      have p2 := fun i => (gX.cell k2).trans (t2 i)
      have pp := fun i => (gX.cell kp).trans (tp i)
      have pq := fun i => (gX.cell kq).trans (tq i)
      have j1 : w.heap.size < V3.heap.size := by omega
      have j2 : w.heap.size + 1 < V3.heap.size := by omega
      have jp : p < V3.heap.size := by omega
      have jq : q < V3.heap.size := by omega
      have pT : ∀ i, V3.cell? ⟨w1.heap.size + (o1.size + o2.size), i, none⟩ = (#[(.slice aA a.ws.length cA), .int .i64 a.off, .int .i64 a.n, .int .i64 a.inc] : Array Value)[i]? := by subst hV3; intro i; go_simp
      have fT : ∀ i, V3.frozen? ⟨w1.heap.size + (o1.size + o2.size), i, none⟩ = false := by subst hV3; intro i; go_simp
      have jT : w1.heap.size + (o1.size + o2.size) < V3.heap.size := by rw [← hV3]; simp only [World.size_alloc, size_ext, Array.size_append]; omega
      have hw2v : FS V3 v2 (withV b a.ws).list := by rw [← hV3]; exact hv2.alloc _
      have fA3 := fA.grew gX
      obtain ⟨T, hT⟩ : ∃ T, w1.heap.size + (o1.size + o2.size) = T := ⟨_, rfl⟩
      have zT : w1.heap.size ≤ T := by omega
      rw [hT] at pT fT jT
      simp only [hT]
      have nT1 : w.heap.size ≠ T := by omega
      have nT2 : w.heap.size + 1 ≠ T := by omega
      have nTp : p ≠ T := by omega
      have nTq : q ≠ T := by omega
      have gE : Grew (ext w1 (o1 ++ o2) n2) V3 := by rw [← hV3]; (show Grew _ _; repeat (first | (with_reducible exact Grew.refl _) | (with_reducible assumption) | (with_reducible refine Grew.ext ?_ _ _) | (with_reducible refine Grew.alloc ?_ _) | ((with_reducible refine Grew.setCell ?_ ?_ _); rotate_left; (focus (dsimp only; first | omega | (simp only [size_ext, World.size_alloc, Array.size_append]; omega)))) | (with_reducible refine Grew.drewN ?_ _) | (with_reducible refine Grew.drew ?_)))
      have zE : (ext w1 (o1 ++ o2) n2).heap.size ≤ T := by simp only [size_ext, Array.size_append]; omega
      have T1 := hid t1
      have T2 := hid t2
      have TP := hid tp
      have TQ := hid tq
      clear hV3 hT t1 t2 tp tq
      go_wp2_with (first | (go_at_call 66; ((with_reducible refine (rwrite_any a (.slice aA a.ws.length cA) v2 (withV b a.ws).list _ fA3 hw2v rx Hwa.out (by omega)).mono ?_); rintro e w1 ⟨v3, rfl, ⟨g3, cap3, rfl, hg3, hF3, hL3⟩, o3, n3, rfl⟩)))
      refine name_call (fun V4 hV4 => ?_)
      have gY : Grew w1 V4 := by rw [← hV4]; (show Grew _ _; repeat (first | (with_reducible exact Grew.refl _) | (with_reducible assumption) | (with_reducible refine Grew.ext ?_ _ _) | (with_reducible refine Grew.alloc ?_ _) | ((with_reducible refine Grew.setCell ?_ ?_ _); rotate_left; (focus (dsimp only; first | omega | (simp only [size_ext, World.size_alloc, Array.size_append]; omega)))) | (with_reducible refine Grew.drewN ?_ _) | (with_reducible refine Grew.drew ?_)))
      have gE4 : Grew (ext w1 (o1 ++ o2) n2) V4 := by rw [← hV4]; (show Grew _ _; repeat (first | (with_reducible exact Grew.refl _) | (with_reducible assumption) | (with_reducible refine Grew.ext ?_ _ _) | (with_reducible refine Grew.alloc ?_ _) | ((with_reducible refine Grew.setCell ?_ ?_ _); rotate_left; (focus (dsimp only; first | omega | (simp only [size_ext, World.size_alloc, Array.size_append]; omega)))) | (with_reducible refine Grew.drewN ?_ _) | (with_reducible refine Grew.drew ?_)))
      have zY := gY.below.size
      have m1 := fun i => (gY.cell k1).trans (T1.out i)
      have m2 := fun i => (gY.cell k2).trans (T2.out i)
      have mp := fun i => (gY.cell kp).trans (TP.out i)
      have mq := fun i => (gY.cell kq).trans (TQ.out i)
      have zV : V3.heap.size + o3.size < V4.heap.size := by rw [← hV4]; simp only [World.size_alloc, size_ext, size_setCell']; omega
      have l1 : w.heap.size < V4.heap.size := by omega
      have l2 : w.heap.size + 1 < V4.heap.size := by omega
      have lp : p < V4.heap.size := by omega
      have lq : q < V4.heap.size := by omega
      have lT : T < V4.heap.size := by omega
      have mU : ∀ i, V4.cell? ⟨V3.heap.size + o3.size, i, none⟩ = (#[.slice (some ⟨g3, 0, none⟩) (VecMwrite a (withV b a.ws).list).length cap3, .int .i64 b.off, .int .i64 b.n, .int .i64 b.inc] : Array Value)[i]? := by subst hV4; intro i; go_simp
      have eU : ∀ i, V4.frozen? ⟨V3.heap.size + o3.size, i, none⟩ = false := by subst hV4; intro i; go_simp
      have hF3' : FW V4 g3 (VecMwrite a (withV b a.ws).list) := by rw [← hV4]; exact (FW.ext_set hF3 jT (by dsimp only; omega) _).alloc _
      have f3 := hF3'.fs hL3 cap3
      have hG3 := hF3'
      have fX' := fX.grew gY
      have hv1n := hv1'.grew gE4
      have zg3 : g3 < V3.heap.size + o3.size := by have := hF3.lt; simpa only [size_ext] using this
      obtain ⟨U, hU⟩ : ∃ U, V3.heap.size + o3.size = U := ⟨_, rfl⟩
      have zU : w1.heap.size ≤ U := by omega
      have zTU : T < U := by omega
      have zG : g3 < V4.heap.size := hF3'.lt
      rw [hU] at mU eU zV zg3
      simp only [hU]
      have nU1 : w.heap.size ≠ U := by omega
      have nU2 : w.heap.size + 1 ≠ U := by omega
      have nUp : p ≠ U := by omega
      have nUq : q ≠ U := by omega
      clear hV4 hU p1 p2 pp pq pT fT hF3 hF3' fA3 hw2v gE4
      have hwr : ∀ w', FS w' (.slice (some ⟨g3, 0, none⟩) (VecMwrite a (withV b a.ws).list).length cap3) (VecMwrite a (withV b a.ws).list) → FS w' v1 a.list → Calls Try.prog 66 #[.agg #[.slice (some ⟨g3, 0, none⟩) (VecMwrite a (withV b a.ws).list).length cap3, .int .i64 b.off, .int .i64 b.n, .int .i64 b.inc], v1] w' (fun e w2 => ∃ v, e = .returned v ∧ WS w2 w'.heap.size v (VecMwrite (withV (withV b a.ws) (VecMwrite a (withV b a.ws).list)) a.list) ∧ ∃ o n, w2 = ext w' o n) := fun w' h1 h2 =>
        rwrite_any (withV (withV b a.ws) (VecMwrite a (withV b a.ws).list)) _ v1 a.list w' h1 h2 (by rw [withV_right (by simp [VecMwrite, VecMwriteTo, withV])]; exact ry) hwy (by show (VecMwrite a (withV b a.ws).list).length ≤ _; simp [VecMwrite, VecMwriteTo]; omega)
      go_wp2_with (first | (go_at_call 66; ((with_reducible refine (hwr _ f3 hv1n).mono ?_); rintro e w1 ⟨v4, rfl, ⟨g4, cap4, rfl, hg4, hF4, hL4⟩, o4, n4, rfl⟩)))
      refine name_call (fun V5 hV5 => ?_)
      have gZ : Grew w1 V5 := by rw [← hV5]; (show Grew _ _; repeat (first | (with_reducible exact Grew.refl _) | (with_reducible assumption) | (with_reducible refine Grew.ext ?_ _ _) | (with_reducible refine Grew.alloc ?_ _) | ((with_reducible refine Grew.setCell ?_ ?_ _); rotate_left; (focus (dsimp only; first | omega | (simp only [size_ext, World.size_alloc, Array.size_append]; omega)))) | (with_reducible refine Grew.drewN ?_ _) | (with_reducible refine Grew.drew ?_)))
      have zZ := gZ.below.size
      have zV5 : V4.heap.size ≤ V5.heap.size := by rw [← hV5]; simp only [size_ext, size_setCell']; omega
      have m1 := fun i => (gZ.cell k1).trans (T1.out i)
      have m2 := fun i => (gZ.cell k2).trans (T2.out i)
      have mp := fun i => (gZ.cell kp).trans (TP.out i)
      have mq := fun i => (gZ.cell kq).trans (TQ.out i)
      have l1 : w.heap.size < V5.heap.size := by omega
      have l2 : w.heap.size + 1 < V5.heap.size := by omega
      have lp : p < V5.heap.size := by omega
      have lq : q < V5.heap.size := by omega
      have zV : U < V5.heap.size := by omega
      have mU : ∀ i, V5.cell? ⟨U, i, none⟩ = (#[.slice (some ⟨g4, 0, none⟩) (VecMwrite (withV (withV b a.ws) (VecMwrite a (withV b a.ws).list)) a.list).length cap4, .int .i64 b.off, .int .i64 b.n, .int .i64 b.inc] : Array Value)[i]? := by subst hV5; intro i; rcases i with _ | _ | _ | _ | i <;> go_simp
      have f4 : FS V5 (.slice (some ⟨g4, 0, none⟩) (VecMwrite (withV (withV b a.ws) (VecMwrite a (withV b a.ws).list)) a.list).length cap4) (VecMwrite (withV (withV b a.ws) (VecMwrite a (withV b a.ws).list)) a.list) := by rw [← hV5]; exact (FW.ext_set hF4 (by omega) (by dsimp only; omega) _).fs hL4 cap4
      have fX' := fX.grew gZ
      clear hV5
      go_wp2_with (first | (go_at_call 47; ((with_reducible refine (all_any (.slice (some ⟨g, 0, none⟩) a.ws.length c) (.slice (some ⟨g4, 0, none⟩) (VecMwrite (withV (withV b a.ws) (VecMwrite a (withV b a.ws).list)) a.list).length cap4) _ _ _ (fX'.grew (by (show Grew _ _; repeat (first | (with_reducible exact Grew.refl _) | (with_reducible assumption) | (with_reducible refine Grew.ext ?_ _ _) | (with_reducible refine Grew.alloc ?_ _) | ((with_reducible refine Grew.setCell ?_ ?_ _); rotate_left; (focus (dsimp only; first | omega | (simp only [size_ext, World.size_alloc, Array.size_append]; omega)))) | (with_reducible refine Grew.drewN ?_ _) | (with_reducible refine Grew.drew ?_))))) (f4.grew (by (show Grew _ _; repeat (first | (with_reducible exact Grew.refl _) | (with_reducible assumption) | (with_reducible refine Grew.ext ?_ _ _) | (with_reducible refine Grew.alloc ?_ _) | ((with_reducible refine Grew.setCell ?_ ?_ _); rotate_left; (focus (dsimp only; first | omega | (simp only [size_ext, World.size_alloc, Array.size_append]; omega)))) | (with_reducible refine Grew.drewN ?_ _) | (with_reducible refine Grew.drew ?_)))))).mono ?_); rintro e w1 ⟨rfl, o7, n7, rfl⟩)) | (go_at_call 41; ((with_reducible refine (awake04 _).mono ?_); rintro e w1 ⟨rfl, o6, n6, rfl⟩)))
      go_ret
      exact ⟨rfl, gW1.trans (by (show Grew _ _; repeat (first | (with_reducible exact Grew.refl _) | (with_reducible assumption) | (with_reducible refine Grew.ext ?_ _ _) | (with_reducible refine Grew.alloc ?_ _) | ((with_reducible refine Grew.setCell ?_ ?_ _); rotate_left; (focus (dsimp only; first | omega | (simp only [size_ext, World.size_alloc, Array.size_append]; omega)))) | (with_reducible refine Grew.drewN ?_ _) | (with_reducible refine Grew.drew ?_))))⟩
    · have d0 : (E == 0) = false := by simpa using hE0
      have d1 : (E != 0) = true := by simpa using hE0
      obtain rfl : X = a.ws := by rw [hX.out]; exact hx1 (by rw [← hE.out]; exact hE0)
      go_wp2_with (first | (go_at_call 62; ((with_reducible refine (hrp _ ?_).mono ?_); (focus (first | assumption | (refine FS.ext ?_ _ _; assumption) | (refine IS.ext ?_ _ _; assumption) | (refine hDu _ ?_; assumption) | (refine hOu _ ?_; assumption) | (refine FW.fs ?_ (by omega) _; assumption) | (refine WS.fs ?_; assumption) | omega)); rintro e w1 ⟨rfl, hw1⟩; (have B1 : But V1 [g] w1 := But.grew (by assumption) hw1; have F : FW w1 g a.ws := FW.grew (by assumption) hw1))) | (go_at_call 63; ((with_reducible refine (hmp _ (by assumption)).mono ?_); rintro e w1 ⟨rfl, hw1⟩; (have B1 : But V1 [g] w1 := But.grew (by assumption) hw1; have F : FW w1 g a.ws := FW.grew (by assumption) hw1))) | (go_at_call 64; ((with_reducible refine (hcp _ (by assumption)).mono ?_); rintro e w1 ⟨rfl, hb1, F⟩; (have B1 := B1.trans hb1 (fun _ hb => .inl hb)))) | (go_at_call 47; ((with_reducible refine (all_any (.slice (some ⟨g, 0, none⟩) a.ws.length c) (.slice aA a.ws.length cA) a.ws a.ws _ ?_ ?_).mono ?_); (focus (first | assumption | (refine FS.ext ?_ _ _; assumption) | (refine IS.ext ?_ _ _; assumption) | (refine hDu _ ?_; assumption) | (refine hOu _ ?_; assumption) | (refine FW.fs ?_ (by omega) _; assumption) | (refine WS.fs ?_; assumption) | omega)); (focus (first | assumption | (refine FS.ext ?_ _ _; assumption) | (refine IS.ext ?_ _ _; assumption) | (refine hDu _ ?_; assumption) | (refine hOu _ ?_; assumption) | (refine FW.fs ?_ (by omega) _; assumption) | (refine WS.fs ?_; assumption) | omega)); rintro e w1 ⟨rfl, hw1⟩; (have B1 : But V1 [g] w1 := But.grew (by assumption) hw1; have F : FW w1 g a.ws := FW.grew (by assumption) hw1))) | (go_at_call 41; ((with_reducible refine (awake04 _).mono ?_); rintro e w1 ⟨rfl, hw1⟩; (have B1 : But V1 [g] w1 := But.grew (by assumption) hw1; have F : FW w1 g a.ws := FW.grew (by assumption) hw1))))
      go_ret
      exact ⟨rfl, B1.grew0 gw1 hgw⟩
end Go.Proofs.Ytcmggfpcbijcjaa
