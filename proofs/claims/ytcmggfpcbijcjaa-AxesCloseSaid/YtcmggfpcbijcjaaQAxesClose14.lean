/-
  Texts laid one behind the other (a claim has at most 60 files): LawClose, Head.
-/
import Derived.Test.YtcmggfpcbijcjaaRows
import Derived.ProofKit
import Derived.Test.YtcmggfpcbijcjaaQAxesClose1
import Derived.Test.YtcmggfpcbijcjaaQAxesClose2
import Derived.Test.YtcmggfpcbijcjaaQAxesClose3
import Derived.Test.YtcmggfpcbijcjaaQAxesClose4
import Derived.Test.YtcmggfpcbijcjaaQAxesClose5
import Derived.Test.YtcmggfpcbijcjaaQAxesClose6
import Derived.Test.YtcmggfpcbijcjaaQAxesClose7
import Derived.Test.YtcmggfpcbijcjaaQAxesClose8
import Derived.Test.YtcmggfpcbijcjaaQAxesClose9
import Derived.Test.YtcmggfpcbijcjaaQAxesClose10
import Derived.Test.YtcmggfpcbijcjaaQAxesClose11
import Derived.Test.YtcmggfpcbijcjaaQAxesClose12
import Derived.Test.YtcmggfpcbijcjaaQAxesClose13
section
/-
  The walk of the law AxesClose (layer 6).
-/
set_option linter.unusedSimpArgs false
set_option linter.unusedVariables false
open Go Go.RowKit Sedge
namespace Go.Proofs.Ytcmggfpcbijcjaa
theorem fin_finB {x : Nat} (hx : x < 2 ^ 64) : fin x = finB x := fin_kind hx
theorem one_at {x : Nat} : finL [x] = finB x := by simp [finL]
theorem _root_.Sedge.FW.one1 {w : World} {r x : Nat} (h : IsF r x) (t : TypeId) {k : Nat} (hk : k = w.heap.size) : FW (w.alloc (.cells #[.float .f64 r] t)) k [x] := by
  subst hk
  refine ⟨#[.float .f64 r], t, ?_, by simp, fun i hi => ?_⟩
  · show (w.heap.push _)[w.heap.size]? = _
    simp
  · match i, hi with
    | 0, _ => exact ⟨r, rfl, h⟩
theorem axpy_1 (a α x ξ y η bx cx g cg : Nat) (w : World) (ha : IsF a α) (hX : FW w bx [ξ]) (hF : FW w g [η]) (hne : g ≠ bx) :
   Calls Try.prog 26 #[.float .f64 a, .agg #[.slice (some ⟨bx, 0, none⟩) 1 cx, .int .i64 0, .int .i64 1, .int .i64 1], .agg #[.slice (some ⟨g, 0, none⟩) 1 cg, .int .i64 0, .int .i64 1, .int .i64 1]] w (fun e w' => e = .returned (.int .i64 0) ∧ But w [g] w' ∧ FW w' g [fadd η (fmul α ξ)]) := by
  have h := axpy_any a α ⟨[ξ], 0, 1, 1⟩ ⟨[η], 0, 1, 1⟩ bx cx g cg w ha hX hF hne (by simp [VecM.right, fitsB]) (by simp [VecM.right, fitsB]) rfl (by simp [VecM.wf, I64]) (by simp [VecM.wf, I64]) (by simp) (by simp)
  have e : axL (fun i z => fadd z (fmul α (VecM.num ⟨[ξ], 0, 1, 1⟩ i))) ⟨[η], 0, 1, 1⟩ = [fadd η (fmul α ξ)] := rfl
  rw [e] at h
  exact h
set_option maxRecDepth 100000 in
set_option maxHeartbeats 4000000 in
theorem axesClose_any (a α x ξ y η : Nat) (w : World) (ha : IsF a α) (hx : IsF x ξ) (hy : IsF y η) :
    Calls Try.prog 3 #[.float .f64 a, .float .f64 x, .float .f64 y] w (fun e w' => e = .returned (.bool true) ∧ ∃ o n, w' = ext w o n) := by
  have FA := hid ha
  have FX := hid hx
  have FY := hid hy
  have h3 : ∀ (w' : World) (k : Nat) (t : TypeId), k = w'.heap.size → FS (w'.alloc (.cells #[.float .f64 a, .float .f64 x, .float .f64 y] t)) (.slice (some ⟨k, 0, none⟩) 3 3) [α, ξ, η] := fun w' k t hk => by
    subst hk
    refine ⟨by simp, _, 3, rfl, (fun h => by cases h), fun i hi => ?_⟩
    match i, hi with
    | 0, _ => exact ⟨_, 0, a, rfl, by go_simp, FA.out⟩
    | 1, _ => exact ⟨_, 0, x, rfl, by go_simp, FX.out⟩
    | 2, _ => exact ⟨_, 0, y, rfl, by go_simp, FY.out⟩
  clear ha hx hy
  cases hf : finL [α, ξ, η]
  · go_enter Try.func3, Try.ntmps3
    go_wp2_with (first | (go_at_call 24; ((with_reducible refine (awake06 _).mono ?_); rintro e w1 ⟨rfl, o1, n1, rfl⟩)) | (go_at_call 25; ((with_reducible refine (finite_any _ [α, ξ, η] _ ?_).mono ?_); (focus (exact h3 _ _ _ (by simp only [World.size_alloc, size_ext]))); rintro e w1 ⟨rfl, rfl⟩)))
    go_ret
    exact ⟨rfl, by (show Grew _ _; repeat (first | (with_reducible exact Grew.refl _) | (with_reducible assumption) | (with_reducible exact Grew.same_o) | (with_reducible exact Grew.app_o) | (with_reducible refine Grew.ext ?_ _ _) | (with_reducible refine Grew.alloc ?_ _) | ((with_reducible refine Grew.setCell ?_ ?_ _); rotate_left; (focus (dsimp only; first | omega | (simp only [size_ext, World.size_alloc, Array.size_append]; omega)))) | (with_reducible refine Grew.drewN ?_ _) | (with_reducible refine Grew.drew ?_)))⟩
  · obtain ⟨δ, hδ⟩ : ∃ δ, δ = fadd η (fmul α ξ) := ⟨_, rfl⟩
    have hax := fun bx cx g cg w' h1 h2 h3 => axpy_1 a α x ξ y η bx cx g cg w' FA.out h1 h2 h3
    rw [← hδ] at hax
    have hδl : δ < 2 ^ 64 := by rw [hδ]; exact fadd_lt _ _
    have HD := hid hδ
    have hI1 : ∀ w', Calls Try.prog 33 #[.int .i64 1] w' (fun e w2 => ∃ v, e = .returned v ∧ DV w2 v ((1 : Nat) : Rat) 0 4 ∧ (∀ k, dBlock v = some k → w'.heap.size ≤ k) ∧ ∃ o n, w2 = ext w' o n) := fun w' => dint_any 1 w' (by decide)
    clear hδ
    go_enter Try.func3, Try.ntmps3
    go_wp2_with (first | (go_at_call 24; ((with_reducible refine (awake06 _).mono ?_); rintro e w1 ⟨rfl, o1, n1, rfl⟩)) | (go_at_call 25; ((with_reducible refine (finite_any _ [α, ξ, η] _ ?_).mono ?_); (focus (exact h3 _ _ _ (by simp only [World.size_alloc, size_ext]))); rintro e w1 ⟨rfl, rfl⟩)))
    refine name_call (fun V hV => ?_)
    have gV : Grew w V := by rw [← hV]; (show Grew _ _; repeat (first | (with_reducible exact Grew.refl _) | (with_reducible assumption) | (with_reducible exact Grew.same_o) | (with_reducible exact Grew.app_o) | (with_reducible refine Grew.ext ?_ _ _) | (with_reducible refine Grew.alloc ?_ _) | ((with_reducible refine Grew.setCell ?_ ?_ _); rotate_left; (focus (dsimp only; first | omega | (simp only [size_ext, World.size_alloc, Array.size_append]; omega)))) | (with_reducible refine Grew.drewN ?_ _) | (with_reducible refine Grew.drew ?_)))
    obtain ⟨g, hgg⟩ : ∃ g, g = w.heap.size + o1.size := ⟨_, rfl⟩
    have hg : FW V g [η] := by rw [← hV, hgg]; exact ((FW.one1 (w := ext w o1 n1) FY.out 22 (by simp only [size_ext])).alloc _).alloc _
    have hb : FW V (g + 1 + 1) [ξ] := by rw [← hV, hgg]; exact FW.one1 FX.out 22 (by simp only [size_ext, World.size_alloc])
    have zg : w.heap.size ≤ g := by omega
    simp only [← hgg]
    have hc := hax (g + 1 + 1) 1 g 1 V hb hg (by omega)
    clear hV hgg hg hb
    refine hc.mono ?_
    rintro e w1 ⟨rfl, hB, hF⟩
    have g1 : Grew w w1 := hB.grew0 gV (by intro k hk; simp at hk; omega)
    have hfs := hF.fs (by simp) 1
    obtain ⟨bd, hcd, hbd⟩ := hF.get (i := 0) (by simp)
    change IsF bd δ at hbd
    have kg := hF.lt
    have HBD := hid hbd
    clear hc hB hbd hax hF gV
    cases hfd : finL [δ]
    · go_wp2_with (first | (go_at_call 24; ((with_reducible refine (awake06 _).mono ?_); rintro e w1 ⟨rfl, o4, n4, rfl⟩)) | (go_at_call 25; ((with_reducible refine (finite_any _ [δ] _ ?_).mono ?_); (focus (exact hfs)); rintro e w2 ⟨rfl, rfl⟩)))
      go_ret
      exact ⟨rfl, g1.ext _ _⟩
    · go_upto_region 11 with (first | (go_at_call 25; ((with_reducible refine (finite_any _ [δ] _ ?_).mono ?_); (focus (exact hfs)); rintro e w2 ⟨rfl, rfl⟩)))
      go_upto_region 12 with (first | (go_at_call 27; ((with_reducible refine (of_any a α _ FA.out).mono ?_); rintro e w1 ⟨va, rfl, hva, hka, oa, na, rfl⟩; (obtain ⟨va1, va2, va3, va4, va5, rfl⟩ := hva.shape); (try simp only [drew_ext, drewN_ext, ext_ext] at hva))) | (go_at_call 27; ((with_reducible refine (of_any x ξ _ FX.out).mono ?_); rintro e w1 ⟨vx, rfl, hvx, hkx, ox, nx, rfl⟩; (obtain ⟨vx1, vx2, vx3, vx4, vx5, rfl⟩ := hvx.shape); (try simp only [drew_ext, drewN_ext, ext_ext] at hvx))) | (go_at_call 28; ((with_reducible refine (dmul_any _ _ _ _ (-70) 70 (-70) 70 _ (hva.grew (by (show Grew _ _; (try simp only [← Array.append_assoc]); repeat (first | (with_reducible exact Grew.same_o) | (with_reducible exact Grew.refl _) | (with_reducible assumption) | (with_reducible refine Grew.alloc ?_ _) | (with_reducible refine Grew.app_r ?_) | ((with_reducible refine Grew.setCell ?_ ?_ _); rotate_left; (focus (dsimp only; first | omega | (simp only [size_ext, World.size_alloc, Array.size_append]; omega)))) | (with_reducible refine Grew.ext ?_ _ _) | (with_reducible refine Grew.drewN ?_ _) | (with_reducible refine Grew.drew ?_))))) hvx (by decide) (by decide) (by decide) (by decide)).mono ?_); rintro e w1 ⟨vp, rfl, hvp, hkp, op, np, rfl⟩; (obtain ⟨vp1, vp2, vp3, vp4, vp5, rfl⟩ := hvp.shape); (try simp only [drew_ext, drewN_ext, ext_ext] at hvp))))
      refine name_any (fun U hU => ?_)
      obtain ⟨k9, hk9⟩ : ∃ k9, k9 = w1.heap.size + (oa.size + (ox.size + op.size)) := ⟨_, rfl⟩
      have gU : Grew w1 U := by rw [← hU]; (show Grew _ _; repeat (first | (with_reducible exact Grew.refl _) | (with_reducible assumption) | (with_reducible exact Grew.same_o) | (with_reducible exact Grew.app_o) | (with_reducible refine Grew.ext ?_ _ _) | (with_reducible refine Grew.alloc ?_ _) | ((with_reducible refine Grew.setCell ?_ ?_ _); rotate_left; (focus (dsimp only; first | omega | (simp only [size_ext, World.size_alloc, Array.size_append]; omega)))) | (with_reducible refine Grew.drewN ?_ _) | (with_reducible refine Grew.drew ?_)))
      have hP : DV U (.agg #[.bool vp1, .slice vp2 vp3 vp4, .int .i64 vp5]) (val α * val ξ) (-150) 150 := (hvp.grew (by rw [← hU]; (show Grew _ _; (try simp only [← Array.append_assoc]); repeat (first | (with_reducible exact Grew.same_o) | (with_reducible exact Grew.refl _) | (with_reducible assumption) | (with_reducible refine Grew.alloc ?_ _) | (with_reducible refine Grew.app_r ?_) | ((with_reducible refine Grew.setCell ?_ ?_ _); rotate_left; (focus (dsimp only; first | omega | (simp only [size_ext, World.size_alloc, Array.size_append]; omega)))) | (with_reducible refine Grew.ext ?_ _ _) | (with_reducible refine Grew.drewN ?_ _) | (with_reducible refine Grew.drew ?_))))).mono (by decide) (by decide)
      have c9 : ∀ i, U.cell? ⟨k9, i, none⟩ = (#[.bool vp1, .slice vp2 vp3 vp4, .int .i64 vp5] : Array Value)[i]? := by subst hU; rw [hk9]; intro i; go_simp
      have z9 : k9 < U.heap.size := by rw [← hU, hk9]; simp only [World.size_alloc, size_ext, Array.size_append]; omega
      have hcU : U.cell? ⟨g, 0, none⟩ = some (.float .f64 bd) := (gU.cell kg).trans hcd
      have kgU : g < U.heap.size := Nat.lt_of_lt_of_le kg gU.below.size
      have gwU : Grew w U := Grew.trans g1 gU
      simp only [← hk9]
      clear hU hk9 hva hvx hvp hka hkx hkp gU hfs hcd kg g1
      go_wp2
      refine wp_region_JD [10] (U) [.val (fun v => v = .slice (some ⟨g, 0, none⟩) 1 1), .val (fun v => v = .pointer (some ⟨g, 0, none⟩)), .val (fun v => v = .float .f64 bd), .dv (val δ) (-70) (70), .val (fun v => v = .agg #[.bool vp1, .slice vp2 vp3 vp4, .int .i64 vp5]), .dv (val δ - val α * val ξ) (-150) (151), .val (fun v => v = .float .f64 y), .dv (val η) (-70) (70), .dv (val δ - val α * val ξ - val η) (-150) (152), .dv ((val δ - val α * val ξ - val η).abs) (-150) (152), .box, .put 10 ((val δ - val α * val ξ - val η).abs) (-150) (152)] [41, 42, 43, 44, 45, 46, 47, 48, 49, 50, 10] (by kernel_rfl) (by kernel_rfl) (by (show Grew _ _; (try simp only [← Array.append_assoc]); repeat (first | (with_reducible exact Grew.same_o) | (with_reducible exact Grew.refl _) | (with_reducible assumption) | (with_reducible refine Grew.alloc ?_ _) | (with_reducible refine Grew.app_r ?_) | ((with_reducible refine Grew.setCell ?_ ?_ _); rotate_left; (focus (dsimp only; first | omega | (simp only [size_ext, World.size_alloc, Array.size_append]; omega)))) | (with_reducible refine Grew.ext ?_ _ _) | (with_reducible refine Grew.drewN ?_ _) | (with_reducible refine Grew.drew ?_)))) ?_ (fun ρ own V gV hF => ?_)
      · refine stepsD_cons (j := 1) rfl ?_ ?_
        · intro L ρ own u hS K hK
          obtain ⟨o', n', hu⟩ := hS.grew
          subst hu
          simp only [mkA_cons, mkA_nil, List.setIfInBounds_toArray, List.set_cons_zero, List.set_cons_succ]
          go_wp2_with fail
          exact hS.val rfl rfl (by kernel_rfl) (by (show Grew _ _; (try simp only [← Array.append_assoc]); repeat (first | (with_reducible exact Grew.same_o) | (with_reducible exact Grew.refl _) | (with_reducible assumption) | (with_reducible refine Grew.alloc ?_ _) | (with_reducible refine Grew.app_r ?_) | ((with_reducible refine Grew.setCell ?_ ?_ _); rotate_left; (focus (dsimp only; first | omega | (simp only [size_ext, World.size_alloc, Array.size_append]; omega)))) | (with_reducible refine Grew.ext ?_ _ _) | (with_reducible refine Grew.drewN ?_ _) | (with_reducible refine Grew.drew ?_)))) (by first | rfl | assumption) (by simp only [mkA_cons, mkA_nil, List.setIfInBounds_toArray, List.set_cons_zero, List.set_cons_succ, *] )
        refine stepsD_cons (j := 2) rfl ?_ ?_
        · intro L ρ own u hS K hK
          have e0 := hS.fact 0 rfl rfl (by kernel_rfl)
          change ρ 41 = _ at e0
          obtain ⟨o', n', hu⟩ := hS.grew
          subst hu
          simp only [mkA_cons, mkA_nil, List.setIfInBounds_toArray, List.set_cons_zero, List.set_cons_succ]
          go_wp2_with fail
          exact hS.val rfl rfl (by kernel_rfl) (by (show Grew _ _; (try simp only [← Array.append_assoc]); repeat (first | (with_reducible exact Grew.same_o) | (with_reducible exact Grew.refl _) | (with_reducible assumption) | (with_reducible refine Grew.alloc ?_ _) | (with_reducible refine Grew.app_r ?_) | ((with_reducible refine Grew.setCell ?_ ?_ _); rotate_left; (focus (dsimp only; first | omega | (simp only [size_ext, World.size_alloc, Array.size_append]; omega)))) | (with_reducible refine Grew.ext ?_ _ _) | (with_reducible refine Grew.drewN ?_ _) | (with_reducible refine Grew.drew ?_)))) (by first | rfl | assumption) (by simp only [mkA_cons, mkA_nil, List.setIfInBounds_toArray, List.set_cons_zero, List.set_cons_succ, *] )
        refine stepsD_cons (j := 3) rfl ?_ ?_
        · intro L ρ own u hS K hK
          have e1 := hS.fact 1 rfl rfl (by kernel_rfl)
          change ρ 42 = _ at e1
          obtain ⟨o', n', hu⟩ := hS.grew
          subst hu
          simp only [mkA_cons, mkA_nil, List.setIfInBounds_toArray, List.set_cons_zero, List.set_cons_succ]
          go_wp2_with fail
          exact hS.val rfl rfl (by kernel_rfl) (by (show Grew _ _; (try simp only [← Array.append_assoc]); repeat (first | (with_reducible exact Grew.same_o) | (with_reducible exact Grew.refl _) | (with_reducible assumption) | (with_reducible refine Grew.alloc ?_ _) | (with_reducible refine Grew.app_r ?_) | ((with_reducible refine Grew.setCell ?_ ?_ _); rotate_left; (focus (dsimp only; first | omega | (simp only [size_ext, World.size_alloc, Array.size_append]; omega)))) | (with_reducible refine Grew.ext ?_ _ _) | (with_reducible refine Grew.drewN ?_ _) | (with_reducible refine Grew.drew ?_)))) (by first | rfl | assumption) (by simp only [mkA_cons, mkA_nil, List.setIfInBounds_toArray, List.set_cons_zero, List.set_cons_succ, *] )
        refine stepsD_cons (j := 4) rfl ?_ ?_
        · intro L ρ own u hS K hK
          have e2 := hS.fact 2 rfl rfl (by kernel_rfl)
          change ρ 43 = _ at e2
          obtain ⟨o', n', hu⟩ := hS.grew
          subst hu
          simp only [mkA_cons, mkA_nil, List.setIfInBounds_toArray, List.set_cons_zero, List.set_cons_succ]
          go_wp2_with (first | (go_at_call 27; ((with_reducible refine (of_any bd δ _ HBD.out).mono ?_); rintro e w1 ⟨v, rfl, hv, hk, o1, n1, rfl⟩; (obtain ⟨v1, v2, v3, v4, v5, rfl⟩ := hv.shape))))
          try simp only [drew_ext, drewN_ext, ext_ext] at hv
          exact hS.dv rfl rfl (by kernel_rfl) (by (show Grew _ _; (try simp only [← Array.append_assoc]); repeat (first | (with_reducible exact Grew.same_o) | (with_reducible exact Grew.refl _) | (with_reducible assumption) | (with_reducible refine Grew.alloc ?_ _) | (with_reducible refine Grew.app_r ?_) | ((with_reducible refine Grew.setCell ?_ ?_ _); rotate_left; (focus (dsimp only; first | omega | (simp only [size_ext, World.size_alloc, Array.size_append]; omega)))) | (with_reducible refine Grew.ext ?_ _ _) | (with_reducible refine Grew.drewN ?_ _) | (with_reducible refine Grew.drew ?_)))) hv (fun k h1 h2 => .inl (by have := hk k h1; simp only [size_ext] at *; omega)) (by simp only [mkA_cons, mkA_nil, List.setIfInBounds_toArray, List.set_cons_zero, List.set_cons_succ, *] )
        refine stepsD_cons (j := 5) rfl ?_ ?_
        · intro L ρ own u hS K hK
          obtain ⟨o', n', hu⟩ := hS.grew
          subst hu
          simp only [mkA_cons, mkA_nil, List.setIfInBounds_toArray, List.set_cons_zero, List.set_cons_succ]
          go_wp2_with fail
          exact hS.val rfl rfl (by kernel_rfl) (by (show Grew _ _; (try simp only [← Array.append_assoc]); repeat (first | (with_reducible exact Grew.same_o) | (with_reducible exact Grew.refl _) | (with_reducible assumption) | (with_reducible refine Grew.alloc ?_ _) | (with_reducible refine Grew.app_r ?_) | ((with_reducible refine Grew.setCell ?_ ?_ _); rotate_left; (focus (dsimp only; first | omega | (simp only [size_ext, World.size_alloc, Array.size_append]; omega)))) | (with_reducible refine Grew.ext ?_ _ _) | (with_reducible refine Grew.drewN ?_ _) | (with_reducible refine Grew.drew ?_)))) (by first | rfl | assumption) (by simp only [mkA_cons, mkA_nil, List.setIfInBounds_toArray, List.set_cons_zero, List.set_cons_succ, *] )
        refine stepsD_cons (j := 6) rfl ?_ ?_
        · intro L ρ own u hS K hK
          obtain ⟨g3, a3, n3, c3, E3, e3, hv3, hs3⟩ := dvOut (hS.fact 3 rfl rfl (by kernel_rfl))
          change ρ 44 = _ at e3
          have e4 := hS.fact 4 rfl rfl (by kernel_rfl)
          change ρ 45 = _ at e4
          obtain ⟨o', n', hu⟩ := hS.grew
          subst hu
          simp only [mkA_cons, mkA_nil, List.setIfInBounds_toArray, List.set_cons_zero, List.set_cons_succ]
          go_wp2_with (first | (go_at_call 29; ((with_reducible refine (dsub_any _ _ _ _ (-150) 150 _ (hv3.mono (by decide) (by decide)) (hP.grew (by (show Grew _ _; (try simp only [← Array.append_assoc]); repeat (first | (with_reducible exact Grew.same_o) | (with_reducible exact Grew.refl _) | (with_reducible assumption) | (with_reducible refine Grew.alloc ?_ _) | (with_reducible refine Grew.app_r ?_) | ((with_reducible refine Grew.setCell ?_ ?_ _); rotate_left; (focus (dsimp only; first | omega | (simp only [size_ext, World.size_alloc, Array.size_append]; omega)))) | (with_reducible refine Grew.ext ?_ _ _) | (with_reducible refine Grew.drewN ?_ _) | (with_reducible refine Grew.drew ?_))))) (by decide) (by decide)).mono ?_); rintro e w1 ⟨v, rfl, hv, hk, o1, n1, rfl⟩; (obtain ⟨v1, v2, v3, v4, v5, rfl⟩ := hv.shape))))
          try simp only [drew_ext, drewN_ext, ext_ext] at hv
          exact hS.dv rfl rfl (by kernel_rfl) (by (show Grew _ _; (try simp only [← Array.append_assoc]); repeat (first | (with_reducible exact Grew.same_o) | (with_reducible exact Grew.refl _) | (with_reducible assumption) | (with_reducible refine Grew.alloc ?_ _) | (with_reducible refine Grew.app_r ?_) | ((with_reducible refine Grew.setCell ?_ ?_ _); rotate_left; (focus (dsimp only; first | omega | (simp only [size_ext, World.size_alloc, Array.size_append]; omega)))) | (with_reducible refine Grew.ext ?_ _ _) | (with_reducible refine Grew.drewN ?_ _) | (with_reducible refine Grew.drew ?_)))) hv (fun k h1 h2 => .inl (by have := hk k h1; simp only [size_ext] at *; omega)) (by simp only [mkA_cons, mkA_nil, List.setIfInBounds_toArray, List.set_cons_zero, List.set_cons_succ, *] )
        refine stepsD_cons (j := 7) rfl ?_ ?_
        · intro L ρ own u hS K hK
          obtain ⟨o', n', hu⟩ := hS.grew
          subst hu
          simp only [mkA_cons, mkA_nil, List.setIfInBounds_toArray, List.set_cons_zero, List.set_cons_succ]
          go_wp2_with fail
          exact hS.val rfl rfl (by kernel_rfl) (by (show Grew _ _; (try simp only [← Array.append_assoc]); repeat (first | (with_reducible exact Grew.same_o) | (with_reducible exact Grew.refl _) | (with_reducible assumption) | (with_reducible refine Grew.alloc ?_ _) | (with_reducible refine Grew.app_r ?_) | ((with_reducible refine Grew.setCell ?_ ?_ _); rotate_left; (focus (dsimp only; first | omega | (simp only [size_ext, World.size_alloc, Array.size_append]; omega)))) | (with_reducible refine Grew.ext ?_ _ _) | (with_reducible refine Grew.drewN ?_ _) | (with_reducible refine Grew.drew ?_)))) (by first | rfl | assumption) (by simp only [mkA_cons, mkA_nil, List.setIfInBounds_toArray, List.set_cons_zero, List.set_cons_succ, *] )
        refine stepsD_cons (j := 8) rfl ?_ ?_
        · intro L ρ own u hS K hK
          obtain ⟨g5, a5, n5, c5, E5, e5, hv5, hs5⟩ := dvOut (hS.fact 5 rfl rfl (by kernel_rfl))
          change ρ 46 = _ at e5
          have e6 := hS.fact 6 rfl rfl (by kernel_rfl)
          change ρ 47 = _ at e6
          obtain ⟨o', n', hu⟩ := hS.grew
          subst hu
          simp only [mkA_cons, mkA_nil, List.setIfInBounds_toArray, List.set_cons_zero, List.set_cons_succ]
          go_wp2_with (first | (go_at_call 27; ((with_reducible refine (of_any y η _ FY.out).mono ?_); rintro e w1 ⟨v, rfl, hv, hk, o1, n1, rfl⟩; (obtain ⟨v1, v2, v3, v4, v5, rfl⟩ := hv.shape))))
          try simp only [drew_ext, drewN_ext, ext_ext] at hv
          exact hS.dv rfl rfl (by kernel_rfl) (by (show Grew _ _; (try simp only [← Array.append_assoc]); repeat (first | (with_reducible exact Grew.same_o) | (with_reducible exact Grew.refl _) | (with_reducible assumption) | (with_reducible refine Grew.alloc ?_ _) | (with_reducible refine Grew.app_r ?_) | ((with_reducible refine Grew.setCell ?_ ?_ _); rotate_left; (focus (dsimp only; first | omega | (simp only [size_ext, World.size_alloc, Array.size_append]; omega)))) | (with_reducible refine Grew.ext ?_ _ _) | (with_reducible refine Grew.drewN ?_ _) | (with_reducible refine Grew.drew ?_)))) hv (fun k h1 h2 => .inl (by have := hk k h1; simp only [size_ext] at *; omega)) (by simp only [mkA_cons, mkA_nil, List.setIfInBounds_toArray, List.set_cons_zero, List.set_cons_succ, *] )
        refine stepsD_cons (j := 9) rfl ?_ ?_
        · intro L ρ own u hS K hK
          obtain ⟨g5, a5, n5, c5, E5, e5, hv5, hs5⟩ := dvOut (hS.fact 5 rfl rfl (by kernel_rfl))
          change ρ 46 = _ at e5
          obtain ⟨g7, a7, n7, c7, E7, e7, hv7, hs7⟩ := dvOut (hS.fact 7 rfl rfl (by kernel_rfl))
          change ρ 48 = _ at e7
          obtain ⟨o', n', hu⟩ := hS.grew
          subst hu
          simp only [mkA_cons, mkA_nil, List.setIfInBounds_toArray, List.set_cons_zero, List.set_cons_succ]
          go_wp2_with (first | (go_at_call 29; ((with_reducible refine (dsub_any _ _ _ _ (-150) 151 _ hv5 (hv7.mono (by decide) (by decide)) (by decide) (by decide)).mono ?_); rintro e w1 ⟨v, rfl, hv, hk, o1, n1, rfl⟩; (obtain ⟨v1, v2, v3, v4, v5, rfl⟩ := hv.shape))))
          try simp only [drew_ext, drewN_ext, ext_ext] at hv
          exact hS.dv rfl rfl (by kernel_rfl) (by (show Grew _ _; (try simp only [← Array.append_assoc]); repeat (first | (with_reducible exact Grew.same_o) | (with_reducible exact Grew.refl _) | (with_reducible assumption) | (with_reducible refine Grew.alloc ?_ _) | (with_reducible refine Grew.app_r ?_) | ((with_reducible refine Grew.setCell ?_ ?_ _); rotate_left; (focus (dsimp only; first | omega | (simp only [size_ext, World.size_alloc, Array.size_append]; omega)))) | (with_reducible refine Grew.ext ?_ _ _) | (with_reducible refine Grew.drewN ?_ _) | (with_reducible refine Grew.drew ?_)))) hv (fun k h1 h2 => .inl (by have := hk k h1; simp only [size_ext] at *; omega)) (by simp only [mkA_cons, mkA_nil, List.setIfInBounds_toArray, List.set_cons_zero, List.set_cons_succ, *] )
        refine stepsD_cons (j := 10) rfl ?_ ?_
        · intro L ρ own u hS K hK
          obtain ⟨g8, a8, n8, c8, E8, e8, hv8, hs8⟩ := dvOut (hS.fact 8 rfl rfl (by kernel_rfl))
          change ρ 49 = _ at e8
          obtain ⟨o', n', hu⟩ := hS.grew
          subst hu
          simp only [mkA_cons, mkA_nil, List.setIfInBounds_toArray, List.set_cons_zero, List.set_cons_succ]
          go_wp2_with (first | (go_at_call 30; ((with_reducible refine (dabs_any _ _ _ _ _ hv8).mono ?_); rintro e w1 ⟨v, rfl, hv, hk, o1, n1, rfl⟩; (obtain ⟨v1, v2, v3, v4, v5, rfl⟩ := hv.shape))))
          try simp only [drew_ext, drewN_ext, ext_ext] at hv
          exact hS.dv rfl rfl (by kernel_rfl) (by (show Grew _ _; (try simp only [← Array.append_assoc]); repeat (first | (with_reducible exact Grew.same_o) | (with_reducible exact Grew.refl _) | (with_reducible assumption) | (with_reducible refine Grew.alloc ?_ _) | (with_reducible refine Grew.app_r ?_) | ((with_reducible refine Grew.setCell ?_ ?_ _); rotate_left; (focus (dsimp only; first | omega | (simp only [size_ext, World.size_alloc, Array.size_append]; omega)))) | (with_reducible refine Grew.ext ?_ _ _) | (with_reducible refine Grew.drewN ?_ _) | (with_reducible refine Grew.drew ?_)))) hv (fun k h1 h2 => .inr (hs8 k (by rw [← hk.1]; exact h1) (by rw [← hk.2]; exact h2))) (by simp only [mkA_cons, mkA_nil, List.setIfInBounds_toArray, List.set_cons_zero, List.set_cons_succ, *] )
        refine stepsD_cons (j := 11) rfl ?_ ?_
        · intro L ρ own u hS K hK
          simp only [mkA_cons, mkA_nil, List.setIfInBounds_toArray, List.set_cons_zero, List.set_cons_succ]
          go_wp2_with fail
          exact hS.box rfl rfl (by kernel_rfl) rfl (by simp only [mkA_cons, mkA_nil, List.setIfInBounds_toArray, List.set_cons_zero, List.set_cons_succ, *] )
        refine stepsD_cons (j := 12) rfl ?_ ?_
        · intro L ρ own u hS K hK
          exact hS.put (kb := 10) (kr := 9) rfl rfl (by kernel_rfl) (by decide) rfl rfl (by kernel_rfl) rfl rfl rfl (by kernel_rfl) rfl rfl (by simp only [mkA_cons, mkA_nil, List.setIfInBounds_toArray, List.set_cons_zero, List.set_cons_succ]; rfl) (by simp only [mkA_cons, mkA_nil, List.setIfInBounds_toArray, List.set_cons_zero, List.set_cons_succ]; rfl) (by kernel_rfl) hK
        exact stepsD_nil
      obtain ⟨p11, g11, a11, n11, c11, E11, e11, zl11, zr11, ow11, ce11, fr11, hd11, sf11⟩ := putOut (hF 11 _ _ rfl rfl)
      change ρ 10 = _ at e11
      have y0 := hF 0 _ _ rfl rfl
      change ρ 41 = _ at y0
      have y1 := hF 1 _ _ rfl rfl
      change ρ 42 = _ at y1
      have y2 := hF 2 _ _ rfl rfl
      change ρ 43 = _ at y2
      have y4 := hF 4 _ _ rfl rfl
      change ρ 45 = _ at y4
      have y6 := hF 6 _ _ rfl rfl
      change ρ 47 = _ at y6
      simp only [mkA_cons, mkA_nil, List.setIfInBounds_toArray, List.set_cons_zero, List.set_cons_succ, e11, y0, y1, y2, y4, y6]
      have hP' := hP.grew gV
      have c9' : ∀ i, V.cell? ⟨k9, i, none⟩ = (#[.bool vp1, .slice vp2 vp3 vp4, .int .i64 vp5] : Array Value)[i]? := fun i => (gV.cell z9).trans (c9 i)
      have z9' : k9 < V.heap.size := Nat.lt_of_lt_of_le z9 gV.below.size
      have gwV : Grew w V := Grew.trans gwU gV
      clear hF hP c9 z9 hcU kgU gwU gV zl11 ow11 sf11 fr11 e11
      go_upto_region 14 with (first | (go_at_call 30; ((with_reducible refine (dabs_any _ _ _ _ _ (hP'.grew (by (show Grew _ _; (try simp only [← Array.append_assoc]); repeat (first | (with_reducible exact Grew.same_o) | (with_reducible exact Grew.refl _) | (with_reducible assumption) | (with_reducible refine Grew.alloc ?_ _) | (with_reducible refine Grew.app_r ?_) | ((with_reducible refine Grew.setCell ?_ ?_ _); rotate_left; (focus (dsimp only; first | omega | (simp only [size_ext, World.size_alloc, Array.size_append]; omega)))) | (with_reducible refine Grew.ext ?_ _ _) | (with_reducible refine Grew.drewN ?_ _) | (with_reducible refine Grew.drew ?_)))))).mono ?_); rintro e w1 ⟨r1, rfl, h1, hk1, o1, n1, rfl⟩; (obtain ⟨r11, r12, r13, r14, r15, rfl⟩ := h1.shape); (try simp only [drew_ext, drewN_ext, ext_ext] at h1))) | (go_at_call 27; ((with_reducible refine (of_any y η _ FY.out).mono ?_); rintro e w1 ⟨r2, rfl, h2, hk2, o2, n2, rfl⟩; (obtain ⟨r21, r22, r23, r24, r25, rfl⟩ := h2.shape); (try simp only [drew_ext, drewN_ext, ext_ext] at h2))) | (go_at_call 30; ((with_reducible refine (dabs_any _ _ _ _ _ (h2.grew (by (show Grew _ _; (try simp only [← Array.append_assoc]); repeat (first | (with_reducible exact Grew.same_o) | (with_reducible exact Grew.refl _) | (with_reducible assumption) | (with_reducible refine Grew.alloc ?_ _) | (with_reducible refine Grew.app_r ?_) | ((with_reducible refine Grew.setCell ?_ ?_ _); rotate_left; (focus (dsimp only; first | omega | (simp only [size_ext, World.size_alloc, Array.size_append]; omega)))) | (with_reducible refine Grew.ext ?_ _ _) | (with_reducible refine Grew.drewN ?_ _) | (with_reducible refine Grew.drew ?_)))))).mono ?_); rintro e w1 ⟨r3, rfl, h3, hk3, o3, n3, rfl⟩; (obtain ⟨r31, r32, r33, r34, r35, rfl⟩ := h3.shape); (try simp only [drew_ext, drewN_ext, ext_ext] at h3))) | (go_at_call 31; ((with_reducible refine (dadd_any _ _ _ _ (-150) 150 _ (h1.grew (by (show Grew _ _; (try simp only [← Array.append_assoc]); repeat (first | (with_reducible exact Grew.same_o) | (with_reducible exact Grew.refl _) | (with_reducible assumption) | (with_reducible refine Grew.alloc ?_ _) | (with_reducible refine Grew.app_r ?_) | ((with_reducible refine Grew.setCell ?_ ?_ _); rotate_left; (focus (dsimp only; first | omega | (simp only [size_ext, World.size_alloc, Array.size_append]; omega)))) | (with_reducible refine Grew.ext ?_ _ _) | (with_reducible refine Grew.drewN ?_ _) | (with_reducible refine Grew.drew ?_))))) ((h3.grew (by (show Grew _ _; (try simp only [← Array.append_assoc]); repeat (first | (with_reducible exact Grew.same_o) | (with_reducible exact Grew.refl _) | (with_reducible assumption) | (with_reducible refine Grew.alloc ?_ _) | (with_reducible refine Grew.app_r ?_) | ((with_reducible refine Grew.setCell ?_ ?_ _); rotate_left; (focus (dsimp only; first | omega | (simp only [size_ext, World.size_alloc, Array.size_append]; omega)))) | (with_reducible refine Grew.ext ?_ _ _) | (with_reducible refine Grew.drewN ?_ _) | (with_reducible refine Grew.drew ?_))))).mono (by decide) (by decide)) (by decide) (by decide)).mono ?_); rintro e w1 ⟨r4, rfl, h4, hk4, o4, n4, rfl⟩; (obtain ⟨r41, r42, r43, r44, r45, rfl⟩ := h4.shape); (try simp only [drew_ext, drewN_ext, ext_ext] at h4))) | (go_at_call 32; ((with_reducible refine (dshift_any _ _ (-150) 151 (-52) _ (h4.grew (by (show Grew _ _; (try simp only [← Array.append_assoc]); repeat (first | (with_reducible exact Grew.same_o) | (with_reducible exact Grew.refl _) | (with_reducible assumption) | (with_reducible refine Grew.alloc ?_ _) | (with_reducible refine Grew.app_r ?_) | ((with_reducible refine Grew.setCell ?_ ?_ _); rotate_left; (focus (dsimp only; first | omega | (simp only [size_ext, World.size_alloc, Array.size_append]; omega)))) | (with_reducible refine Grew.ext ?_ _ _) | (with_reducible refine Grew.drewN ?_ _) | (with_reducible refine Grew.drew ?_))))) (by decide) (by decide) (by decide)).mono ?_); rintro e w1 ⟨r5, rfl, h5, hk5, o5, n5, rfl⟩; (obtain ⟨r51, r52, r53, r54, r55, rfl⟩ := h5.shape); (try simp only [drew_ext, drewN_ext, ext_ext] at h5))) | (go_at_call 33; ((with_reducible refine (hI1 _).mono ?_); rintro e w1 ⟨r6, rfl, h6, hk6, o6, n6, rfl⟩; (obtain ⟨r61, r62, r63, r64, r65, rfl⟩ := h6.shape); (try simp only [drew_ext, drewN_ext, ext_ext] at h6))) | (go_at_call 32; ((with_reducible refine (dshift_any _ _ 0 4 (-1074) _ (h6.grew (by (show Grew _ _; (try simp only [← Array.append_assoc]); repeat (first | (with_reducible exact Grew.same_o) | (with_reducible exact Grew.refl _) | (with_reducible assumption) | (with_reducible refine Grew.alloc ?_ _) | (with_reducible refine Grew.app_r ?_) | ((with_reducible refine Grew.setCell ?_ ?_ _); rotate_left; (focus (dsimp only; first | omega | (simp only [size_ext, World.size_alloc, Array.size_append]; omega)))) | (with_reducible refine Grew.ext ?_ _ _) | (with_reducible refine Grew.drewN ?_ _) | (with_reducible refine Grew.drew ?_))))) (by decide) (by decide) (by decide)).mono ?_); rintro e w1 ⟨r7, rfl, h7, hk7, o7, n7, rfl⟩; (obtain ⟨r71, r72, r73, r74, r75, rfl⟩ := h7.shape); (try simp only [drew_ext, drewN_ext, ext_ext] at h7))) | (go_at_call 31; ((with_reducible refine (dadd_any _ _ _ _ (-160) 160 _ ((h5.grew (by (show Grew _ _; (try simp only [← Array.append_assoc]); repeat (first | (with_reducible exact Grew.same_o) | (with_reducible exact Grew.refl _) | (with_reducible assumption) | (with_reducible refine Grew.alloc ?_ _) | (with_reducible refine Grew.app_r ?_) | ((with_reducible refine Grew.setCell ?_ ?_ _); rotate_left; (focus (dsimp only; first | omega | (simp only [size_ext, World.size_alloc, Array.size_append]; omega)))) | (with_reducible refine Grew.ext ?_ _ _) | (with_reducible refine Grew.drewN ?_ _) | (with_reducible refine Grew.drew ?_))))).mono (by decide) (by decide)) ((h7.grew (by (show Grew _ _; (try simp only [← Array.append_assoc]); repeat (first | (with_reducible exact Grew.same_o) | (with_reducible exact Grew.refl _) | (with_reducible assumption) | (with_reducible refine Grew.alloc ?_ _) | (with_reducible refine Grew.app_r ?_) | ((with_reducible refine Grew.setCell ?_ ?_ _); rotate_left; (focus (dsimp only; first | omega | (simp only [size_ext, World.size_alloc, Array.size_append]; omega)))) | (with_reducible refine Grew.ext ?_ _ _) | (with_reducible refine Grew.drewN ?_ _) | (with_reducible refine Grew.drew ?_))))).mono (by decide) (by decide)) (by decide) (by decide)).mono ?_); rintro e w1 ⟨r8, rfl, h8, hk8, o8, n8, rfl⟩; (obtain ⟨r81, r82, r83, r84, r85, rfl⟩ := h8.shape); (try simp only [drew_ext, drewN_ext, ext_ext] at h8))))
      refine name_any (fun X hX => ?_)
      obtain ⟨k11, hk11⟩ : ∃ k11, k11 = V.heap.size + (o1.size + (o2.size + (o3.size + (o4.size + (o5.size + (o6.size + (o7.size + o8.size))))))) := ⟨_, rfl⟩
      have gX : Grew V X := by rw [← hX]; (show Grew _ _; (try simp only [← Array.append_assoc]); repeat (first | (with_reducible exact Grew.same_o) | (with_reducible exact Grew.refl _) | (with_reducible assumption) | (with_reducible refine Grew.alloc ?_ _) | (with_reducible refine Grew.app_r ?_) | ((with_reducible refine Grew.setCell ?_ ?_ _); rotate_left; (focus (dsimp only; first | omega | (simp only [size_ext, World.size_alloc, Array.size_append]; omega)))) | (with_reducible refine Grew.ext ?_ _ _) | (with_reducible refine Grew.drewN ?_ _) | (with_reducible refine Grew.drew ?_)))
      have hF2 : DV X (.agg #[.bool r81, .slice r82 r83 r84, .int .i64 r85]) ((((val α * val ξ).abs + (val η).abs) * p2 (-52)) + ((1 : Nat) : Rat) * p2 (-1074)) (-170) 170 := (h8.grew (by rw [← hX]; (show Grew _ _; (try simp only [← Array.append_assoc]); repeat (first | (with_reducible exact Grew.same_o) | (with_reducible exact Grew.refl _) | (with_reducible assumption) | (with_reducible refine Grew.alloc ?_ _) | (with_reducible refine Grew.app_r ?_) | ((with_reducible refine Grew.setCell ?_ ?_ _); rotate_left; (focus (dsimp only; first | omega | (simp only [size_ext, World.size_alloc, Array.size_append]; omega)))) | (with_reducible refine Grew.ext ?_ _ _) | (with_reducible refine Grew.drewN ?_ _) | (with_reducible refine Grew.drew ?_))))).mono (by decide) (by decide)
      have hF1 : DV X (.agg #[.bool g11, .slice a11 n11 c11, .int .i64 E11]) ((val δ - val α * val ξ - val η).abs) (-170) 170 := (hd11.grew gX).mono (by decide) (by decide)
      have d11 : ∀ i, X.cell? ⟨k11, i, none⟩ = (#[.bool r81, .slice r82 r83 r84, .int .i64 r85] : Array Value)[i]? := by subst hX; rw [hk11]; intro i; go_simp
      have d10 : ∀ i, X.cell? ⟨p11, i, none⟩ = (#[.bool g11, .slice a11 n11 c11, .int .i64 E11] : Array Value)[i]? := fun i => (gX.cell zr11).trans (ce11 i)
      have zk11 : k11 < X.heap.size := by rw [← hX, hk11]; simp only [World.size_alloc, size_ext, Array.size_append]; omega
      have zp11 : p11 < X.heap.size := Nat.lt_of_lt_of_le zr11 gX.below.size
      have gwX : Grew w X := Grew.trans gwV gX
      obtain ⟨Z, hZ⟩ : ∃ Z, Z = sgE ((val δ - val α * val ξ - val η).abs - ((((val α * val ξ).abs + (val η).abs) * p2 (-52)) + ((1 : Nat) : Rat) * p2 (-1074))) := ⟨_, rfl⟩
      have hcm : ∀ w', Grew X w' → Calls Try.prog 34 #[.agg #[.bool g11, .slice a11 n11 c11, .int .i64 E11], .agg #[.bool r81, .slice r82 r83 r84, .int .i64 r85]] w' (fun e w2 => e = .returned (.int .i64 Z) ∧ ∃ o n, w2 = ext w' o n) := fun w' gg => by
        rw [hZ]; exact dcmp_any _ _ _ _ (-170) 170 w' (hF1.grew gg) (hF2.grew gg) (by decide) (by decide)
      have hZ0 : Z ≤ 0 := by
        have hfd' : fin δ = true := by rw [fin_finB hδl, ← one_at]; exact hfd
        have hcl := close_law (a := α) (x := ξ) FY.out.lt (by rw [← HD.out]; exact hfd')
        rw [← HD.out] at hcl
        rw [hZ]
        unfold sgE
        rw [show ((1 : Nat) : Rat) = 1 from rfl]
        split
        · decide
        · rename_i h0
          rw [if_pos (by grind)]; decide
      have dZ : decide (Z ≤ 0) = true := by simpa using hZ0
      simp only [← hk11]
      clear hX hk11 gX hF1 hF2 hZ hZ0 h1 h2 h3 h4 h5 h6 h7 h8 hk1 hk2 hk3 hk4 hk5 hk6 hk7 hk8 hP' c9' z9' gwV ce11 zr11 hd11 hfd hf
      go_wp2_with (first | (go_at_call 34; ((with_reducible refine (hcm _ (by (show Grew _ _; (try simp only [← Array.append_assoc]); repeat (first | (with_reducible exact Grew.same_o) | (with_reducible exact Grew.refl _) | (with_reducible assumption) | (with_reducible refine Grew.alloc ?_ _) | (with_reducible refine Grew.app_r ?_) | ((with_reducible refine Grew.setCell ?_ ?_ _); rotate_left; (focus (dsimp only; first | omega | (simp only [size_ext, World.size_alloc, Array.size_append]; omega)))) | (with_reducible refine Grew.ext ?_ _ _) | (with_reducible refine Grew.drewN ?_ _) | (with_reducible refine Grew.drew ?_))))).mono ?_); rintro e w1 ⟨rfl, o8, n8, rfl⟩)) | (go_at_call 24; ((with_reducible refine (awake06 _).mono ?_); rintro e w9 ⟨rfl, o9, n9, rfl⟩)))
      go_ret
      exact ⟨rfl, Grew.trans gwX (by (show Grew _ _; (try simp only [← Array.append_assoc]); repeat (first | (with_reducible exact Grew.same_o) | (with_reducible exact Grew.refl _) | (with_reducible assumption) | (with_reducible refine Grew.alloc ?_ _) | (with_reducible refine Grew.app_r ?_) | ((with_reducible refine Grew.setCell ?_ ?_ _); rotate_left; (focus (dsimp only; first | omega | (simp only [size_ext, World.size_alloc, Array.size_append]; omega)))) | (with_reducible refine Grew.ext ?_ _ _) | (with_reducible refine Grew.drewN ?_ _) | (with_reducible refine Grew.drew ?_))))⟩
end Go.Proofs.Ytcmggfpcbijcjaa
end
section
/-
  The dump's head as a list of signs, laid by their numbers: the kernel reckons on such a list, not on the text.
-/
set_option linter.unusedSimpArgs false
set_option linter.unusedVariables false
namespace Go.Proofs.Ytcmggfpcbijcjaa
theorem may_cut {P : Program} {c : List Char} {rest : List (List Char)} (h : behindMainWord (wordsSigns P.initOrder.toList) = c :: rest) (hs : stripLifts liftWords (c :: rest) = ([], c :: rest))
    (hc : (c == "cut".toList) = true) (hl : P.laysLater = false) (hr : P.bearsReflect = false) (hd : P.doorFits [] = true) : P.mayEnter = true := by
  have hc' : c = "cut".toList := by simpa using hc
  unfold Program.mayEnter
  rw [h]
  simp only [hs, hl, hr, hd, List.head?_cons, List.contains_nil, Bool.false_or, Bool.not_false, Bool.and_true, Bool.or_true]
  rw [hc']
  simp
theorem final_cut {P : Program} {c : List Char} {rest : List (List Char)} (h : behindMainWord (wordsSigns P.initOrder.toList) = c :: rest) (hs : stripLifts liftWords (c :: rest) = ([], c :: rest))
    (hc : (c == "carried".toList) = false) : P.liftsFinal = false := by
  unfold Program.liftsFinal Program.headLifts
  simp only [h, hs, List.head?_cons, List.contains_nil, ite_self, Bool.or_false]
  have : (some c == some "carried".toList) = false := by simpa using hc
  rw [this]
  rfl
theorem make_cut {P : Program} {c : List Char} {rest : List (List Char)} (h : behindMainWord (wordsSigns P.initOrder.toList) = c :: rest)
    (h1 : (c == "gc".toList || c == "spec".toList) = false) (h2 : (c == "cut".toList) = true) : P.make = some .cut := by
  unfold Program.make
  rw [h]
  simp only [h1, h2, Bool.true_or, Bool.false_eq_true, if_false, if_true]
def headCodes : List Nat := [
  104, 97, 114, 110, 101, 115, 115, 32, 51, 102, 52, 100, 97, 51, 56, 49, 53, 101, 98, 97, 49, 97, 55, 99, 97, 51, 97, 53, 57, 98, 51, 57, 53, 55, 97, 97, 53, 56, 102, 57,
  54, 102, 100, 51, 48, 56, 99, 48, 99, 51, 57, 99, 54, 57, 56, 51, 57, 48, 54, 97, 99, 49, 97, 102, 48, 98, 102, 98, 49, 100, 49, 54, 32, 99, 117, 116, 32, 97, 116, 32,
  115, 116, 114, 97, 105, 103, 104, 116, 101, 100, 103, 101, 47, 115, 116, 114, 97, 105, 103, 104, 116, 101, 100, 103, 101, 108, 97, 119, 48, 54, 46, 65, 120, 101, 115, 67, 108, 111, 115, 101,
  32, 115, 116, 114, 97, 105, 103, 104, 116, 101, 100, 103, 101, 47, 115, 116, 114, 97, 105, 103, 104, 116, 101, 100, 103, 101, 108, 97, 119, 48, 53, 46, 83, 117, 109, 115, 76, 105, 115, 116,
  115, 32, 115, 116, 114, 97, 105, 103, 104, 116, 101, 100, 103, 101, 47, 115, 116, 114, 97, 105, 103, 104, 116, 101, 100, 103, 101, 108, 97, 119, 48, 52, 46, 77, 111, 118, 101, 82, 111, 119,
  115, 32, 115, 116, 114, 97, 105, 103, 104, 116, 101, 100, 103, 101, 47, 115, 116, 114, 97, 105, 103, 104, 116, 101, 100, 103, 101, 108, 97, 119, 48, 56, 46, 71, 101, 114, 84, 101, 108, 108,
  115, 32, 115, 116, 114, 97, 105, 103, 104, 116, 101, 100, 103, 101, 47, 115, 116, 114, 97, 105, 103, 104, 116, 101, 100, 103, 101, 108, 97, 119, 48, 52, 46, 77, 111, 118, 101, 86, 101, 99,
  116, 111, 114, 115, 32, 115, 116, 114, 97, 105, 103, 104, 116, 101, 100, 103, 101, 47, 115, 116, 114, 97, 105, 103, 104, 116, 101, 100, 103, 101, 108, 97, 119, 48, 55, 46, 71, 101, 109, 118,
  67, 108, 111, 115, 101, 32, 115, 116, 114, 97, 105, 103, 104, 116, 101, 100, 103, 101, 47, 115, 116, 114, 97, 105, 103, 104, 116, 101, 100, 103, 101, 108, 97, 119, 49, 49, 46, 71, 101, 109,
  109, 84, 101, 108, 108, 115, 32, 115, 116, 114, 97, 105, 103, 104, 116, 101, 100, 103, 101, 47, 115, 116, 114, 97, 105, 103, 104, 116, 101, 100, 103, 101, 108, 97, 119, 48, 57, 46, 84, 114,
  115, 118, 83, 111, 108, 118, 101, 115, 32, 115, 116, 114, 97, 105, 103, 104, 116, 101, 100, 103, 101, 47, 115, 116, 114, 97, 105, 103, 104, 116, 101, 100, 103, 101, 108, 97, 119, 48, 57, 46,
  84, 114, 115, 118, 66, 97, 99, 107, 119, 97, 114, 100, 32, 115, 116, 114, 97, 105, 103, 104, 116, 101, 100, 103, 101, 47, 115, 116, 114, 97, 105, 103, 104, 116, 101, 100, 103, 101, 108, 97,
  119, 48, 55, 46, 71, 101, 109, 118, 84, 117, 114, 110, 115, 32, 115, 116, 114, 97, 105, 103, 104, 116, 101, 100, 103, 101, 47, 115, 116, 114, 97, 105, 103, 104, 116, 101, 100, 103, 101, 108,
  97, 119, 48, 54, 46, 65, 120, 101, 115, 66, 97, 99, 107, 32, 115, 116, 114, 97, 105, 103, 104, 116, 101, 100, 103, 101, 47, 115, 116, 114, 97, 105, 103, 104, 116, 101, 100, 103, 101, 108,
  97, 119, 49, 49, 46, 71, 101, 109, 109, 87, 104, 111, 108, 101, 32, 115, 116, 114, 97, 105, 103, 104, 116, 101, 100, 103, 101, 47, 115, 116, 114, 97, 105, 103, 104, 116, 101, 100, 103, 101,
  108, 97, 119, 50, 50, 46, 82, 101, 115, 105, 100, 66, 111, 117, 110, 100, 115, 32, 115, 116, 114, 97, 105, 103, 104, 116, 101, 100, 103, 101, 47, 115, 116, 114, 97, 105, 103, 104, 116, 101,
  100, 103, 101, 108, 97, 119, 50, 50, 46, 82, 101, 115, 105, 100, 82, 101, 115, 116, 32, 115, 116, 114, 97, 105, 103, 104, 116, 101, 100, 103, 101, 47, 115, 116, 114, 97, 105, 103, 104, 116,
  101, 100, 103, 101, 108, 97, 119, 48, 54, 46, 65, 120, 101, 115, 83, 99, 97, 108, 101, 32, 115, 116, 114, 97, 105, 103, 104, 116, 101, 100, 103, 101, 47, 115, 116, 114, 97, 105, 103, 104,
  116, 101, 100, 103, 101, 108, 97, 119, 49, 53, 46, 69, 113, 117, 105, 108, 70, 97, 99, 116, 111, 114, 115, 32, 115, 116, 114, 97, 105, 103, 104, 116, 101, 100, 103, 101, 47, 115, 116, 114,
  97, 105, 103, 104, 116, 101, 100, 103, 101, 108, 97, 119, 50, 50, 46, 82, 101, 115, 105, 100, 84, 101, 108, 108, 115, 32, 115, 116, 114, 97, 105, 103, 104, 116, 101, 100, 103, 101, 47, 115,
  116, 114, 97, 105, 103, 104, 116, 101, 100, 103, 101, 108, 97, 119, 50, 50, 46, 82, 101, 115, 105, 100, 66, 97, 99, 107, 119, 97, 114, 100, 32, 115, 116, 114, 97, 105, 103, 104, 116, 101,
  100, 103, 101, 47, 115, 116, 114, 97, 105, 103, 104, 116, 101, 100, 103, 101, 108, 97, 119, 49, 53, 46, 69, 113, 117, 105, 108, 76, 105, 107, 101, 32, 115, 116, 114, 97, 105, 103, 104, 116,
  101, 100, 103, 101, 47, 115, 116, 114, 97, 105, 103, 104, 116, 101, 100, 103, 101, 108, 97, 119, 49, 53, 46, 69, 113, 117, 105, 108, 83, 99, 97, 108, 101, 115, 32, 115, 116, 114, 97, 105,
  103, 104, 116, 101, 100, 103, 101, 47, 115, 116, 114, 97, 105, 103, 104, 116, 101, 100, 103, 101, 108, 97, 119, 50, 48, 46, 76, 97, 99, 110, 66, 101, 108, 111, 119]
def headWords : List (List Nat) := [
  [104, 97, 114, 110, 101, 115, 115],
  [51, 102, 52, 100, 97, 51, 56, 49, 53, 101, 98, 97, 49, 97, 55, 99, 97, 51, 97, 53, 57, 98, 51, 57, 53, 55, 97, 97, 53, 56, 102, 57, 54, 102, 100, 51, 48, 56, 99, 48, 99, 51, 57, 99, 54, 57, 56, 51, 57, 48, 54, 97, 99, 49, 97, 102, 48, 98, 102, 98, 49, 100, 49, 54],
  [99, 117, 116],
  [97, 116],
  [115, 116, 114, 97, 105, 103, 104, 116, 101, 100, 103, 101, 47, 115, 116, 114, 97, 105, 103, 104, 116, 101, 100, 103, 101, 108, 97, 119, 48, 54, 46, 65, 120, 101, 115, 67, 108, 111, 115, 101],
  [115, 116, 114, 97, 105, 103, 104, 116, 101, 100, 103, 101, 47, 115, 116, 114, 97, 105, 103, 104, 116, 101, 100, 103, 101, 108, 97, 119, 48, 53, 46, 83, 117, 109, 115, 76, 105, 115, 116, 115],
  [115, 116, 114, 97, 105, 103, 104, 116, 101, 100, 103, 101, 47, 115, 116, 114, 97, 105, 103, 104, 116, 101, 100, 103, 101, 108, 97, 119, 48, 52, 46, 77, 111, 118, 101, 82, 111, 119, 115],
  [115, 116, 114, 97, 105, 103, 104, 116, 101, 100, 103, 101, 47, 115, 116, 114, 97, 105, 103, 104, 116, 101, 100, 103, 101, 108, 97, 119, 48, 56, 46, 71, 101, 114, 84, 101, 108, 108, 115],
  [115, 116, 114, 97, 105, 103, 104, 116, 101, 100, 103, 101, 47, 115, 116, 114, 97, 105, 103, 104, 116, 101, 100, 103, 101, 108, 97, 119, 48, 52, 46, 77, 111, 118, 101, 86, 101, 99, 116, 111, 114, 115],
  [115, 116, 114, 97, 105, 103, 104, 116, 101, 100, 103, 101, 47, 115, 116, 114, 97, 105, 103, 104, 116, 101, 100, 103, 101, 108, 97, 119, 48, 55, 46, 71, 101, 109, 118, 67, 108, 111, 115, 101],
  [115, 116, 114, 97, 105, 103, 104, 116, 101, 100, 103, 101, 47, 115, 116, 114, 97, 105, 103, 104, 116, 101, 100, 103, 101, 108, 97, 119, 49, 49, 46, 71, 101, 109, 109, 84, 101, 108, 108, 115],
  [115, 116, 114, 97, 105, 103, 104, 116, 101, 100, 103, 101, 47, 115, 116, 114, 97, 105, 103, 104, 116, 101, 100, 103, 101, 108, 97, 119, 48, 57, 46, 84, 114, 115, 118, 83, 111, 108, 118, 101, 115],
  [115, 116, 114, 97, 105, 103, 104, 116, 101, 100, 103, 101, 47, 115, 116, 114, 97, 105, 103, 104, 116, 101, 100, 103, 101, 108, 97, 119, 48, 57, 46, 84, 114, 115, 118, 66, 97, 99, 107, 119, 97, 114, 100],
  [115, 116, 114, 97, 105, 103, 104, 116, 101, 100, 103, 101, 47, 115, 116, 114, 97, 105, 103, 104, 116, 101, 100, 103, 101, 108, 97, 119, 48, 55, 46, 71, 101, 109, 118, 84, 117, 114, 110, 115],
  [115, 116, 114, 97, 105, 103, 104, 116, 101, 100, 103, 101, 47, 115, 116, 114, 97, 105, 103, 104, 116, 101, 100, 103, 101, 108, 97, 119, 48, 54, 46, 65, 120, 101, 115, 66, 97, 99, 107],
  [115, 116, 114, 97, 105, 103, 104, 116, 101, 100, 103, 101, 47, 115, 116, 114, 97, 105, 103, 104, 116, 101, 100, 103, 101, 108, 97, 119, 49, 49, 46, 71, 101, 109, 109, 87, 104, 111, 108, 101],
  [115, 116, 114, 97, 105, 103, 104, 116, 101, 100, 103, 101, 47, 115, 116, 114, 97, 105, 103, 104, 116, 101, 100, 103, 101, 108, 97, 119, 50, 50, 46, 82, 101, 115, 105, 100, 66, 111, 117, 110, 100, 115],
  [115, 116, 114, 97, 105, 103, 104, 116, 101, 100, 103, 101, 47, 115, 116, 114, 97, 105, 103, 104, 116, 101, 100, 103, 101, 108, 97, 119, 50, 50, 46, 82, 101, 115, 105, 100, 82, 101, 115, 116],
  [115, 116, 114, 97, 105, 103, 104, 116, 101, 100, 103, 101, 47, 115, 116, 114, 97, 105, 103, 104, 116, 101, 100, 103, 101, 108, 97, 119, 48, 54, 46, 65, 120, 101, 115, 83, 99, 97, 108, 101],
  [115, 116, 114, 97, 105, 103, 104, 116, 101, 100, 103, 101, 47, 115, 116, 114, 97, 105, 103, 104, 116, 101, 100, 103, 101, 108, 97, 119, 49, 53, 46, 69, 113, 117, 105, 108, 70, 97, 99, 116, 111, 114, 115],
  [115, 116, 114, 97, 105, 103, 104, 116, 101, 100, 103, 101, 47, 115, 116, 114, 97, 105, 103, 104, 116, 101, 100, 103, 101, 108, 97, 119, 50, 50, 46, 82, 101, 115, 105, 100, 84, 101, 108, 108, 115],
  [115, 116, 114, 97, 105, 103, 104, 116, 101, 100, 103, 101, 47, 115, 116, 114, 97, 105, 103, 104, 116, 101, 100, 103, 101, 108, 97, 119, 50, 50, 46, 82, 101, 115, 105, 100, 66, 97, 99, 107, 119, 97, 114, 100],
  [115, 116, 114, 97, 105, 103, 104, 116, 101, 100, 103, 101, 47, 115, 116, 114, 97, 105, 103, 104, 116, 101, 100, 103, 101, 108, 97, 119, 49, 53, 46, 69, 113, 117, 105, 108, 76, 105, 107, 101],
  [115, 116, 114, 97, 105, 103, 104, 116, 101, 100, 103, 101, 47, 115, 116, 114, 97, 105, 103, 104, 116, 101, 100, 103, 101, 108, 97, 119, 49, 53, 46, 69, 113, 117, 105, 108, 83, 99, 97, 108, 101, 115],
  [115, 116, 114, 97, 105, 103, 104, 116, 101, 100, 103, 101, 47, 115, 116, 114, 97, 105, 103, 104, 116, 101, 100, 103, 101, 108, 97, 119, 50, 48, 46, 76, 97, 99, 110, 66, 101, 108, 111, 119]]
def W : List (List Char) := headWords.map (·.map Char.ofNat)
theorem head_eq : Try.prog.initOrder = String.ofList (headCodes.map Char.ofNat) := by kernel_rfl
theorem head_list : Try.prog.initOrder.toList = headCodes.map Char.ofNat := by rw [head_eq, String.toList_ofList]
theorem head_words : wordsSigns (headCodes.map Char.ofNat) = W := by kernel_rfl
def cutWord : List Char := W.getD 2 []
def restWords : List (List Char) := W.drop 3
theorem head_split : behindMainWord W = cutWord :: restWords := by kernel_rfl
theorem head_behind : behindMainWord (wordsSigns Try.prog.initOrder.toList) = cutWord :: restWords := by rw [head_list, head_words]; exact head_split
theorem head_strip : stripLifts liftWords (cutWord :: restWords) = ([], cutWord :: restWords) := by kernel_rfl
theorem head_final : Try.prog.liftsFinal = false := final_cut head_behind head_strip (by kernel_rfl)
theorem head_make : Try.prog.make = some .cut := make_cut head_behind (by kernel_rfl) (by kernel_rfl)
theorem head_may : Try.prog.mayEnter = true := may_cut head_behind head_strip (by kernel_rfl) (by kernel_rfl) (by kernel_rfl) (by kernel_rfl)
end Go.Proofs.Ytcmggfpcbijcjaa
end
