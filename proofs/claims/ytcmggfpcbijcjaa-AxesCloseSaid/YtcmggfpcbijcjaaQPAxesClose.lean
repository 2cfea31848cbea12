/- The law AxesClose (chapter 6) of the given program holds for every three floats: the call returns true. Conditions: none. -/
import Derived.Test.YtcmggfpcbijcjaaRows
import Derived.ProofKit
import Derived.OpenShut
import Derived.ShutString
import Derived.ChangeOld
import Derived.Laws.Cover2
import Derived.Test.YtcmggfpcbijcjaaQAxesClose1
import Derived.Test.YtcmggfpcbijcjaaQAxesClose2
import Derived.Test.YtcmggfpcbijcjaaQAxesClose3
import Derived.Test.YtcmggfpcbijcjaaQAxesClose4
import Derived.Test.YtcmggfpcbijcjaaQAxesClose5
import Derived.Test.YtcmggfpcbijcjaaQAxesClose6
import Derived.Test.YtcmggfpcbijcjaaQAxesClose7
import Derived.Test.YtcmggfpcbijcjaaQAxesClose8
import Derived.Test.YtcmggfpcbijcjaaQAxesClose9
import Derived.Test.YtcmggfpcbijcjaaQAxesClose10
import Derived.Test.YtcmggfpcbijcjaaQAxesClose11
import Derived.Test.YtcmggfpcbijcjaaQAxesClose12
import Derived.Test.YtcmggfpcbijcjaaQAxesClose13
import Derived.Test.YtcmggfpcbijcjaaQAxesClose14
set_option linter.unusedSimpArgs false
set_option linter.unusedVariables false
namespace Go.Proofs.Ytcmggfpcbijcjaa
open Go.ChangeShapes Go.WideShapes Go.ChangeAt Go.RowKit Sedge
set_option linter.unusedVariables false
theorem own_axesClose : ownKnob Try.prog.godebug = none := by kernel_rfl
theorem laidOut_axesClose : laidOutB Try.prog = true := by kernel_rfl
set_option maxRecDepth 100000 in
theorem lifted_axesClose (os : Os) (started : os.Started) (H : Type) (enc : TypeId × Value → H) :
    ReturnsInHanded {} Try.checked os 3 .any (Rows.axesCloseSpec.pre6 enc Try.prog Try.f3 Rows.axesCloseRow.domain false) (Rows.axesCloseSpec.post enc Try.prog Try.f3 false true false false) := by
  refine returnsInHanded_of_change (C := Try.checked) own_axesClose started (by kernel_rfl) Try.func3
    (ChangeSpec.witness6 (enc := enc) (C := Try.checked) false ⟨#[], #[.float .f64 0, .float .f64 0, .float .f64 0], []⟩ 8 (by kernel_rfl) (by kernel_rfl) (by kernel_rfl) (by kernel_rfl)) ?_
  intro W base args ds gs before hval0 hW hcnd _
  have hval : ∀ (j : Nat) t v, Try.f3.params[j]? = some t → args[j]? = some v → Value.okWide Try.prog W .any base t v := hval0
  have hW' := hW
  obtain ⟨p, q, hA0, hV, rfl, hfz, hnd⟩ := hW
  have hA : DataW.TrodAll enc Try.prog W 0 (fun _ => true) true Try.f3.params.toList args.toList ds p := hA0
  rw [Try.params3] at hA hval
  obtain ⟨v0, vs0, d0, ds0, p0, q0, hargs, rfl, rfl, h0, r0⟩ := trodAll_cons hA
  obtain ⟨v1, vs1, d1, ds1, p1, q1, rfl, rfl, rfl, h1, r1⟩ := trodAll_cons r0
  obtain ⟨v2, vs2, d2, ds2, p2, q2, rfl, rfl, rfl, h2, r2⟩ := trodAll_cons r1
  obtain ⟨rfl, rfl, rfl⟩ := trodAll_nil r2
  obtain rfl : args = #[v0, v1, v2] := by cases args; simp_all
  obtain ⟨rfl, rfl⟩ := trodVars_none hV
  have k0 := h0
  have lt0 : ∀ x ∈ p0, x.block < W.heap.size := by obtain ⟨m, hm⟩ := k0; exact DataW.trod_lt m _ _ _ hm
  obtain ⟨b0, rfl, _, _, wf0⟩ := open_float Try.underlying22 (hval 0 22 v0 rfl rfl) h0
  have f0 : IsF b0 (canon b0) := isF_self (by simpa [Lit.wf] using wf0)
  have k1 := h1
  have lt1 : ∀ x ∈ p1, x.block < W.heap.size := by obtain ⟨m, hm⟩ := k1; exact DataW.trod_lt m _ _ _ hm
  obtain ⟨b1, rfl, _, _, wf1⟩ := open_float Try.underlying22 (hval 1 22 v1 rfl rfl) h1
  have f1 : IsF b1 (canon b1) := isF_self (by simpa [Lit.wf] using wf1)
  have k2 := h2
  have lt2 : ∀ x ∈ p2, x.block < W.heap.size := by obtain ⟨m, hm⟩ := k2; exact DataW.trod_lt m _ _ _ hm
  obtain ⟨b2, rfl, _, _, wf2⟩ := open_float Try.underlying22 (hval 2 22 v2 rfl rfl) h2
  have f2 : IsF b2 (canon b2) := isF_self (by simpa [Lit.wf] using wf2)
  clear hA0 hval0
  refine (axesClose_any b0 (canon b0) b1 (canon b1) b2 (canon b2) W f0 f1 f2).mono fun e W' ⟨he, o', n', hw⟩ => ?_
  have bel : Below W.heap.size W W' := by rw [hw]; exact below_ext
  subst he
  exact ⟨_, rfl, _, _, _, [], _, [], hW', trodAll_mk1 (shut_bool Try.underlying4 _), (trodAll_cons_mk (Below.trod laidOut_axesClose (by kernel_rfl) (of_decide_eq_true (by kernel_rfl)) k0 bel lt0) (trodAll_cons_mk (Below.trod laidOut_axesClose (by kernel_rfl) (of_decide_eq_true (by kernel_rfl)) k1 bel lt1) (trodAll_cons_mk (Below.trod laidOut_axesClose (by kernel_rfl) (of_decide_eq_true (by kernel_rfl)) k2 bel lt2) trodAll_mk0))), rfl, bel.frame _, fun h => by cases h⟩

set_option maxRecDepth 100000 in
set_option maxHeartbeats 4000000 in
theorem closed_axesClose : joinedFacts Try.prog 3 Try.f3 Rows.axesCloseSpec Rows.axesCloseRow = true := by
  have hl : (Rows.axesCloseRow.lifted == Try.prog.liftsFinal) = true := by rw [head_final]; rfl
  have hm : (Try.prog.make == some Rows.axesCloseRow.make) = true := by rw [head_make]; rfl
  simp only [joinedFacts, Bool.and_eq_true]
  and_intros
  all_goals first | (with_reducible exact head_may) | (with_reducible exact hl) | (with_reducible exact hm) | (as_aux_lemma => kernel_rfl)
theorem over_axesClose : Rows.axesCloseRow.holds Try.pinned (OpenSpec.ofChange Rows.axesCloseSpec) :=
  OpenClaim.holds_of_wide 3 Try.f3 rfl rfl rfl rfl rfl rfl rfl ⟨rfl, rfl, rfl, rfl, rfl⟩ rfl rfl rfl rfl rfl (by kernel_rfl) Try.func3 closed_axesClose
    (of_decide_eq_true (by kernel_rfl)) (by unfold Func.isWrapper; rw [if_neg (of_decide_eq_false (by kernel_rfl))]; exact ⟨rfl, rfl⟩)
    (fun os started H enc _ => lifted_axesClose os started H enc)
/-- THE STATEMENT. -/
theorem axesClose_holds : Rows.AxesCloseSaid := over_axesClose
#print axioms axesClose_holds
end Go.Proofs.Ytcmggfpcbijcjaa
