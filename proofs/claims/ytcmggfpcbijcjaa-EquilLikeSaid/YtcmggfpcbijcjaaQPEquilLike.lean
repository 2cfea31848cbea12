/- The law EquilLike (chapter 15) of the given program holds for every matrix: the call returns true. Conditions: none. -/
import Derived.Test.YtcmggfpcbijcjaaRows
import Derived.ProofKit
import Derived.OpenShut
import Derived.ShutString
import Derived.ChangeOld
import Derived.Laws.Cover2
import Derived.Test.YtcmggfpcbijcjaaQEquilLike1
import Derived.Test.YtcmggfpcbijcjaaQEquilLike2
import Derived.Test.YtcmggfpcbijcjaaQEquilLike3
import Derived.Test.YtcmggfpcbijcjaaQEquilLike4
import Derived.Test.YtcmggfpcbijcjaaQEquilLike5
import Derived.Test.YtcmggfpcbijcjaaQEquilLike6
import Derived.Test.YtcmggfpcbijcjaaQEquilLike7
import Derived.Test.YtcmggfpcbijcjaaQEquilLike8
import Derived.Test.YtcmggfpcbijcjaaQEquilLike9
set_option linter.unusedSimpArgs false
set_option linter.unusedVariables false
namespace Go.Proofs.Ytcmggfpcbijcjaa
open Go.ChangeShapes Go.WideShapes Go.ChangeAt Go.RowKit Sedge
set_option linter.unusedVariables false
theorem own_equilLike : ownKnob Try.prog.godebug = none := by kernel_rfl
theorem laidOut_equilLike : laidOutB Try.prog = true := by kernel_rfl
set_option maxRecDepth 100000 in
theorem lifted_equilLike (os : Os) (started : os.Started) (H : Type) (enc : TypeId × Value → H) :
    ReturnsInHanded {} Try.checked os 21 .any (Rows.equilLikeSpec.pre6 enc Try.prog Try.f21 Rows.equilLikeRow.domain false) (Rows.equilLikeSpec.post enc Try.prog Try.f21 false true false false) := by
  refine returnsInHanded_of_change (C := Try.checked) own_equilLike started (by kernel_rfl) Try.func21
    (ChangeSpec.witness6 (enc := enc) (C := Try.checked) false ⟨#[], #[.agg #[.slice none 0 0, .int .i64 0, .int .i64 0, .int .i64 0, .int .i64 0]], []⟩ 8 (by kernel_rfl) (by kernel_rfl) (by kernel_rfl) (by kernel_rfl)) ?_
  intro W base args ds gs before hval0 hW hcnd _
  have hval : ∀ (j : Nat) t v, Try.f21.params[j]? = some t → args[j]? = some v → Value.okWide Try.prog W .any base t v := hval0
  have hW' := hW
  obtain ⟨p, q, hA0, hV, rfl, hfz, hnd⟩ := hW
  have hA : DataW.TrodAll enc Try.prog W 0 (fun _ => true) true Try.f21.params.toList args.toList ds p := hA0
  rw [Try.params21] at hA hval
  obtain ⟨v0, vs0, d0, ds0, p0, q0, hargs, rfl, rfl, h0, r0⟩ := trodAll_cons hA
  obtain ⟨rfl, rfl, rfl⟩ := trodAll_nil r0
  obtain rfl : args = #[v0] := by cases args; simp_all
  obtain ⟨rfl, rfl⟩ := trodVars_none hV
  have k0 := h0
  have lt0 : ∀ x ∈ p0, x.block < W.heap.size := by obtain ⟨m, hm⟩ := k0; exact DataW.trod_lt m _ _ _ hm
  obtain ⟨m0, D0, rfl, f0, wf0⟩ := openMat Try.underlying44 (by kernel_rfl) (by kernel_rfl) (by kernel_rfl) Try.underlying24 Try.underlying22 (by kernel_rfl) Try.underlying3 (hval 0 44 v0 rfl rfl) h0
  clear hA0 hval0
  refine (equilLike_any m0 D0 W f0 wf0).mono fun e W' ⟨he, o', n', hw⟩ => ?_
  have bel : Below W.heap.size W W' := by rw [hw]; exact below_ext
  subst he
  exact ⟨_, rfl, _, _, _, [], _, [], hW', trodAll_mk1 (shut_bool Try.underlying4 _), (trodAll_cons_mk (Below.trod laidOut_equilLike (by kernel_rfl) (of_decide_eq_true (by kernel_rfl)) k0 bel lt0) trodAll_mk0), rfl, bel.frame _, fun h => by cases h⟩

set_option maxRecDepth 100000 in
set_option maxHeartbeats 4000000 in
theorem closed_equilLike : joinedFacts Try.prog 21 Try.f21 Rows.equilLikeSpec Rows.equilLikeRow = true := by
  have hl : (Rows.equilLikeRow.lifted == Try.prog.liftsFinal) = true := by rw [head_final]; rfl
  have hm : (Try.prog.make == some Rows.equilLikeRow.make) = true := by rw [head_make]; rfl
  simp only [joinedFacts, Bool.and_eq_true]
  and_intros
  all_goals first | (with_reducible exact head_may) | (with_reducible exact hl) | (with_reducible exact hm) | (as_aux_lemma => kernel_rfl)
theorem over_equilLike : Rows.equilLikeRow.holds Try.pinned (OpenSpec.ofChange Rows.equilLikeSpec) :=
  OpenClaim.holds_of_wide 21 Try.f21 rfl rfl rfl rfl rfl rfl rfl ⟨rfl, rfl, rfl, rfl, rfl⟩ rfl rfl rfl rfl rfl (by kernel_rfl) Try.func21 closed_equilLike
    (of_decide_eq_true (by kernel_rfl)) (by unfold Func.isWrapper; rw [if_neg (of_decide_eq_false (by kernel_rfl))]; exact ⟨rfl, rfl⟩)
    (fun os started H enc _ => lifted_equilLike os started H enc)
/-- THE STATEMENT. -/
theorem equilLike_holds : Rows.EquilLikeSaid := over_equilLike
#print axioms equilLike_holds
end Go.Proofs.Ytcmggfpcbijcjaa
