/- The law GemmWhole (chapter 11) of the given program holds for every list of small whole numbers and every four bytes: the call returns true. Conditions: none. -/
import Derived.Test.YtcmggfpcbijcjaaRows
import Derived.ProofKit
import Derived.OpenShut
import Derived.ShutString
import Derived.ChangeOld
import Derived.Laws.Cover2
import Derived.Test.YtcmggfpcbijcjaaQGemmWhole1
import Derived.Test.YtcmggfpcbijcjaaQGemmWhole2
import Derived.Test.YtcmggfpcbijcjaaQGemmWhole3
import Derived.Test.YtcmggfpcbijcjaaQGemmWhole4
import Derived.Test.YtcmggfpcbijcjaaQGemmWhole5
import Derived.Test.YtcmggfpcbijcjaaQGemmWhole6
import Derived.Test.YtcmggfpcbijcjaaQGemmWhole7
import Derived.Test.YtcmggfpcbijcjaaQGemmWhole8
import Derived.Test.YtcmggfpcbijcjaaQGemmWhole9
import Derived.Test.YtcmggfpcbijcjaaQGemmWhole10
import Derived.Test.YtcmggfpcbijcjaaQGemmWhole11
import Derived.Test.YtcmggfpcbijcjaaQGemmWhole12
set_option linter.unusedSimpArgs false
set_option linter.unusedVariables false
namespace Go.Proofs.Ytcmggfpcbijcjaa
open Go.ChangeShapes Go.WideShapes Go.ChangeAt Go.RowKit Sedge
set_option linter.unusedVariables false
theorem own_gemmWhole : ownKnob Try.prog.godebug = none := by kernel_rfl
theorem laidOut_gemmWhole : laidOutB Try.prog = true := by kernel_rfl
set_option maxRecDepth 100000 in
theorem lifted_gemmWhole (os : Os) (started : os.Started) (H : Type) (enc : TypeId × Value → H) :
    ReturnsInHanded {} Try.checked os 14 .any (Rows.gemmWholeSpec.pre6 enc Try.prog Try.f14 Rows.gemmWholeRow.domain false) (Rows.gemmWholeSpec.post enc Try.prog Try.f14 false true false false) := by
  refine returnsInHanded_of_change (C := Try.checked) own_gemmWhole started (by kernel_rfl) Try.func14
    (ChangeSpec.witness6 (enc := enc) (C := Try.checked) false ⟨#[], #[.slice none 0 0, .agg #[.int .u8 0, .int .u8 0, .int .u8 0, .int .u8 0]], []⟩ 8 (by kernel_rfl) (by kernel_rfl) (by kernel_rfl) (by kernel_rfl)) ?_
  intro W base args ds gs before hval0 hW hcnd _
  have hval : ∀ (j : Nat) t v, Try.f14.params[j]? = some t → args[j]? = some v → Value.okWide Try.prog W .any base t v := hval0
  have hW' := hW
  obtain ⟨p, q, hA0, hV, rfl, hfz, hnd⟩ := hW
  have hA : DataW.TrodAll enc Try.prog W 0 (fun _ => true) true Try.f14.params.toList args.toList ds p := hA0
  rw [Try.params14] at hA hval
  obtain ⟨v0, vs0, d0, ds0, p0, q0, hargs, rfl, rfl, h0, r0⟩ := trodAll_cons hA
  obtain ⟨v1, vs1, d1, ds1, p1, q1, rfl, rfl, rfl, h1, r1⟩ := trodAll_cons r0
  obtain ⟨rfl, rfl, rfl⟩ := trodAll_nil r1
  obtain rfl : args = #[v0, v1] := by cases args; simp_all
  obtain ⟨rfl, rfl⟩ := trodVars_none hV
  have k0 := h0
  have lt0 : ∀ x ∈ p0, x.block < W.heap.size := by obtain ⟨m, hm⟩ := k0; exact DataW.trod_lt m _ _ _ hm
  obtain ⟨a0, len0, cap0, rfl⟩ := okWide_slice Try.underlying89 (hval 0 89 v0 rfl rfl)
  obtain ⟨z0, f0, bd0⟩ : ∃ zs, IS .i8 W (.slice a0 len0 cap0) zs ∧ ∀ z ∈ zs, IntKind.min .i8 ≤ z ∧ z ≤ IntKind.max .i8 := by obtain ⟨fuel, hf⟩ := h0; exact openI Try.underlying89 Try.underlying90 (by kernel_rfl) (by simpa [Value.cells] using hf)
  have k1 := h1
  have lt1 : ∀ x ∈ p1, x.block < W.heap.size := by obtain ⟨m, hm⟩ := k1; exact DataW.trod_lt m _ _ _ hm
  obtain ⟨a1, b1, c1, e1, rfl, f1, g1, m1, n1⟩ := openA4 Try.underlying96 Try.underlying5 (by kernel_rfl) (by kernel_rfl) (hval 1 96 v1 rfl rfl) h1
  clear hA0 hval0
  refine (gemmWhole_any _ z0 a1 b1 c1 e1 W f0 bd0 f1 g1 m1 n1).mono fun e W' ⟨he, o', n', hw⟩ => ?_
  have bel : Below W.heap.size W W' := by rw [hw]; exact below_ext
  subst he
  exact ⟨_, rfl, _, _, _, [], _, [], hW', trodAll_mk1 (shut_bool Try.underlying4 _), (trodAll_cons_mk (Below.trod laidOut_gemmWhole (by kernel_rfl) (of_decide_eq_true (by kernel_rfl)) k0 bel lt0) (trodAll_cons_mk (Below.trod laidOut_gemmWhole (by kernel_rfl) (of_decide_eq_true (by kernel_rfl)) k1 bel lt1) trodAll_mk0)), rfl, bel.frame _, fun h => by cases h⟩

set_option maxRecDepth 100000 in
set_option maxHeartbeats 4000000 in
theorem closed_gemmWhole : joinedFacts Try.prog 14 Try.f14 Rows.gemmWholeSpec Rows.gemmWholeRow = true := by
  have hl : (Rows.gemmWholeRow.lifted == Try.prog.liftsFinal) = true := by rw [head_final]; rfl
  have hm : (Try.prog.make == some Rows.gemmWholeRow.make) = true := by rw [head_make]; rfl
  simp only [joinedFacts, Bool.and_eq_true]
  and_intros
  all_goals first | (with_reducible exact head_may) | (with_reducible exact hl) | (with_reducible exact hm) | (as_aux_lemma => kernel_rfl)
theorem over_gemmWhole : Rows.gemmWholeRow.holds Try.pinned (OpenSpec.ofChange Rows.gemmWholeSpec) :=
  OpenClaim.holds_of_wide 14 Try.f14 rfl rfl rfl rfl rfl rfl rfl ⟨rfl, rfl, rfl, rfl, rfl⟩ rfl rfl rfl rfl rfl (by kernel_rfl) Try.func14 closed_gemmWhole
    (of_decide_eq_true (by kernel_rfl)) (by unfold Func.isWrapper; rw [if_neg (of_decide_eq_false (by kernel_rfl))]; exact ⟨rfl, rfl⟩)
    (fun os started H enc _ => lifted_gemmWhole os started H enc)
/-- THE STATEMENT. -/
theorem gemmWhole_holds : Rows.GemmWholeSaid := over_gemmWhole
#print axioms gemmWhole_holds
end Go.Proofs.Ytcmggfpcbijcjaa
