/- The law EquilScales (chapter 15) of the given program holds for every matrix and all lists: the call returns true. Conditions: none. -/
import Derived.Test.YtcmggfpcbijcjaaRows
import Derived.ProofKit
import Derived.OpenShut
import Derived.ShutString
import Derived.ChangeOld
import Derived.Laws.Cover2
import Derived.Test.YtcmggfpcbijcjaaQEquilScales1
import Derived.Test.YtcmggfpcbijcjaaQEquilScales2
import Derived.Test.YtcmggfpcbijcjaaQEquilScales3
import Derived.Test.YtcmggfpcbijcjaaQEquilScales4
import Derived.Test.YtcmggfpcbijcjaaQEquilScales5
import Derived.Test.YtcmggfpcbijcjaaQEquilScales6
import Derived.Test.YtcmggfpcbijcjaaQEquilScales7
import Derived.Test.YtcmggfpcbijcjaaQEquilScales8
import Derived.Test.YtcmggfpcbijcjaaQEquilScales9
import Derived.Test.YtcmggfpcbijcjaaQEquilScales10
import Derived.Test.YtcmggfpcbijcjaaQEquilScales11
import Derived.Test.YtcmggfpcbijcjaaQEquilScales12
set_option linter.unusedSimpArgs false
set_option linter.unusedVariables false
namespace Go.Proofs.Ytcmggfpcbijcjaa
open Go.ChangeShapes Go.WideShapes Go.ChangeAt Go.RowKit Sedge
set_option linter.unusedVariables false
theorem own_equilScales : ownKnob Try.prog.godebug = none := by kernel_rfl
theorem laidOut_equilScales : laidOutB Try.prog = true := by kernel_rfl
set_option maxRecDepth 100000 in
theorem lifted_equilScales (os : Os) (started : os.Started) (H : Type) (enc : TypeId × Value → H) :
    ReturnsInHanded {} Try.checked os 22 .any (Rows.equilScalesSpec.pre6 enc Try.prog Try.f22 Rows.equilScalesRow.domain false) (Rows.equilScalesSpec.post enc Try.prog Try.f22 false true false false) := by
  refine returnsInHanded_of_change (C := Try.checked) own_equilScales started (by kernel_rfl) Try.func22
    (ChangeSpec.witness6 (enc := enc) (C := Try.checked) false ⟨#[], #[.agg #[.slice none 0 0, .int .i64 0, .int .i64 0, .int .i64 0, .int .i64 0], .slice none 0 0, .slice none 0 0], []⟩ 8 (by kernel_rfl) (by kernel_rfl) (by kernel_rfl) (by kernel_rfl)) ?_
  intro W base args ds gs before hval0 hW hcnd _
  have hval : ∀ (j : Nat) t v, Try.f22.params[j]? = some t → args[j]? = some v → Value.okWide Try.prog W .any base t v := hval0
  have hW' := hW
  obtain ⟨p, q, hA0, hV, rfl, hfz, hnd⟩ := hW
  have hA : DataW.TrodAll enc Try.prog W 0 (fun _ => true) true Try.f22.params.toList args.toList ds p := hA0
  rw [Try.params22] at hA hval
  obtain ⟨v0, vs0, d0, ds0, p0, q0, hargs, rfl, rfl, h0, r0⟩ := trodAll_cons hA
  obtain ⟨v1, vs1, d1, ds1, p1, q1, rfl, rfl, rfl, h1, r1⟩ := trodAll_cons r0
  obtain ⟨v2, vs2, d2, ds2, p2, q2, rfl, rfl, rfl, h2, r2⟩ := trodAll_cons r1
  obtain ⟨rfl, rfl, rfl⟩ := trodAll_nil r2
  obtain rfl : args = #[v0, v1, v2] := by cases args; simp_all
  obtain ⟨rfl, rfl⟩ := trodVars_none hV
  have k0 := h0
  have lt0 : ∀ x ∈ p0, x.block < W.heap.size := by obtain ⟨m, hm⟩ := k0; exact DataW.trod_lt m _ _ _ hm
  obtain ⟨m0, D0, rfl, f0, wf0⟩ := openMat Try.underlying44 (by kernel_rfl) (by kernel_rfl) (by kernel_rfl) Try.underlying24 Try.underlying22 (by kernel_rfl) Try.underlying3 (hval 0 44 v0 rfl rfl) h0
  have k1 := h1
  have lt1 : ∀ x ∈ p1, x.block < W.heap.size := by obtain ⟨m, hm⟩ := k1; exact DataW.trod_lt m _ _ _ hm
  obtain ⟨a1, len1, cap1, rfl⟩ := okWide_slice Try.underlying30 (hval 1 30 v1 rfl rfl)
  obtain ⟨z1, f1, bd1⟩ : ∃ zs, IS .i64 W (.slice a1 len1 cap1) zs ∧ ∀ z ∈ zs, IntKind.min .i64 ≤ z ∧ z ≤ IntKind.max .i64 := by obtain ⟨fuel, hf⟩ := h1; exact openI Try.underlying30 Try.underlying3 (by kernel_rfl) (by simpa [Value.cells] using hf)
  have k2 := h2
  have lt2 : ∀ x ∈ p2, x.block < W.heap.size := by obtain ⟨m, hm⟩ := k2; exact DataW.trod_lt m _ _ _ hm
  obtain ⟨a2, len2, cap2, rfl⟩ := okWide_slice Try.underlying30 (hval 2 30 v2 rfl rfl)
  obtain ⟨z2, f2, bd2⟩ : ∃ zs, IS .i64 W (.slice a2 len2 cap2) zs ∧ ∀ z ∈ zs, IntKind.min .i64 ≤ z ∧ z ≤ IntKind.max .i64 := by obtain ⟨fuel, hf⟩ := h2; exact openI Try.underlying30 Try.underlying3 (by kernel_rfl) (by simpa [Value.cells] using hf)
  clear hA0 hval0
  refine (equilScales_any m0 D0 _ z1 _ z2 W f0 wf0 f1 bd1 f2 bd2).mono fun e W' ⟨he, o', n', hw⟩ => ?_
  have bel : Below W.heap.size W W' := by rw [hw]; exact below_ext
  subst he
  exact ⟨_, rfl, _, _, _, [], _, [], hW', trodAll_mk1 (shut_bool Try.underlying4 _), (trodAll_cons_mk (Below.trod laidOut_equilScales (by kernel_rfl) (of_decide_eq_true (by kernel_rfl)) k0 bel lt0) (trodAll_cons_mk (Below.trod laidOut_equilScales (by kernel_rfl) (of_decide_eq_true (by kernel_rfl)) k1 bel lt1) (trodAll_cons_mk (Below.trod laidOut_equilScales (by kernel_rfl) (of_decide_eq_true (by kernel_rfl)) k2 bel lt2) trodAll_mk0))), rfl, bel.frame _, fun h => by cases h⟩

set_option maxRecDepth 100000 in
set_option maxHeartbeats 4000000 in
theorem closed_equilScales : joinedFacts Try.prog 22 Try.f22 Rows.equilScalesSpec Rows.equilScalesRow = true := by
  have hl : (Rows.equilScalesRow.lifted == Try.prog.liftsFinal) = true := by rw [head_final]; rfl
  have hm : (Try.prog.make == some Rows.equilScalesRow.make) = true := by rw [head_make]; rfl
  simp only [joinedFacts, Bool.and_eq_true]
  and_intros
  all_goals first | (with_reducible exact head_may) | (with_reducible exact hl) | (with_reducible exact hm) | (as_aux_lemma => kernel_rfl)
theorem over_equilScales : Rows.equilScalesRow.holds Try.pinned (OpenSpec.ofChange Rows.equilScalesSpec) :=
  OpenClaim.holds_of_wide 22 Try.f22 rfl rfl rfl rfl rfl rfl rfl ⟨rfl, rfl, rfl, rfl, rfl⟩ rfl rfl rfl rfl rfl (by kernel_rfl) Try.func22 closed_equilScales
    (of_decide_eq_true (by kernel_rfl)) (by unfold Func.isWrapper; rw [if_neg (of_decide_eq_false (by kernel_rfl))]; exact ⟨rfl, rfl⟩)
    (fun os started H enc _ => lifted_equilScales os started H enc)
/-- THE STATEMENT. -/
theorem equilScales_holds : Rows.EquilScalesSaid := over_equilScales
#print axioms equilScales_holds
end Go.Proofs.Ytcmggfpcbijcjaa
