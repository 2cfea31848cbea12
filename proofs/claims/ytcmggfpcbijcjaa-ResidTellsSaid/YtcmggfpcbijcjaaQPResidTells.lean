/- The law ResidTells (chapter 22) of the given program holds for every matrix and every two lists of floats: the call returns true, and all three read as before. Conditions: none. -/
import Derived.Test.YtcmggfpcbijcjaaRows
import Derived.ProofKit
import Derived.OpenShut
import Derived.ShutString
import Derived.ChangeOld
import Derived.Laws.Cover2
import Derived.Test.YtcmggfpcbijcjaaQResidTells1
import Derived.Test.YtcmggfpcbijcjaaQResidTells2
import Derived.Test.YtcmggfpcbijcjaaQResidTells3
import Derived.Test.YtcmggfpcbijcjaaQResidTells4
import Derived.Test.YtcmggfpcbijcjaaQResidTells5
import Derived.Test.YtcmggfpcbijcjaaQResidTells6
import Derived.Test.YtcmggfpcbijcjaaQResidTells7
set_option linter.unusedSimpArgs false
set_option linter.unusedVariables false
namespace Go.Proofs.Ytcmggfpcbijcjaa
open Go.ChangeShapes Go.WideShapes Go.ChangeAt Go.RowKit Sedge
set_option linter.unusedVariables false
theorem own_residTells : ownKnob Try.prog.godebug = none := by kernel_rfl
theorem laidOut_residTells : laidOutB Try.prog = true := by kernel_rfl
set_option maxRecDepth 100000 in
theorem lifted_residTells (os : Os) (started : os.Started) (H : Type) (enc : TypeId × Value → H) :
    ReturnsInHanded {} Try.checked os 19 .any (Rows.residTellsSpec.pre6 enc Try.prog Try.f19 Rows.residTellsRow.domain false) (Rows.residTellsSpec.post enc Try.prog Try.f19 false true false false) := by
  refine returnsInHanded_of_change (C := Try.checked) own_residTells started (by kernel_rfl) Try.func19
    (ChangeSpec.witness6 (enc := enc) (C := Try.checked) false ⟨#[], #[.agg #[.slice none 0 0, .int .i64 0, .int .i64 0, .int .i64 0, .int .i64 0], .slice none 0 0, .slice none 0 0], []⟩ 8 (by kernel_rfl) (by kernel_rfl) (by kernel_rfl) (by kernel_rfl)) ?_
  intro W base args ds gs before hval0 hW hcnd _
  have hval : ∀ (j : Nat) t v, Try.f19.params[j]? = some t → args[j]? = some v → Value.okWide Try.prog W .any base t v := hval0
  have hW' := hW
  obtain ⟨p, q, hA0, hV, rfl, hfz, hnd⟩ := hW
  have hA : DataW.TrodAll enc Try.prog W 0 (fun _ => true) true Try.f19.params.toList args.toList ds p := hA0
  rw [Try.params19] at hA hval
  obtain ⟨v0, vs0, d0, ds0, p0, q0, hargs, rfl, rfl, h0, r0⟩ := trodAll_cons hA
  obtain ⟨v1, vs1, d1, ds1, p1, q1, rfl, rfl, rfl, h1, r1⟩ := trodAll_cons r0
  obtain ⟨v2, vs2, d2, ds2, p2, q2, rfl, rfl, rfl, h2, r2⟩ := trodAll_cons r1
  obtain ⟨rfl, rfl, rfl⟩ := trodAll_nil r2
  obtain rfl : args = #[v0, v1, v2] := by cases args; simp_all
  obtain ⟨rfl, rfl⟩ := trodVars_none hV
  have k0 := h0
  have lt0 : ∀ x ∈ p0, x.block < W.heap.size := by obtain ⟨m, hm⟩ := k0; exact DataW.trod_lt m _ _ _ hm
  obtain ⟨m0, D0, rfl, f0, wf0⟩ := openMat Try.underlying44 (by kernel_rfl) (by kernel_rfl) (by kernel_rfl) Try.underlying24 Try.underlying22 (by kernel_rfl) Try.underlying3 (hval 0 44 v0 rfl rfl) h0
  have k1 := h1
  have lt1 : ∀ x ∈ p1, x.block < W.heap.size := by obtain ⟨m, hm⟩ := k1; exact DataW.trod_lt m _ _ _ hm
  obtain ⟨a1, len1, cap1, rfl⟩ := okWide_slice Try.underlying24 (hval 1 24 v1 rfl rfl)
  obtain ⟨z1, f1⟩ : ∃ ws, FS W (.slice a1 len1 cap1) ws := by obtain ⟨fuel, hf⟩ := h1; exact openF Try.underlying24 Try.underlying22 (by kernel_rfl) (by simpa [Value.cells] using hf)
  have k2 := h2
  have lt2 : ∀ x ∈ p2, x.block < W.heap.size := by obtain ⟨m, hm⟩ := k2; exact DataW.trod_lt m _ _ _ hm
  obtain ⟨a2, len2, cap2, rfl⟩ := okWide_slice Try.underlying24 (hval 2 24 v2 rfl rfl)
  obtain ⟨z2, f2⟩ : ∃ ws, FS W (.slice a2 len2 cap2) ws := by obtain ⟨fuel, hf⟩ := h2; exact openF Try.underlying24 Try.underlying22 (by kernel_rfl) (by simpa [Value.cells] using hf)
  clear hA0 hval0
  refine (residTells_any m0 D0 _ z1 _ z2 W f0 wf0 f1 f2).mono fun e W' ⟨he, o', n', hw⟩ => ?_
  have bel : Below W.heap.size W W' := by rw [hw]; exact below_ext
  subst he
  exact ⟨_, rfl, _, _, _, [], _, [], hW', trodAll_mk1 (shut_bool Try.underlying4 _), (trodAll_cons_mk (Below.trod laidOut_residTells (by kernel_rfl) (of_decide_eq_true (by kernel_rfl)) k0 bel lt0) (trodAll_cons_mk (Below.trod laidOut_residTells (by kernel_rfl) (of_decide_eq_true (by kernel_rfl)) k1 bel lt1) (trodAll_cons_mk (Below.trod laidOut_residTells (by kernel_rfl) (of_decide_eq_true (by kernel_rfl)) k2 bel lt2) trodAll_mk0))), rfl, bel.frame _, fun h => by cases h⟩

set_option maxRecDepth 100000 in
set_option maxHeartbeats 4000000 in
theorem closed_residTells : joinedFacts Try.prog 19 Try.f19 Rows.residTellsSpec Rows.residTellsRow = true := by
  have hl : (Rows.residTellsRow.lifted == Try.prog.liftsFinal) = true := by rw [head_final]; rfl
  have hm : (Try.prog.make == some Rows.residTellsRow.make) = true := by rw [head_make]; rfl
  simp only [joinedFacts, Bool.and_eq_true]
  and_intros
  all_goals first | (with_reducible exact head_may) | (with_reducible exact hl) | (with_reducible exact hm) | (as_aux_lemma => kernel_rfl)
theorem over_residTells : Rows.residTellsRow.holds Try.pinned (OpenSpec.ofChange Rows.residTellsSpec) :=
  OpenClaim.holds_of_wide 19 Try.f19 rfl rfl rfl rfl rfl rfl rfl ⟨rfl, rfl, rfl, rfl, rfl⟩ rfl rfl rfl rfl rfl (by kernel_rfl) Try.func19 closed_residTells
    (of_decide_eq_true (by kernel_rfl)) (by unfold Func.isWrapper; rw [if_neg (of_decide_eq_false (by kernel_rfl))]; exact ⟨rfl, rfl⟩)
    (fun os started H enc _ => lifted_residTells os started H enc)
/-- THE STATEMENT. -/
theorem residTells_holds : Rows.ResidTellsSaid := over_residTells
#print axioms residTells_holds
end Go.Proofs.Ytcmggfpcbijcjaa
