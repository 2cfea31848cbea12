/- The law SumsLists (chapter 5) of the given program holds for every list of floats: the call returns true, and the list reads as before. Conditions: none. -/
import Derived.Test.YtcmggfpcbijcjaaRows
import Derived.ProofKit
import Derived.OpenShut
import Derived.ShutString
import Derived.ChangeOld
import Derived.Laws.Cover2
import Derived.Test.YtcmggfpcbijcjaaLawSums
import Derived.Test.YtcmggfpcbijcjaaOpen
import Derived.Test.YtcmggfpcbijcjaaHead
namespace Go.Proofs.Ytcmggfpcbijcjaa
open Go.ChangeShapes Go.WideShapes Go.ChangeAt Go.RowKit Sedge
set_option linter.unusedVariables false
theorem own_sumsLists : ownKnob Try.prog.godebug = none := by kernel_rfl
theorem laidOut_sumsLists : laidOutB Try.prog = true := by kernel_rfl
set_option maxRecDepth 100000 in
theorem lifted_sumsLists (os : Os) (started : os.Started) (H : Type) (enc : TypeId × Value → H) :
    ReturnsInHanded {} Try.checked os 4 .any (Rows.sumsListsSpec.pre6 enc Try.prog Try.f4 Rows.sumsListsRow.domain false) (Rows.sumsListsSpec.post enc Try.prog Try.f4 false true false false) := by
  refine returnsInHanded_of_change (C := Try.checked) own_sumsLists started (by kernel_rfl) Try.func4
    (ChangeSpec.witness6 (enc := enc) (C := Try.checked) false ⟨#[], #[.slice none 0 0], []⟩ 8 (by kernel_rfl) (by kernel_rfl) (by kernel_rfl) (by kernel_rfl)) ?_
  intro W base args ds gs before hval0 hW hcnd _
  have hval : ∀ (j : Nat) t v, Try.f4.params[j]? = some t → args[j]? = some v → Value.okWide Try.prog W .any base t v := hval0
  have hW' := hW
  obtain ⟨p, q, hA0, hV, rfl, hfz, hnd⟩ := hW
  have hA : DataW.TrodAll enc Try.prog W 0 (fun _ => true) true Try.f4.params.toList args.toList ds p := hA0
  rw [Try.params4] at hA hval
  obtain ⟨v0, vs0, d0, ds0, p0, q0, hargs, rfl, rfl, h0, r0⟩ := trodAll_cons hA
  obtain ⟨rfl, rfl, rfl⟩ := trodAll_nil r0
  obtain rfl : args = #[v0] := by cases args; simp_all
  obtain ⟨rfl, rfl⟩ := trodVars_none hV
  have k0 := h0
  have lt0 : ∀ x ∈ p0, x.block < W.heap.size := by obtain ⟨m, hm⟩ := k0; exact DataW.trod_lt m _ _ _ hm
  obtain ⟨a0, len0, cap0, rfl⟩ := okWide_slice Try.underlying24 (hval 0 24 v0 rfl rfl)
  obtain ⟨z0, f0⟩ : ∃ ws, FS W (.slice a0 len0 cap0) ws := by obtain ⟨fuel, hf⟩ := h0; exact openF Try.underlying24 Try.underlying22 (by kernel_rfl) (by simpa [Value.cells] using hf)
  clear hA0 hval0
  refine (sumsLists_any _ z0 W f0).mono fun e W' ⟨he, o', n', hw⟩ => ?_
  have bel : Below W.heap.size W W' := by rw [hw]; exact below_ext
  subst he
  exact ⟨_, rfl, _, _, _, [], _, [], hW', trodAll_mk1 (shut_bool Try.underlying4 _), (trodAll_cons_mk (Below.trod laidOut_sumsLists (by kernel_rfl) (of_decide_eq_true (by kernel_rfl)) k0 bel lt0) trodAll_mk0), rfl, bel.frame _, fun h => by cases h⟩

set_option maxRecDepth 100000 in
set_option maxHeartbeats 4000000 in
theorem closed_sumsLists : joinedFacts Try.prog 4 Try.f4 Rows.sumsListsSpec Rows.sumsListsRow = true := by
  have hl : (Rows.sumsListsRow.lifted == Try.prog.liftsFinal) = true := by rw [head_final]; rfl
  have hm : (Try.prog.make == some Rows.sumsListsRow.make) = true := by rw [head_make]; rfl
  simp only [joinedFacts, Bool.and_eq_true]
  and_intros
  all_goals first | (with_reducible exact head_may) | (with_reducible exact hl) | (with_reducible exact hm) | (as_aux_lemma => kernel_rfl)
theorem over_sumsLists : Rows.sumsListsRow.holds Try.pinned (OpenSpec.ofChange Rows.sumsListsSpec) :=
  OpenClaim.holds_of_wide 4 Try.f4 rfl rfl rfl rfl rfl rfl rfl ⟨rfl, rfl, rfl, rfl, rfl⟩ rfl rfl rfl rfl rfl (by kernel_rfl) Try.func4 closed_sumsLists
    (of_decide_eq_true (by kernel_rfl)) (by unfold Func.isWrapper; rw [if_neg (of_decide_eq_false (by kernel_rfl))]; exact ⟨rfl, rfl⟩)
    (fun os started H enc _ => lifted_sumsLists os started H enc)
/-- THE STATEMENT. -/
theorem sumsLists_holds : Rows.SumsListsSaid := over_sumsLists
#print axioms sumsLists_holds
end Go.Proofs.Ytcmggfpcbijcjaa
