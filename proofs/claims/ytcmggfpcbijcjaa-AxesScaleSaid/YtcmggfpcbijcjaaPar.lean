/-
  A region that draws, with acts in no fixed order: one goal for each operation, off facts that last.
-/
import Derived.Test.YtcmggfpcbijcjaaFork
import Derived.Test.YtcmggfpcbijcjaaWr
import Derived.Laws.Tables
set_option linter.unusedSimpArgs false
set_option linter.unusedVariables false
namespace Sedge
open Go Go.RowKit
section
variable {P : Program} {Q : Exit → Act → World → Prop} {l : List Oper}
/-- Does an operation wait for number i? -/
def deps (o : Oper) (i : Nat) : Bool := o.after.any fun e => Region.binds .any e && e.on == i
def stepJ (P : Program) (Q : Exit → Act → World → Prop) (l : List Oper) (J : (Nat → Bool) → Act → World → Prop) (i : Nat) (o : Oper) : Prop :=
  ∀ L a w, L i = false → (∀ e, deps o e = true → L e = true) → (∀ k ok, nth l k = some ok → deps ok i = true → L k = false) → J L a w →
    ∀ K : Act → World → Prop, (∀ a' w', J (fun k => k == i || L k) a' w' → K a' w') → o.wp P a w K Q
def stepsJ (P : Program) (Q : Exit → Act → World → Prop) (l : List Oper) (J : (Nat → Bool) → Act → World → Prop) : List Oper → Nat → Prop
  | [], _ => True
  | o :: r, i => stepJ P Q l J i o ∧ stepsJ P Q l J r (i + 1)
def okAt : List Oper → Nat → Bool
  | [], _ => true
  | o :: r, i => o.guard.isNone && (o.after.all fun e => !Region.binds .any e || decide (e.on < i)) && okAt r (i + 1)
theorem stepsJ_nth {J : (Nat → Bool) → Act → World → Prop} : ∀ (r : List Oper) (b : Nat), stepsJ P Q l J r b → ∀ i o, nth r i = some o → stepJ P Q l J (b + i) o
  | [], _, _, _, _, h => by cases h
  | o :: r, b, h, 0, o', h' => by simp only [nth, Option.some.injEq] at h'; subst h'; exact h.1
  | o :: r, b, h, i + 1, o', h' => by have := stepsJ_nth r (b + 1) h.2 i o' h'; rwa [show b + (i + 1) = b + 1 + i from by omega]
theorem okAt_nth : ∀ (r : List Oper) (b : Nat), okAt r b = true → ∀ i o, nth r i = some o → o.guard = none ∧ ∀ e ∈ o.after, Region.binds .any e = true → e.on < b + i
  | [], _, _, _, _, h => by cases h
  | o :: r, b, h, 0, o', h' => by
    simp only [nth, Option.some.injEq] at h'; subst h'
    simp only [okAt, Bool.and_eq_true, Option.isNone_iff_eq_none, Array.all_eq_true_iff_forall_mem, Bool.or_eq_true, Bool.not_eq_true', decide_eq_true_eq] at h
    exact ⟨h.1.1, fun e he hb => by rcases h.1.2 e he with h1 | h1; · rw [h1] at hb; cases hb
                                    · exact h1⟩
  | o :: r, b, h, i + 1, o', h' => by
    simp only [okAt, Bool.and_eq_true] at h
    have := okAt_nth r (b + 1) h.2 i o' h'
    rwa [show b + 1 + i = b + (i + 1) from by omega] at this
theorem nth_len : ∀ (r : List Oper) (i : Nat), i < r.length → ∃ o, nth r i = some o
  | [], _, h => by simp at h
  | o :: r, 0, _ => ⟨o, rfl⟩
  | o :: r, i + 1, h => nth_len r i (by simpa using h)
theorem count_set : ∀ (b : List Bool) (i : Nat), b[i]? = some false → (b.set i true).count false + 1 = b.count false
  | [], i, h => by simp at h
  | x :: b, 0, h => by simp at h; subst h; simp
  | x :: b, i + 1, h => by
    have := count_set b i (by simpa using h)
    simp only [List.set_cons_succ, List.count_cons]; omega
theorem parJ {J : (Nat → Bool) → Act → World → Prop} (hok : okAt l 0 = true) (hs : stepsJ P Q l J l 0)
    (he : ∀ L a w, (∀ k, k < l.length → L k = true) → J L a w → Q .normal a w) :
    ∀ (fuel : Nat) (b : Array Bool) (a : Act) (w : World), b.size = l.length → b.toList.count false = fuel →
      (∀ k ok i, nth l k = some ok → deps ok i = true → b.getD k false = true → b.getD i false = true) → J (fun k => b.getD k false) a w →
      wpAny P .any l.toArray Q fuel b a w := by
  intro fuel
  induction fuel with
  | zero =>
    intro b a w hb hc _ hJ
    have hall : ∀ k, k < l.length → b.getD k false = true := by
      intro k hk
      have h1 : b[k]? = some b[k] := Array.getElem?_eq_getElem (by omega)
      have h2 : ∀ x ∈ b.toList, x ≠ false := fun x hx hf => by subst hf; exact absurd hx (List.count_eq_zero.1 hc)
      have h3 := h2 b[k] (by simp)
      simp [Array.getD, hb, hk]; simpa using h3
    refine ⟨?_, he _ _ _ hall hJ⟩
    rw [List.eq_nil_iff_forall_not_mem]
    intro j hj
    obtain ⟨h1, o, ho, _⟩ := mem_ready.1 hj
    have hjl : j < l.length := by have := (List.getElem?_eq_some_iff.1 (by simpa using ho)).1; simpa using this
    have := hall j hjl
    simp [Array.getD, hb, hjl] at h1 this
    rw [h1] at this; cases this
  | succ n ih =>
    intro b a w hb hc hcl hJ
    refine ⟨fun hr => ?_, fun i hi => ?_⟩
    · -- the least that is not listed would be ready
      have hall : ∀ k, k < l.length → b.getD k false = true := by
        intro k
        induction k using Nat.strongRecOn with
        | _ k ihk =>
          intro hk
          cases hbk : b.getD k false
          · obtain ⟨o, ho⟩ := nth_len l k hk
            have hin : k ∈ Region.ready .any l.toArray b := by
              refine mem_ready.2 ⟨?_, o, by rw [← nth_eq]; exact ho, fun e hee hbd => ?_⟩
              · simp [Array.getD, hb, hk] at hbk ⊢; exact hbk
              · have h1 := (okAt_nth l 0 hok k o ho).2 e hee hbd
                exact ihk e.on (by omega) (by omega)
            rw [hr] at hin; cases hin
          · rfl
      exact he _ _ _ hall hJ
    · obtain ⟨h1, o, ho, hd⟩ := mem_ready.1 hi
      have hil : i < l.length := by have := (List.getElem?_eq_some_iff.1 (by simpa using ho)).1; simpa using this
      have hbi : b.getD i false = false := by simp [Array.getD, hb, hil] at h1 ⊢; exact h1
      have hno : nth l i = some o := by rw [nth_eq]; exact ho
      unfold wpOp
      rw [ho]
      simp only [wanted_none' (okAt_nth l 0 hok i o hno).1, if_true]
      refine .inl ?_
      have hst := stepsJ_nth l 0 hs i o hno
      rw [Nat.zero_add] at hst
      have hdep : ∀ e, deps o e = true → b.getD e false = true := fun e hee => by
        unfold deps at hee
        simp only [Array.any_eq_true, Bool.and_eq_true, beq_iff_eq] at hee
        obtain ⟨m, hm, h2, h3⟩ := hee
        rw [← h3]; exact hd _ (Array.getElem_mem hm) h2
      refine hst (fun k => b.getD k false) a w hbi hdep (fun k ok hk hw => ?_) hJ _ (fun a' w' hJ' => ?_)
      · cases hk2 : b.getD k false
        · rfl
        · rw [hcl k ok i hk hw hk2] at hbi; cases hbi
      · have hset : ∀ k, (b.setIfInBounds i true).getD k false = (k == i || b.getD k false) := by
          intro k
          simp only [Array.getD_eq_getD_getElem?, Array.getElem?_setIfInBounds]
          by_cases hki : i = k
          · subst hki; simp [hb, hil]
          · have hki' : ¬ k = i := fun e => hki e.symm
            rw [if_neg hki]; simp [hki']
        refine ih _ a' w' (by simpa using hb) ?_ (fun k ok e hk hw hk2 => ?_) ?_
        · have := count_set b.toList i (by simp [Array.getD, hb, hil] at hbi ⊢; exact hbi)
          rw [Array.toList_setIfInBounds]; omega
        · rw [hset] at hk2 ⊢
          simp only [Bool.or_eq_true, beq_iff_eq] at hk2 ⊢
          rcases hk2 with h | h
          · subst h
            rw [hno] at hk; cases hk
            exact .inr (hdep e hw)
          · exact .inr (hcl k ok e hk hw h)
        · have : (fun k => (b.setIfInBounds i true).getD k false) = (fun k => k == i || b.getD k false) := funext hset
          rw [this]; exact hJ'
theorem wp_region_J {id : Nat} {a : Act} {w : World} {l : List Oper} (J : (Nat → Bool) → Act → World → Prop) (hm : P.follows .mixedOrders = true)
    (hok : okAt l 0 = true) (h0 : J (fun _ => false) a w.drew) (hs : stepsJ P Q l J l 0)
    (he : ∀ L a w, (∀ k, k < l.length → L k = true) → J L a w → Q .normal a w) : (Code.region id l.toArray true).wp P Q a w := by
  refine wp_region_any hm ?_
  have hrep : ∀ n k : Nat, (Array.replicate n false).getD k false = false := fun n k => by simp [Array.getD_eq_getD_getElem?, Array.getElem?_replicate]; split <;> rfl
  refine parJ hok hs he _ _ a _ (by simp) (by simp) (fun k ok i _ _ h => ?_) ?_
  · rw [hrep] at h; cases h
  · have : (fun k => (Array.replicate l.toArray.size false).getD k false) = (fun _ : Nat => false) := funext fun k => hrep _ k
    rw [this]; exact h0
end
end Sedge
