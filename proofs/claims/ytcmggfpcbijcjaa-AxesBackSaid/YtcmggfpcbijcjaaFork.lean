/-
  A region that draws, and where several operations act in no fixed order: a tree of orders.
-/
import Derived.Test.YtcmggfpcbijcjaaReg
set_option linter.unusedSimpArgs false
set_option linter.unusedVariables false
namespace Sedge
open Go Go.RowKit
/-- A tree of orders: step k i t (kind 0: the same in every world of the class; 3: in every world); alt i t m: either i acts, then t; or one of m; stop: no more. -/
inductive OT where
  | done
  | step (k i : Nat) (t : OT)
  | alt (i : Nat) (t m : OT)
  | stop
def OT.alts : OT → List Nat
  | .alt i _ m => i :: m.alts
  | _ => []
def OT.fuel : OT → Nat
  | .done => 0
  | .step _ _ t => t.fuel + 1
  | .alt _ t _ => t.fuel + 1
  | .stop => 0
section
variable {P : Program} {ops : Array Oper} {Q : Exit → Act → World → Prop} {S : World → Prop}
def wpF (P : Program) (ops : Array Oper) (Q : Exit → Act → World → Prop) (S : World → Prop) : OT → Act → World → Prop
  | .done, a, w => Q .normal a w
  | .stop, _, _ => True
  | .step k i t, a, w =>
    match ops[i]? with
    | none => False
    | some o =>
      if Region.wanted o (yielded ops a.tmps) = true then
        ∃ v, (∀ w', (k = 0 → S w') → (execOp a.eval o).run P w' = .ok (.value v) w') ∧ wpF P ops Q S t (a.put o.dst v) w
      else wpF P ops Q S t (a.put o.dst undef) w
  | .alt i t m, a, w =>
    (match ops[i]? with
    | none => False
    | some o => o.guard = none ∧ o.wp P a w (fun a' w' => S w' ∧ wpF P ops Q S t a' w') Q) ∧ wpF P ops Q S m a w
def okF (ops : Array Oper) : OT → Array Bool → Bool → Bool
  | .done, listed, _ => (Region.ready .any ops listed).isEmpty
  | .stop, _, inner => inner
  | .step _ i t, listed, inner => !inner && (Region.ready .any ops listed).contains i && Region.free .any ops listed i && okF ops t (listed.setIfInBounds i true) false
  | .alt i t m, listed, inner => (inner || Region.ready .any ops listed == i :: m.alts) && okF ops t (listed.setIfInBounds i true) false && t.fuel == (match m with | .alt _ t' _ => t'.fuel | _ => t.fuel) && okF ops m listed true
theorem wanted_none' {o : Oper} {y : Nat → Option Bool} (hg : o.guard = none) : Region.wanted o y = true := by unfold Region.wanted; rw [hg]
theorem anyF (hsel : Region.noSelect ops = true) (hQ : ∀ c a d v w, Q (.panic c) (Act.put a d v) w → Q (.panic c) a w) : ∀ (t : OT),
    (∀ listed a w, okF ops t listed false = true → S w → wpF P ops Q S t a w → AnyT P .any ops Q S (fun _ => false) t.fuel listed a w) ∧
    (∀ listed a w n, okF ops t listed true = true → S w → wpF P ops Q S t a w → (∀ i t' m, t = .alt i t' m → t'.fuel = n) →
      ∀ j ∈ t.alts, wpOp P ops Q j (fun a' w' => (false = false → S w → S w') ∧ AnyT P .any ops Q S (fun _ => false) n (listed.setIfInBounds j true) a' w') a w)
  | .done => ⟨fun listed a w hok _ h => ⟨by simpa [okF] using hok, h⟩, fun _ _ _ _ _ _ _ _ j hj => by cases hj⟩
  | .stop => ⟨fun listed a w hok _ _ => by simp [okF] at hok, fun _ _ _ _ _ _ _ _ j hj => by cases hj⟩
  | .step k i t => by
    refine ⟨fun listed a w hok hS h => ?_, fun _ _ _ _ _ _ _ _ j hj => by cases hj⟩
    simp only [okF, Bool.and_eq_true, Bool.not_false, true_and] at hok
    obtain ⟨⟨h1, h2⟩, h3⟩ := hok
    unfold wpF at h
    cases ho : ops[i]? with
    | none => rw [ho] at h; exact h.elim
    | some o =>
      rw [ho] at h
      simp only at h
      by_cases hw : Region.wanted o (yielded ops a.tmps) = true
      · rw [if_pos hw] at h
        obtain ⟨v, hv, hn⟩ := h
        exact anyT_first (tail := fun _ => false) ho hsel hQ rfl (fun _ _ _ h => by cases h) t.fuel listed a w (Region.free_spec ho h2) (by simpa using h1) (.inl ⟨hw, fun w' hw' => hv w' fun _ => hw'⟩) hS ((anyF hsel hQ t).1 _ _ _ h3 hS hn)
      · rw [if_neg hw] at h
        exact anyT_first (tail := fun _ => false) ho hsel hQ rfl (fun _ _ _ h => by cases h) t.fuel listed a w (Region.free_spec ho h2) (by simpa using h1) (.inr ⟨by simpa using hw, rfl⟩) hS ((anyF hsel hQ t).1 _ _ _ h3 hS h)
  | .alt i t m => by
    have two : ∀ listed a w n, okF ops t (listed.setIfInBounds i true) false = true → okF ops m listed true = true → t.fuel = (match m with | .alt _ t' _ => t'.fuel | _ => t.fuel) → S w → wpF P ops Q S (.alt i t m) a w → t.fuel = n →
        ∀ j ∈ (OT.alt i t m).alts, wpOp P ops Q j (fun a' w' => (false = false → S w → S w') ∧ AnyT P .any ops Q S (fun _ => false) n (listed.setIfInBounds j true) a' w') a w := by
      intro listed a w n h1 h2 h3 hS h hn j hj
      unfold wpF at h
      obtain ⟨h4, h5⟩ := h
      rcases List.mem_cons.1 hj with rfl | hj
      · cases ho : ops[j]? with
        | none => rw [ho] at h4; exact h4.elim
        | some o =>
          rw [ho] at h4
          obtain ⟨hg, hwp⟩ := h4
          unfold wpOp
          rw [ho]
          simp only [wanted_none' hg, if_true]
          exact .inl (Oper.wp_mono (fun a' w' h' => ⟨fun _ _ => h'.1, by rw [← hn]; exact (anyF hsel hQ t).1 _ _ _ h1 h'.1 h'.2⟩) hwp)
      · refine (anyF hsel hQ m).2 listed a w n h2 hS h5 (fun i' t' m' hm => ?_) j hj
        subst hm
        simp only at h3
        omega
    refine ⟨fun listed a w hok hS h => ?_, fun listed a w n hok hS h hn => ?_⟩
    · simp only [okF, Bool.false_or, Bool.and_eq_true, beq_iff_eq] at hok
      obtain ⟨⟨⟨h1, h2⟩, h3⟩, h4⟩ := hok
      show AnyT P .any ops Q S _ (t.fuel + 1) listed a w
      refine ⟨fun h0 => (by rw [h1] at h0; cases h0), fun j hj => ?_⟩
      rw [h1] at hj
      exact two listed a w t.fuel h2 h4 h3 hS h rfl j hj
    · simp only [okF, Bool.true_or, Bool.true_and, Bool.and_eq_true, beq_iff_eq] at hok
      obtain ⟨⟨h2, h3⟩, h4⟩ := hok
      exact two listed a w n h2 h4 h3 hS h (hn i t m rfl)
theorem wp_region_F {id : Nat} {a : Act} {w : World} {l : List Oper} (S : World → Prop) (t : OT) (hm : P.follows .mixedOrders = true)
    (hB : (Region.noSelect l.toArray && okF l.toArray t (Array.replicate l.length false) false && t.fuel == l.length) = true)
    (hQ : ∀ c t df w, Q (.panic c) ⟨t, df⟩ w → ∀ t', Q (.panic c) ⟨t', df⟩ w) (hS : S w.drew)
    (h : wpF P l.toArray Q S t a w.drew) : (Code.region id l.toArray true).wp P Q a w := by
  simp only [Bool.and_eq_true, beq_iff_eq] at hB
  refine wp_region_any hm (any_of_anyT (S := S) (tail := fun _ => false) _ _ _ _ ?_)
  have hQ' : ∀ c a d v w, Q (.panic c) (Act.put a d v) w → Q (.panic c) a w := fun c a d v w h => by
    cases d with
    | none => exact h
    | some d => exact hQ c _ _ w h _
  have := (anyF (P := P) (Q := Q) (S := S) hB.1.1 hQ' t).1 (Array.replicate l.length false) a w.drew hB.1.2 hS h
  rw [hB.2] at this
  simpa using this
variable {l : List Oper}
theorem wpF_id {r : OT} {a : Act} {w : World} (h : wpF P ops Q S r a w) : wpF P ops Q S r a w := h
theorem wpF_done {a : Act} {w : World} (h : Q .normal a w) : wpF P ops Q S .done a w := h
theorem wpF_stop {a : Act} {w : World} : wpF P ops Q S .stop a w := trivial
theorem wpF_take {i : Nat} {o : Oper} {r : OT} {a : Act} {w : World} {v : Value} (ho : nth l i = some o) (hg : o.guard = none)
    (hv : ∀ w', S w' → (execOp a.eval o).run P w' = .ok (.value v) w')
    (h : wpF P l.toArray Q S r (a.put o.dst v) w) : wpF P l.toArray Q S (.step 0 i r) a w := by
  have hw := wanted_none (y := yielded l.toArray a.tmps) hg
  unfold wpF; rw [← nth_eq, ho]; simp only [hw, if_true]; exact ⟨v, fun w' h0 => hv w' (by simpa using h0), h⟩
theorem wpF_alt {i : Nat} {o : Oper} {r m : OT} {a : Act} {w : World} (ho : nth l i = some o) (hg : o.guard = none)
    (h : ∀ K : Act → World → Prop, (∀ a w, S w ∧ wpF P l.toArray Q S r a w → K a w) → o.wp P a w K Q) (hm : wpF P l.toArray Q S m a w) : wpF P l.toArray Q S (.alt i r m) a w := by
  unfold wpF; rw [← nth_eq, ho]; exact ⟨⟨hg, h _ fun _ _ h => h⟩, hm⟩
theorem wpF_go {r : OT} {a : Act} {w : World} (hS : S w) (h : wpF P ops Q S r a w) : S w ∧ wpF P ops Q S r a w := ⟨hS, h⟩
attribute [irreducible] wpF
end
end Sedge
