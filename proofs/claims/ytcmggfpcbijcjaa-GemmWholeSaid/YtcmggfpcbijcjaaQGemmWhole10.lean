/-
  Texts laid one behind the other (a claim has at most 60 files): Par, Par2, ParM.
-/
import Derived.Laws.Tables
import Derived.Test.YtcmggfpcbijcjaaQGemmWhole1
import Derived.Test.YtcmggfpcbijcjaaQGemmWhole2
import Derived.Test.YtcmggfpcbijcjaaQGemmWhole3
import Derived.Test.YtcmggfpcbijcjaaQGemmWhole4
import Derived.Test.YtcmggfpcbijcjaaQGemmWhole5
import Derived.Test.YtcmggfpcbijcjaaQGemmWhole6
import Derived.Test.YtcmggfpcbijcjaaQGemmWhole7
import Derived.Test.YtcmggfpcbijcjaaQGemmWhole8
import Derived.Test.YtcmggfpcbijcjaaQGemmWhole9
section
/-
  A region that draws, with acts in no fixed order: one goal for each operation, off facts that last.
-/
set_option linter.unusedSimpArgs false
set_option linter.unusedVariables false
namespace Sedge
open Go Go.RowKit
section
variable {P : Program} {Q : Exit → Act → World → Prop} {l : List Oper}
/-- Does an operation wait for number i? -/
def deps (o : Oper) (i : Nat) : Bool := o.after.any fun e => Region.binds .any e && e.on == i
def stepJ (P : Program) (Q : Exit → Act → World → Prop) (l : List Oper) (J : (Nat → Bool) → Act → World → Prop) (i : Nat) (o : Oper) : Prop :=
  ∀ L a w, L i = false → (∀ e, deps o e = true → L e = true) → (∀ k ok, nth l k = some ok → deps ok i = true → L k = false) → J L a w →
    ∀ K : Act → World → Prop, (∀ a' w', J (fun k => k == i || L k) a' w' → K a' w') → o.wp P a w K Q
def stepsJ (P : Program) (Q : Exit → Act → World → Prop) (l : List Oper) (J : (Nat → Bool) → Act → World → Prop) : List Oper → Nat → Prop
  | [], _ => True
  | o :: r, i => stepJ P Q l J i o ∧ stepsJ P Q l J r (i + 1)
def okAt : List Oper → Nat → Bool
  | [], _ => true
  | o :: r, i => o.guard.isNone && (o.after.all fun e => !Region.binds .any e || decide (e.on < i)) && okAt r (i + 1)
theorem stepsJ_nth {J : (Nat → Bool) → Act → World → Prop} : ∀ (r : List Oper) (b : Nat), stepsJ P Q l J r b → ∀ i o, nth r i = some o → stepJ P Q l J (b + i) o
  | [], _, _, _, _, h => by cases h
  | o :: r, b, h, 0, o', h' => by simp only [nth, Option.some.injEq] at h'; subst h'; exact h.1
  | o :: r, b, h, i + 1, o', h' => by have := stepsJ_nth r (b + 1) h.2 i o' h'; rwa [show b + (i + 1) = b + 1 + i from by omega]
theorem okAt_nth : ∀ (r : List Oper) (b : Nat), okAt r b = true → ∀ i o, nth r i = some o → o.guard = none ∧ ∀ e ∈ o.after, Region.binds .any e = true → e.on < b + i
  | [], _, _, _, _, h => by cases h
  | o :: r, b, h, 0, o', h' => by
    simp only [nth, Option.some.injEq] at h'; subst h'
    simp only [okAt, Bool.and_eq_true, Option.isNone_iff_eq_none, Array.all_eq_true_iff_forall_mem, Bool.or_eq_true, Bool.not_eq_true', decide_eq_true_eq] at h
    exact ⟨h.1.1, fun e he hb => by rcases h.1.2 e he with h1 | h1; · rw [h1] at hb; cases hb
                                    · exact h1⟩
  | o :: r, b, h, i + 1, o', h' => by
    simp only [okAt, Bool.and_eq_true] at h
    have := okAt_nth r (b + 1) h.2 i o' h'
    rwa [show b + 1 + i = b + (i + 1) from by omega] at this
theorem nth_len : ∀ (r : List Oper) (i : Nat), i < r.length → ∃ o, nth r i = some o
  | [], _, h => by simp at h
  | o :: r, 0, _ => ⟨o, rfl⟩
  | o :: r, i + 1, h => nth_len r i (by simpa using h)
theorem count_set : ∀ (b : List Bool) (i : Nat), b[i]? = some false → (b.set i true).count false + 1 = b.count false
  | [], i, h => by simp at h
  | x :: b, 0, h => by simp at h; subst h; simp
  | x :: b, i + 1, h => by
    have := count_set b i (by simpa using h)
    simp only [List.set_cons_succ, List.count_cons]; omega
theorem parJ {J : (Nat → Bool) → Act → World → Prop} (hok : okAt l 0 = true) (hs : stepsJ P Q l J l 0)
    (he : ∀ L a w, (∀ k, k < l.length → L k = true) → J L a w → Q .normal a w) :
    ∀ (fuel : Nat) (b : Array Bool) (a : Act) (w : World), b.size = l.length → b.toList.count false = fuel →
      (∀ k ok i, nth l k = some ok → deps ok i = true → b.getD k false = true → b.getD i false = true) → J (fun k => b.getD k false) a w →
      wpAny P .any l.toArray Q fuel b a w := by
  intro fuel
  induction fuel with
  | zero =>
    intro b a w hb hc _ hJ
    have hall : ∀ k, k < l.length → b.getD k false = true := by
      intro k hk
      have h1 : b[k]? = some b[k] := Array.getElem?_eq_getElem (by omega)
      have h2 : ∀ x ∈ b.toList, x ≠ false := fun x hx hf => by subst hf; exact absurd hx (List.count_eq_zero.1 hc)
      have h3 := h2 b[k] (by simp)
      simp [Array.getD, hb, hk]; simpa using h3
    refine ⟨?_, he _ _ _ hall hJ⟩
    rw [List.eq_nil_iff_forall_not_mem]
    intro j hj
    obtain ⟨h1, o, ho, _⟩ := mem_ready.1 hj
    have hjl : j < l.length := by have := (List.getElem?_eq_some_iff.1 (by simpa using ho)).1; simpa using this
    have := hall j hjl
    simp [Array.getD, hb, hjl] at h1 this
    rw [h1] at this; cases this
  | succ n ih =>
    intro b a w hb hc hcl hJ
    refine ⟨fun hr => ?_, fun i hi => ?_⟩
    · -- the least that is not listed would be ready
      have hall : ∀ k, k < l.length → b.getD k false = true := by
        intro k
        induction k using Nat.strongRecOn with
        | _ k ihk =>
          intro hk
          cases hbk : b.getD k false
          · obtain ⟨o, ho⟩ := nth_len l k hk
            have hin : k ∈ Region.ready .any l.toArray b := by
              refine mem_ready.2 ⟨?_, o, by rw [← nth_eq]; exact ho, fun e hee hbd => ?_⟩
              · simp [Array.getD, hb, hk] at hbk ⊢; exact hbk
              · have h1 := (okAt_nth l 0 hok k o ho).2 e hee hbd
                exact ihk e.on (by omega) (by omega)
            rw [hr] at hin; cases hin
          · rfl
      exact he _ _ _ hall hJ
    · obtain ⟨h1, o, ho, hd⟩ := mem_ready.1 hi
      have hil : i < l.length := by have := (List.getElem?_eq_some_iff.1 (by simpa using ho)).1; simpa using this
      have hbi : b.getD i false = false := by simp [Array.getD, hb, hil] at h1 ⊢; exact h1
      have hno : nth l i = some o := by rw [nth_eq]; exact ho
      unfold wpOp
      rw [ho]
      simp only [wanted_none' (okAt_nth l 0 hok i o hno).1, if_true]
      refine .inl ?_
      have hst := stepsJ_nth l 0 hs i o hno
      rw [Nat.zero_add] at hst
      have hdep : ∀ e, deps o e = true → b.getD e false = true := fun e hee => by
        unfold deps at hee
        simp only [Array.any_eq_true, Bool.and_eq_true, beq_iff_eq] at hee
        obtain ⟨m, hm, h2, h3⟩ := hee
        rw [← h3]; exact hd _ (Array.getElem_mem hm) h2
      refine hst (fun k => b.getD k false) a w hbi hdep (fun k ok hk hw => ?_) hJ _ (fun a' w' hJ' => ?_)
      · cases hk2 : b.getD k false
        · rfl
        · rw [hcl k ok i hk hw hk2] at hbi; cases hbi
      · have hset : ∀ k, (b.setIfInBounds i true).getD k false = (k == i || b.getD k false) := by
          intro k
          simp only [Array.getD_eq_getD_getElem?, Array.getElem?_setIfInBounds]
          by_cases hki : i = k
          · subst hki; simp [hb, hil]
          · have hki' : ¬ k = i := fun e => hki e.symm
            rw [if_neg hki]; simp [hki']
        refine ih _ a' w' (by simpa using hb) ?_ (fun k ok e hk hw hk2 => ?_) ?_
        · have := count_set b.toList i (by simp [Array.getD, hb, hil] at hbi ⊢; exact hbi)
          rw [Array.toList_setIfInBounds]; omega
        · rw [hset] at hk2 ⊢
          simp only [Bool.or_eq_true, beq_iff_eq] at hk2 ⊢
          rcases hk2 with h | h
          · subst h
            rw [hno] at hk; cases hk
            exact .inr (hdep e hw)
          · exact .inr (hcl k ok e hk hw h)
        · have : (fun k => (b.setIfInBounds i true).getD k false) = (fun k => k == i || b.getD k false) := funext hset
          rw [this]; exact hJ'
theorem wp_region_J {id : Nat} {a : Act} {w : World} {l : List Oper} (J : (Nat → Bool) → Act → World → Prop) (hm : P.follows .mixedOrders = true)
    (hok : okAt l 0 = true) (h0 : J (fun _ => false) a w.drew) (hs : stepsJ P Q l J l 0)
    (he : ∀ L a w, (∀ k, k < l.length → L k = true) → J L a w → Q .normal a w) : (Code.region id l.toArray true).wp P Q a w := by
  refine wp_region_any hm ?_
  have hrep : ∀ n k : Nat, (Array.replicate n false).getD k false = false := fun n k => by simp [Array.getD_eq_getD_getElem?, Array.getElem?_replicate]; split <;> rfl
  refine parJ hok hs he _ _ a _ (by simp) (by simp) (fun k ok i _ _ h => ?_) ?_
  · rw [hrep] at h; cases h
  · have : (fun k => (Array.replicate l.toArray.size false).getD k false) = (fun _ : Nat => false) := funext fun k => hrep _ k
    rw [this]; exact h0
end
end Sedge
end
section
/-
  The facts that last, in a region whose acts come in no fixed order: boxes, rows of floats of our own, values.
-/
set_option linter.unusedSimpArgs false
set_option linter.unusedVariables false
namespace Sedge
open Go Go.RowKit
/-- What an operation leaves that lasts. -/
inductive Fc where
  | is (v : Value)
  | box (n : Nat)
  | row (sh : Value → Value) (ws : List Nat)
  | put (d c : Nat) (cs : Value → Array Value) (ws : List Nat)
  | any
def ownRow (W : World) (own : Nat → Nat) (w : World) (t g : Nat) (ws : List Nat) : Prop := own g = t ∧ W.heap.size ≤ g ∧ FW w g ws
def Fc.holds (W : World) (ρ : Nat → Value) (own : Nat → Nat) (w : World) (d : Nat) : Fc → Prop
  | .is v => ρ d = v
  | .box n => ∃ p c e, ρ d = .pointer (some ⟨p, 0, none⟩) ∧ own p = d ∧ W.heap.size ≤ p ∧ w.heap[p]? = some (.cells c e (0, 0)) ∧ c.size = n
  | .row sh ws => ∃ g cap, ρ d = sh (.slice (some ⟨g, 0, none⟩) ws.length cap) ∧ ownRow W own w d g ws
  | .put d' c cs ws => ∃ p g cap e, ρ d' = .pointer (some ⟨p, 0, none⟩) ∧ own p = d' ∧ W.heap.size ≤ p ∧ w.heap[p]? = some (.cells (cs (.slice (some ⟨g, 0, none⟩) ws.length cap)) e (0, 0)) ∧ ownRow W own w c g ws
  | .any => True
def slotsOf (d : Nat) : Fc → List Nat
  | .put d' _ _ _ => [d']
  | .any => []
  | _ => [d]
theorem ownRow.grew {W w w' : World} {own own' : Nat → Nat} {t g : Nat} {ws : List Nat} (h : ownRow W own w t g ws) (hg : Grew w w') (ho : ∀ b, b < w.heap.size → own' b = own b) : ownRow W own' w' t g ws :=
  ⟨by rw [ho g h.2.2.lt]; exact h.1, h.2.1, h.2.2.grew hg⟩
theorem some_lt {w : World} {p : Nat} {o : Obj} (h : w.heap[p]? = some o) : p < w.heap.size := (Array.getElem?_eq_some_iff.1 h).1
theorem Fc.grew {W w w' : World} {ρ ρ' : Nat → Value} {own own' : Nat → Nat} {d : Nat} {f : Fc} (h : f.holds W ρ own w d) (hg : Grew w w') (ho : ∀ b, b < w.heap.size → own' b = own b)
    (hr : ∀ s ∈ slotsOf d f, ρ' s = ρ s) : f.holds W ρ' own' w' d := by
  cases f with
  | is v => exact (hr d (by simp [slotsOf])).trans h
  | box n =>
    obtain ⟨p, c, e, h1, h2, h3, h4, h5⟩ := h
    exact ⟨p, c, e, (hr d (by simp [slotsOf])).trans h1, by rw [ho p (some_lt h4)]; exact h2, h3, by rw [hg.below.block p (some_lt h4)]; exact h4, h5⟩
  | row sh ws =>
    obtain ⟨g, cap, h1, h2⟩ := h
    exact ⟨g, cap, (hr d (by simp [slotsOf])).trans h1, h2.grew hg ho⟩
  | put d' c cs ws =>
    obtain ⟨p, g, cap, e, h1, h2, h3, h4, h5⟩ := h
    exact ⟨p, g, cap, e, (hr d' (by simp [slotsOf])).trans h1, by rw [ho p (some_lt h4)]; exact h2, h3, by rw [hg.below.block p (some_lt h4)]; exact h4, h5.grew hg ho⟩
  | any => trivial
def setR (ρ : Nat → Value) (d : Nat) (v : Value) : Nat → Value := fun k => bif k == d then v else ρ k
theorem setR_eq {ρ : Nat → Value} {d : Nat} {v : Value} : setR ρ d v d = v := by simp [setR]
theorem setR_ne {ρ : Nat → Value} {d k : Nat} {v : Value} (h : k ≠ d) : setR ρ d v k = ρ k := by
  have : (k == d) = false := by simpa using h
  simp [setR, this]
/-- The slots, the region's own among them open. -/
def mkA (base : Array Value) (ds : List Nat) (ρ : Nat → Value) : Array Value := ds.foldl (fun t d => t.setIfInBounds d (ρ d)) base
theorem mkA_get (ρ : Nat → Value) : ∀ (ds : List Nat) (base : Array Value) (k : Nat), (mkA base ds ρ)[k]? = if k ∈ ds ∧ k < base.size then some (ρ k) else base[k]?
  | [], base, k => by simp [mkA]
  | d :: ds, base, k => by
    show (mkA (base.setIfInBounds d (ρ d)) ds ρ)[k]? = _
    rw [mkA_get ρ ds]
    simp only [Array.size_setIfInBounds, List.mem_cons]
    by_cases h1 : k ∈ ds
    · simp only [h1, true_and, or_true]
      split
      · rfl
      · rename_i h; rw [Array.getElem?_eq_none (by simpa using h), Array.getElem?_eq_none (by simpa using h)]
    · simp only [h1, false_and, if_false, or_false]
      rw [Array.getElem?_setIfInBounds]
      by_cases h2 : d = k
      · subst h2; simp only [if_true, true_and]
        split
        · rfl
        · rename_i h; rw [Array.getElem?_eq_none (by simpa using h)]
      · have : ¬ k = d := fun e => h2 e.symm
        simp [h2, this]
theorem mkA_self (base : Array Value) (ds : List Nat) : mkA base ds (fun k => base.getD k undef) = base := by
  apply Array.ext_getElem?; intro k
  rw [mkA_get]
  split
  · rename_i h; simp [Array.getD_eq_getD_getElem?, Array.getElem?_eq_getElem h.2]
  · rfl
theorem mkA_set (base : Array Value) (ds : List Nat) (ρ : Nat → Value) {d : Nat} (v : Value) (hd : d ∈ ds) : mkA base ds (setR ρ d v) = (mkA base ds ρ).setIfInBounds d v := by
  apply Array.ext_getElem?; intro k
  have hs : (mkA base ds ρ).size = base.size := by
    have : ∀ (ds : List Nat) (base : Array Value), (mkA base ds ρ).size = base.size := by
      intro ds
      induction ds with
      | nil => intro base; rfl
      | cons d ds ih => intro base; show (mkA (base.setIfInBounds d (ρ d)) ds ρ).size = _; rw [ih]; simp
    exact this ds base
  rw [mkA_get, Array.getElem?_setIfInBounds, mkA_get, hs]
  by_cases h : d = k
  · subst h; simp only [hd, setR_eq, true_and, if_true]
    split
    · rfl
    · rename_i h; rw [Array.getElem?_eq_none (by simpa using h)]
  · have : k ≠ d := fun e => h e.symm
    simp [h, setR_ne this]
def dstAt (l : List Oper) (k : Nat) : Option Nat := (nth l k).bind (·.dst)
/-- No fact speaks of another's slot, but of one that it waits for; the slots are the region's. -/
def okS (l : List Oper) (sp : List Fc) (ds : List Nat) : Bool :=
  (List.range l.length).all fun i => match nth l i with
    | none => true
    | some oi => match oi.dst with
      | none => true
      | some d => ds.contains d && (List.range l.length).all fun k => i == k || match nth l k, nth sp k with
        | some ok, some f => !(slotsOf (ok.dst.getD 0) f).contains d || deps ok i
        | _, _ => true
def JJ (W : World) (l : List Oper) (sp : List Fc) (base : Array Value) (ds : List Nat) (df : List Deferred) (L : Nat → Bool) (a : Act) (w : World) : Prop :=
  ∃ ρ own, a = ⟨mkA base ds ρ, df⟩ ∧ Grew W w ∧ ∀ k o f, nth l k = some o → nth sp k = some f → L k = true → f.holds W ρ own w (o.dst.getD 0)
section
variable {W w w' : World} {l : List Oper} {sp : List Fc} {base : Array Value} {ds : List Nat} {df : List Deferred} {L : Nat → Bool} {ρ : Nat → Value} {own own' : Nat → Nat}
theorem nth_lt {α : Type} : ∀ (l : List α) (i : Nat) (x : α), nth l i = some x → i < l.length
  | [], _, _, h => by cases h
  | _ :: _, 0, _, _ => by simp
  | _ :: l, i + 1, x, h => by have := nth_lt l i x h; simp; omega
theorem okS_spec (h : okS l sp ds = true) {i k : Nat} {oi ok : Oper} {f : Fc} {d : Nat} (hi : nth l i = some oi) (hd : oi.dst = some d) :
    d ∈ ds ∧ (i ≠ k → nth l k = some ok → nth sp k = some f → d ∈ slotsOf (ok.dst.getD 0) f → deps ok i = true) := by
  unfold okS at h
  rw [List.all_eq_true] at h
  have h1 := h i (by simpa using nth_lt _ _ _ hi)
  rw [hi] at h1
  simp only [hd, Bool.and_eq_true, List.all_eq_true, List.contains_iff_mem] at h1
  refine ⟨h1.1, fun hik hk hf hs => ?_⟩
  have h2 := h1.2 k (by simpa using nth_lt _ _ _ hk)
  rw [hk, hf] at h2
  simp only [Bool.or_eq_true, beq_iff_eq, Bool.not_eq_true'] at h2
  rcases h2 with h2 | h2 | h2
  · exact absurd h2 hik
  · rw [Bool.eq_false_iff] at h2; exact absurd (by simpa using hs) h2
  · exact h2
/-- The next fact, in a world that grew. -/
theorem JJ.next (hc : okS l sp ds = true) {i d : Nat} {o : Oper} {f : Fc} {v : Value} (hi : nth l i = some o) (hf : nth sp i = some f) (hd : o.dst = some d) 
    (hno : ∀ k ok, nth l k = some ok → deps ok i = true → L k = false) (hW : Grew W w)
    (hF : ∀ k o f, nth l k = some o → nth sp k = some f → L k = true → f.holds W ρ own w (o.dst.getD 0)) (hg : Grew w w') (ho : ∀ b, b < w.heap.size → own' b = own b)
    (hn : f.holds W (setR ρ d v) own' w' d) {t : Array Value} (ht : t = (mkA base ds ρ).setIfInBounds d v) : JJ W l sp base ds df (fun k => k == i || L k) ⟨t, df⟩ w' := by
  subst ht
  have hm := (okS_spec (k := 0) (ok := o) (f := f) hc hi hd).1
  refine ⟨setR ρ d v, own', by rw [mkA_set _ _ _ _ hm], hW.trans hg, fun k ok fk hk hfk hL => ?_⟩
  by_cases hki : k = i
  · subst hki
    rw [hi] at hk; rw [hf] at hfk
    cases hk; cases hfk
    rw [hd]; exact hn
  · have hLk : L k = true := by simpa [hki] using hL
    refine Fc.grew (hF k ok fk hk hfk hLk) hg ho fun s hs => setR_ne fun e => ?_
    subst e
    have := (okS_spec (ok := ok) (f := fk) hc hi hd).2 (fun e => hki e.symm) hk hfk hs
    rw [hno k ok hk this] at hLk; cases hLk
/-- A value. -/
theorem JJ.is (hc : okS l sp ds = true) {i d : Nat} {o : Oper} {v : Value} (hi : nth l i = some o) (hf : nth sp i = some (.is v)) (hd : o.dst = some d)
    (hno : ∀ k ok, nth l k = some ok → deps ok i = true → L k = false) (hW : Grew W w)
    (hF : ∀ k o f, nth l k = some o → nth sp k = some f → L k = true → f.holds W ρ own w (o.dst.getD 0)) {t : Array Value} (ht : t = (mkA base ds ρ).setIfInBounds d v) :
    JJ W l sp base ds df (fun k => k == i || L k) ⟨t, df⟩ w :=
  JJ.next hc hi hf hd hno hW hF (Grew.refl w) (fun _ _ => rfl) setR_eq ht
/-- A call that hands back a row of its own. -/
theorem JJ.row (hc : okS l sp ds = true) {i d : Nat} {o : Oper} {sh : Value → Value} {ws : List Nat} {g cap : Nat} (hi : nth l i = some o) (hf : nth sp i = some (.row sh ws)) (hd : o.dst = some d)
    (hno : ∀ k ok, nth l k = some ok → deps ok i = true → L k = false) (hW : Grew W w)
    (hF : ∀ k o f, nth l k = some o → nth sp k = some f → L k = true → f.holds W ρ own w (o.dst.getD 0)) (hg : Grew w w') (h1 : w.heap.size ≤ g) (h2 : FW w' g ws)
    {t : Array Value} (ht : t = (mkA base ds ρ).setIfInBounds d (sh (.slice (some ⟨g, 0, none⟩) ws.length cap))) :
    JJ W l sp base ds df (fun k => k == i || L k) ⟨t, df⟩ w' := by
  refine JJ.next (own' := fun b => if b < w.heap.size then own b else d) hc hi hf hd hno hW hF hg (fun b hb => by simp [hb]) ⟨g, cap, setR_eq, ?_, Nat.le_trans hW.below.size h1, h2⟩ ht
  have : ¬ g < w.heap.size := by omega
  simp [this]
/-- A new box. -/
theorem JJ.box (hc : okS l sp ds = true) {i d n : Nat} {o : Oper} {c : Array Value} {e : TypeId} (hi : nth l i = some o) (hf : nth sp i = some (.box n)) (hd : o.dst = some d)
    (hno : ∀ k ok, nth l k = some ok → deps ok i = true → L k = false) (hW : Grew W w)
    (hF : ∀ k o f, nth l k = some o → nth sp k = some f → L k = true → f.holds W ρ own w (o.dst.getD 0)) (hn : c.size = n)
    {t : Array Value} (ht : t = (mkA base ds ρ).setIfInBounds d (.pointer (some ⟨w.heap.size, 0, none⟩))) :
    JJ W l sp base ds df (fun k => k == i || L k) ⟨t, df⟩ (w.alloc (.cells c e)) := by
  refine JJ.next (own' := fun b => if b < w.heap.size then own b else d) hc hi hf hd hno hW hF ((Grew.refl w).alloc _) (fun b hb => by simp [hb]) ⟨w.heap.size, c, e, setR_eq, by simp, hW.below.size, ?_, hn⟩ ht
  show (w.heap.push _)[w.heap.size]? = _
  simp
def putFc (ok : Oper) (d' : Nat) : Fc → Bool
  | .put d2 c2 _ _ => d2 != d' && c2 != d'
  | .row _ _ => ok.dst.getD 0 != d'
  | _ => true
def putOk (l : List Oper) (sp : List Fc) (i d' : Nat) : Bool :=
  (List.range l.length).all fun k => i == k || match nth l k, nth sp k with
    | some ok, some f => putFc ok d' f
    | _, _ => true
/-- The store into a box of what a call handed back. -/
theorem JJ.put {i d' c n : Nat} {o : Oper} {cs : Value → Array Value} {ws : List Nat} (hi : nth l i = some o) (hf : nth sp i = some (.put d' c cs ws)) (hd : o.dst = none)
    (hp : putOk l sp i d' = true) (hne : c ≠ d') (hW : Grew W w)
    (hF : ∀ k o f, nth l k = some o → nth sp k = some f → L k = true → f.holds W ρ own w (o.dst.getD 0)) (hn : ∀ s, (cs s).size = n) (hbn : ∀ k ok m, nth l k = some ok → nth sp k = some (.box m) → ok.dst.getD 0 = d' → m = n)
    {p g cap : Nat} {c0 : Array Value} {e : TypeId} (h1 : ρ d' = .pointer (some ⟨p, 0, none⟩)) (h2 : own p = d') (h3 : W.heap.size ≤ p) (h4 : w.heap[p]? = some (.cells c0 e (0, 0))) (h6 : ownRow W own w c g ws)
    {t : Array Value} (ht : t = mkA base ds ρ) :
    JJ W l sp base ds df (fun k => k == i || L k) ⟨t, df⟩ (upd w p (cs (.slice (some ⟨g, 0, none⟩) ws.length cap))) := by
  subst ht
  refine ⟨ρ, own, rfl, hW.upd h3 _, fun k ok fk hk hfk hL => ?_⟩
  by_cases hki : k = i
  · subst hki
    rw [hi] at hk; rw [hf] at hfk
    cases hk; cases hfk
    refine ⟨p, g, cap, e, h1, h2, h3, block_upd h4, h6.1, h6.2.1, h6.2.2.upd_ne (fun hgp => ?_) _⟩
    subst hgp; rw [h6.1] at h2; exact hne h2
  · have hLk : L k = true := by simpa [hki] using hL
    have h := hF k ok fk hk hfk hLk
    have hpk : putFc ok d' fk = true := by
      unfold putOk at hp
      rw [List.all_eq_true] at hp
      have := hp k (by simpa using nth_lt _ _ _ hk)
      rw [hk, hfk] at this
      simp only [Bool.or_eq_true, beq_iff_eq] at this
      rcases this with h' | h'
      · exact absurd h'.symm hki
      · exact h'
    cases fk with
    | is v => exact h
    | any => trivial
    | box m =>
      obtain ⟨q, c1, e1, a1, a2, a3, a4, a5⟩ := h
      by_cases hq : q = p
      · subst hq
        rw [h2] at a2
        exact ⟨q, _, e1, a1, by rw [h2]; exact a2, a3, block_upd a4, by rw [hn]; exact (hbn k ok m hk hfk a2.symm).symm⟩
      · exact ⟨q, c1, e1, a1, a2, a3, by rw [block_upd_ne hq]; exact a4, a5⟩
    | row sh1 ws1 =>
      obtain ⟨g1, cap1, a1, a2, a3, a4⟩ := h
      refine ⟨g1, cap1, a1, a2, a3, a4.upd_ne (fun e => ?_) _⟩
      subst e; rw [h2] at a2; simp only [putFc, bne_iff_ne] at hpk; exact hpk a2.symm
    | put d2 c2 cs2 ws2 =>
      obtain ⟨q, g1, cap1, e1, a1, a2, a3, a4, b1, b2, b3⟩ := h
      simp only [putFc, Bool.and_eq_true, bne_iff_ne] at hpk
      refine ⟨q, g1, cap1, e1, a1, a2, a3, ?_, b1, b2, b3.upd_ne (fun e => ?_) _⟩
      · rw [block_upd_ne (fun e => ?_)]; · exact a4
        subst e; rw [h2] at a2; exact hpk.1 a2.symm
      · subst e; rw [h2] at b1; exact hpk.2 b1.symm
theorem JJ.start {a : Act} (hW : Grew W w) : JJ W l sp a.tmps ds a.defers (fun _ => false) a w :=
  ⟨fun k => a.tmps.getD k undef, fun _ => 0, by rw [mkA_self], hW, fun _ _ _ _ _ h => by cases h⟩
end
/-- The store of a whole value into a box. -/
theorem wp_store_box {P : Program} {op : Oper} {a : Act} {w : World} {K : Act → World → Prop} {Q : Exit → Act → World → Prop} (ty : TypeId) (x y : Operand) (ho : op.op = .store ty x y)
    {p : Nat} {c cells : Array Value} {e : TypeId} (hx : a.eval x = .pointer (some ⟨p, 0, none⟩)) (hy : a.eval y = .agg cells) (hb : w.heap[p]? = some (.cells c e (0, 0)))
    (hc : c.size = cells.size) (hi : (P.info? ty).map (·.size) = some cells.size) (h1 : cells.all (·.oneCell') = true)
    (h : K (a.put op.dst undef) (upd w p cells)) : op.wp P a w K Q := by
  unfold Oper.wp execOp
  simp only [ho, hx, hy, Instr.storeAt, Instr.sureAddr, Sem.run_bind, Sem.run_pure, Result.andThen_ok, run_storeVar_row w p e ty c cells hb hi hc h1]
  exact h
/-- Where an operation begins: the facts of what it waits for, and all else that the end wants. -/
structure St (W : World) (l : List Oper) (sp : List Fc) (L : Nat → Bool) (ρ : Nat → Value) (own : Nat → Nat) (w : World) (i : Nat) (o : Oper) : Prop where
  at' : nth l i = some o
  grew : Grew W w
  no : ∀ k ok, nth l k = some ok → deps ok i = true → L k = false
  all : ∀ k o f, nth l k = some o → nth sp k = some f → L k = true → f.holds W ρ own w (o.dst.getD 0)
  dep : ∀ e, deps o e = true → L e = true
def stepsS (P : Program) (Q : Exit → Act → World → Prop) (W : World) (l : List Oper) (sp : List Fc) (base : Array Value) (ds : List Nat) (df : List Deferred) : List Oper → Nat → Prop
  | [], _ => True
  | o :: r, i => (∀ L ρ own w, St W l sp L ρ own w i o → ∀ K : Act → World → Prop, (∀ a' w', JJ W l sp base ds df (fun k => k == i || L k) a' w' → K a' w') → o.wp P ⟨mkA base ds ρ, df⟩ w K Q) ∧ stepsS P Q W l sp base ds df r (i + 1)
theorem stepsJ_of {P : Program} {Q : Exit → Act → World → Prop} {W : World} {l : List Oper} {sp : List Fc} {base : Array Value} {ds : List Nat} {df : List Deferred} : ∀ (r : List Oper) (i : Nat), (∀ k o, nth r k = some o → nth l (i + k) = some o) →
    stepsS P Q W l sp base ds df r i → stepsJ P Q l (JJ W l sp base ds df) r i
  | [], _, _, _ => trivial
  | o :: r, i, hn, h => by
    refine ⟨fun L a w hi hdep hno hJ K hK => ?_, stepsJ_of r (i + 1) (fun k ok hk => by have := hn (k + 1) ok hk; rwa [show i + 1 + k = i + (k + 1) from by omega]) h.2⟩
    obtain ⟨ρ, own, rfl, hG, hF⟩ := hJ
    exact h.1 L ρ own w ⟨hn 0 o rfl, hG, hno, hF, hdep⟩ K hK
theorem wp_region_JJ {P : Program} {Q : Exit → Act → World → Prop} {id : Nat} {a : Act} {w : World} {l : List Oper} (W : World) (sp : List Fc) (ds : List Nat) (hm : P.follows .mixedOrders = true)
    (hok : okAt l 0 = true) (hW : Grew W w) (hs : stepsS P Q W l sp a.tmps ds a.defers l 0)
    (he : ∀ ρ own w', Grew W w' → (∀ k o f, nth l k = some o → nth sp k = some f → f.holds W ρ own w' (o.dst.getD 0)) → Q .normal ⟨mkA a.tmps ds ρ, a.defers⟩ w') : (Code.region id l.toArray true).wp P Q a w := by
  refine wp_region_J (JJ W l sp a.tmps ds a.defers) hm hok (JJ.start hW.drew) (stepsJ_of l 0 (fun k o h => by rw [Nat.zero_add]; exact h) hs) (fun L a' w' hL hJ => ?_)
  obtain ⟨ρ, own, rfl, hG, hF⟩ := hJ
  exact he ρ own w' hG fun k o f h1 h2 => hF k o f h1 h2 (hL k (nth_lt _ _ _ h1))
section
variable {W w w' : World} {l : List Oper} {sp : List Fc} {base : Array Value} {ds : List Nat} {df : List Deferred} {L : Nat → Bool} {ρ : Nat → Value} {own : Nat → Nat} {i : Nat} {o : Oper}
theorem St.fact (h : St W l sp L ρ own w i o) (k : Nat) {ok : Oper} {f : Fc} (h1 : nth l k = some ok) (h2 : nth sp k = some f) (h3 : deps o k = true) : f.holds W ρ own w (ok.dst.getD 0) := h.all k ok f h1 h2 (h.dep k h3)
theorem St.is (h : St W l sp L ρ own w i o) {d : Nat} {v : Value} (hf : nth sp i = some (.is v)) (hd : o.dst = some d) (hc : okS l sp ds = true) {w' : World} (hg : Grew w w') {t : Array Value} (ht : t = (mkA base ds ρ).setIfInBounds d v) :
    JJ W l sp base ds df (fun k => k == i || L k) ⟨t, df⟩ w' := JJ.next hc h.at' hf hd h.no h.grew h.all hg (fun _ _ => rfl) setR_eq ht
theorem St.row (h : St W l sp L ρ own w i o) {d : Nat} {sh : Value → Value} {ws : List Nat} {g cap : Nat} (hf : nth sp i = some (.row sh ws)) (hd : o.dst = some d) (hc : okS l sp ds = true)
    (hg : Grew w w') (h1 : w.heap.size ≤ g) (h2 : FW w' g ws) {t : Array Value} (ht : t = (mkA base ds ρ).setIfInBounds d (sh (.slice (some ⟨g, 0, none⟩) ws.length cap))) :
    JJ W l sp base ds df (fun k => k == i || L k) ⟨t, df⟩ w' := JJ.row hc h.at' hf hd h.no h.grew h.all hg h1 h2 ht
theorem St.box (h : St W l sp L ρ own w i o) {d n : Nat} {c : Array Value} {e : TypeId} (hf : nth sp i = some (.box n)) (hd : o.dst = some d) (hc : okS l sp ds = true)
    (hn : c.size = n) {t : Array Value} (ht : t = (mkA base ds ρ).setIfInBounds d (.pointer (some ⟨w.heap.size, 0, none⟩))) :
    JJ W l sp base ds df (fun k => k == i || L k) ⟨t, df⟩ (w.alloc (.cells c e)) := JJ.box hc h.at' hf hd h.no h.grew h.all hn ht
/-- The store, done. -/
theorem St.put {P : Program} {K : Act → World → Prop} {Q : Exit → Act → World → Prop} (h : St W l sp L ρ own w i o) {d' c n kb kr : Nat} {cs : Value → Array Value} {ws : List Nat} {ob or' : Oper}
    (hf : nth sp i = some (.put d' c cs ws)) (hd : o.dst = none) (hp : putOk l sp i d' = true) (hne : c ≠ d') (hn : ∀ s, (cs s).size = n)
    (hb1 : nth l kb = some ob) (hb2 : nth sp kb = some (.box n)) (hb3 : deps o kb = true) (hb4 : ob.dst = some d')
    (hr1 : nth l kr = some or') (hr2 : nth sp kr = some (.row (fun s => .agg (cs s)) ws)) (hr3 : deps o kr = true) (hr4 : or'.dst = some c)
    (hbn : (List.range l.length).all (fun k => match nth l k, nth sp k with | some ok, some (.box m) => ok.dst.getD 0 != d' || m == n | _, _ => true) = true)
    {ty : TypeId} {x y : Operand} (ho : o.op = .store ty x y) (hx : (⟨mkA base ds ρ, df⟩ : Act).eval x = ρ d') (hy : (⟨mkA base ds ρ, df⟩ : Act).eval y = ρ c)
    (hi : (P.info? ty).map (·.size) = some n) (h1 : ∀ a l c, (cs (.slice a l c)).all (·.oneCell') = true)
    (hK : ∀ a' w', JJ W l sp base ds df (fun k => k == i || L k) a' w' → K a' w') : o.wp P ⟨mkA base ds ρ, df⟩ w K Q := by
  have hb := h.fact kb hb1 hb2 hb3
  have hr := h.fact kr hr1 hr2 hr3
  rw [hb4] at hb; rw [hr4] at hr
  obtain ⟨p, c0, e, b1, b2, b3, b4, b5⟩ := hb
  obtain ⟨g, cap, r1, r2⟩ := hr
  simp only [Option.getD_some] at b1 b2 r1 r2
  refine wp_store_box ty x y ho (p := p) (hx.trans b1) (hy.trans r1) b4 (by rw [b5, hn]) (by rw [hn]; exact hi) (h1 _ _ _) (hK _ _ ?_)
  rw [hd]
  refine JJ.put h.at' hf hd hp hne h.grew h.all hn (fun k ok m hk hs hm => ?_) b1 b2 b3 b4 r2 rfl
  rw [List.all_eq_true] at hbn
  have := hbn k (by simpa using nth_lt _ _ _ hk)
  rw [hk, hs] at this
  simp only [Bool.or_eq_true, bne_iff_ne, beq_iff_eq] at this
  exact this.resolve_left (fun h => h hm)
end
section
variable {P : Program} {Q : Exit → Act → World → Prop} {W : World} {l : List Oper} {sp : List Fc} {base : Array Value} {ds : List Nat} {df : List Deferred}
theorem stepsS_nil {i : Nat} : stepsS P Q W l sp base ds df [] i := trivial
theorem stepsS_cons {o : Oper} {r : List Oper} {i j : Nat} (hj : i + 1 = j)
    (h : ∀ L ρ own w, St W l sp L ρ own w i o → ∀ K : Act → World → Prop, (∀ a' w', JJ W l sp base ds df (fun k => k == i || L k) a' w' → K a' w') → o.wp P ⟨mkA base ds ρ, df⟩ w K Q)
    (hr : stepsS P Q W l sp base ds df r j) : stepsS P Q W l sp base ds df (o :: r) i := by subst hj; exact ⟨h, hr⟩
theorem mkA_nil {base : Array Value} {ρ : Nat → Value} : mkA base [] ρ = base := rfl
theorem mkA_cons {base : Array Value} {ρ : Nat → Value} {d : Nat} {ds : List Nat} : mkA base (d :: ds) ρ = mkA (base.setIfInBounds d (ρ d)) ds ρ := rfl
attribute [irreducible] stepsS JJ mkA
end
end Sedge
end
section
/-
  The facts that last, in a region whose acts come in no fixed order, where calls may write blocks that stood before it: values, rows of floats of our own, boxes of them.
-/
set_option linter.unusedSimpArgs false
set_option linter.unusedVariables false
open Go Go.RowKit Sedge
namespace Go.Proofs.Ytcmggfpcbijcjaa
/-- What an operation leaves that lasts. -/
inductive Fm where
  | val (p : Value → Prop)
  | row (sh : Value → Value) (n : Nat) (p : Nat → List Nat → Prop)
  | box (n : Nat)
  | put (d : Nat) (cs : Value → Array Value) (n : Nat) (p : Nat → List Nat → Prop)
  | pair (cs : Value → Value → Array Value) (n1 n2 : Nat) (p1 p2 : Nat → List Nat → Prop)
  | any
/-- A row of our own, in no box of the region. -/
def rowK (B : List Nat) (W : World) (own : Nat → Nat) (w : World) (g n c : Nat) (p : Nat → List Nat → Prop) : Prop := W.heap.size ≤ g ∧ own g ∉ B ∧ ∃ L, FW w g L ∧ L.length = n ∧ p c L
def Fm.holds (B : List Nat) (W : World) (ρ : Nat → Value) (own : Nat → Nat) (w : World) (d : Nat) : Fm → Prop
  | .val p => p (ρ d)
  | .row sh n p => ∃ g c, ρ d = sh (.slice (some ⟨g, 0, none⟩) n c) ∧ rowK B W own w g n c p
  | .box n => ∃ p c e, ρ d = .pointer (some ⟨p, 0, none⟩) ∧ own p = d ∧ W.heap.size ≤ p ∧ w.heap[p]? = some (.cells c e (0, 0)) ∧ c.size = n
  | .put d' cs n pr => ∃ p g c e, ρ d' = .pointer (some ⟨p, 0, none⟩) ∧ own p = d' ∧ W.heap.size ≤ p ∧ w.heap[p]? = some (.cells (cs (.slice (some ⟨g, 0, none⟩) n c)) e (0, 0)) ∧ rowK B W own w g n c pr
  | .pair cs n1 n2 p1 p2 => ∃ q g1 c1 g2 c2 e, ρ d = .slice (some ⟨q, 0, none⟩) 2 2 ∧ W.heap.size ≤ q ∧ own q ∉ B ∧ w.heap[q]? = some (.cells (cs (.slice (some ⟨g1, 0, none⟩) n1 c1) (.slice (some ⟨g2, 0, none⟩) n2 c2)) e (0, 0)) ∧ rowK B W own w g1 n1 c1 p1 ∧ rowK B W own w g2 n2 c2 p2
  | .any => True
def slotsM (d : Nat) : Fm → List Nat
  | .put d' _ _ _ => [d']
  | .any => []
  | _ => [d]
/-- What the region made stands. -/
def Kept (W w w' : World) : Prop := w.heap.size ≤ w'.heap.size ∧ ∀ b, W.heap.size ≤ b → b < w.heap.size → w'.heap[b]? = w.heap[b]?
theorem Kept.grew {W w w' : World} (h : Grew w w') : Kept W w w' := ⟨h.below.size, fun b _ hb => h.below.block b hb⟩
theorem Kept.but {W w w' : World} {G : List Nat} (h : But w G w') (hG : ∀ k ∈ G, k < W.heap.size) : Kept W w w' :=
  ⟨h.size, fun b h1 h2 => h.block b h2 (fun hm => by have := hG b hm; omega)⟩
theorem rowK.kept {B : List Nat} {W w w' : World} {own own' : Nat → Nat} {g n c : Nat} {p : Nat → List Nat → Prop} (h : rowK B W own w g n c p) (hk : Kept W w w') (ho : ∀ b, b < w.heap.size → own' b = own b) : rowK B W own' w' g n c p := by
  obtain ⟨h1, h2, L, h3, h4, h5⟩ := h
  exact ⟨h1, by rw [ho g h3.lt]; exact h2, L, h3.same (hk.2 g h1 h3.lt), h4, h5⟩
theorem Fm.kept {B : List Nat} {W w w' : World} {ρ ρ' : Nat → Value} {own own' : Nat → Nat} {d : Nat} {f : Fm} (h : f.holds B W ρ own w d) (hk : Kept W w w') (ho : ∀ b, b < w.heap.size → own' b = own b)
    (hr : ∀ s ∈ slotsM d f, ρ' s = ρ s) : f.holds B W ρ' own' w' d := by
  cases f with
  | val p => show p (ρ' d); rw [hr d (by simp [slotsM])]; exact h
  | row sh n p =>
    obtain ⟨g, c, h1, h2⟩ := h
    exact ⟨g, c, (hr d (by simp [slotsM])).trans h1, h2.kept hk ho⟩
  | box n =>
    obtain ⟨p, c, e, h1, h2, h3, h4, h5⟩ := h
    exact ⟨p, c, e, (hr d (by simp [slotsM])).trans h1, by rw [ho p (some_lt h4)]; exact h2, h3, by rw [hk.2 p h3 (some_lt h4)]; exact h4, h5⟩
  | put d' cs n pr =>
    obtain ⟨p, g, c, e, h1, h2, h3, h4, h5⟩ := h
    exact ⟨p, g, c, e, (hr d' (by simp [slotsM])).trans h1, by rw [ho p (some_lt h4)]; exact h2, h3, by rw [hk.2 p h3 (some_lt h4)]; exact h4, h5.kept hk ho⟩
  | pair cs n1 n2 p1 p2 =>
    obtain ⟨q, g1, c1, g2, c2, e, h1, h2, h3, h4, h5, h6⟩ := h
    exact ⟨q, g1, c1, g2, c2, e, (hr d (by simp [slotsM])).trans h1, h2, by rw [ho q (some_lt h4)]; exact h3, by rw [hk.2 q h2 (some_lt h4)]; exact h4, h5.kept hk ho, h6.kept hk ho⟩
  | any => trivial
def isBoxM : Fm → Bool
  | .box _ => true
  | _ => false
def okM (B : List Nat) (l : List Oper) (sp : List Fm) (ds : List Nat) : Bool :=
  (List.range l.length).all fun i => match nth l i with
    | none => true
    | some oi => match oi.dst with
      | none => true
      | some d => ds.contains d && (match nth sp i with
          | some f => isBoxM f || !B.contains d
          | none => true) && (List.range l.length).all fun k => i == k || match nth l k, nth sp k with
        | some ok, some f => !(slotsM (ok.dst.getD 0) f).contains d || deps ok i
        | _, _ => true
/-- What holds throughout the region. -/
structure Thru (W : World) (I : World → Prop) : Prop where
  grew : ∀ w w', I w → Grew w w' → I w'
  upd : ∀ w p cs, W.heap.size ≤ p → I w → I (upd w p cs)
def JM (B : List Nat) (W : World) (I : World → Prop) (l : List Oper) (sp : List Fm) (base : Array Value) (ds : List Nat) (df : List Deferred) (L : Nat → Bool) (a : Act) (w : World) : Prop :=
  ∃ ρ own, a = ⟨mkA base ds ρ, df⟩ ∧ I w ∧ W.heap.size ≤ w.heap.size ∧ ∀ k o f, nth l k = some o → nth sp k = some f → L k = true → f.holds B W ρ own w (o.dst.getD 0)
structure Sm (B : List Nat) (W : World) (I : World → Prop) (l : List Oper) (sp : List Fm) (L : Nat → Bool) (ρ : Nat → Value) (own : Nat → Nat) (w : World) (i : Nat) (o : Oper) : Prop where
  at' : nth l i = some o
  thru : Thru W I
  inv : I w
  size : W.heap.size ≤ w.heap.size
  no : ∀ k ok, nth l k = some ok → deps ok i = true → L k = false
  all : ∀ k o f, nth l k = some o → nth sp k = some f → L k = true → f.holds B W ρ own w (o.dst.getD 0)
  dep : ∀ e, deps o e = true → L e = true
section
variable {B : List Nat} {W w w' : World} {I : World → Prop} {l : List Oper} {sp : List Fm} {base : Array Value} {ds : List Nat} {df : List Deferred} {L : Nat → Bool} {ρ : Nat → Value} {own own' : Nat → Nat} {i : Nat} {o : Oper}
theorem okM_spec (h : okM B l sp ds = true) {i k : Nat} {oi ok : Oper} {f : Fm} {d : Nat} (hi : nth l i = some oi) (hd : oi.dst = some d) :
    d ∈ ds ∧ (∀ g, nth sp i = some g → isBoxM g = false → d ∉ B) ∧ (i ≠ k → nth l k = some ok → nth sp k = some f → d ∈ slotsM (ok.dst.getD 0) f → deps ok i = true) := by
  unfold okM at h
  rw [List.all_eq_true] at h
  have h1 := h i (by simpa using nth_lt _ _ _ hi)
  rw [hi] at h1
  simp only [hd, Bool.and_eq_true, List.all_eq_true, List.contains_iff_mem] at h1
  refine ⟨h1.1.1, fun g hg hb => ?_, fun hik hk hf hs => ?_⟩
  · have h2 := h1.1.2
    rw [hg] at h2
    simp only [hb, Bool.false_or, Bool.not_eq_true', List.contains_eq_mem, decide_eq_false_iff_not] at h2
    exact h2
  · have h2 := h1.2 k (by simpa using nth_lt _ _ _ hk)
    rw [hk, hf] at h2
    simp only [Bool.or_eq_true, beq_iff_eq, Bool.not_eq_true'] at h2
    rcases h2 with h2 | h2 | h2
    · exact absurd h2 hik
    · rw [Bool.eq_false_iff] at h2; exact absurd (by simpa using hs) h2
    · exact h2
theorem Sm.next (h : Sm B W I l sp L ρ own w i o) (hc : okM B l sp ds = true) {d : Nat} {f : Fm} {v : Value} (hf : nth sp i = some f) (hd : o.dst = some d) (hg : Kept W w w') (hI : I w') (ho : ∀ b, b < w.heap.size → own' b = own b)
    (hn : f.holds B W (setR ρ d v) own' w' d) {t : Array Value} (ht : t = (mkA base ds ρ).setIfInBounds d v) : JM B W I l sp base ds df (fun k => k == i || L k) ⟨t, df⟩ w' := by
  subst ht
  have hm := (okM_spec (k := 0) (ok := o) (f := f) hc h.at' hd).1
  refine ⟨setR ρ d v, own', by rw [mkA_set _ _ _ _ hm], hI, Nat.le_trans h.size hg.1, fun k ok fk hk hfk hL => ?_⟩
  by_cases hki : k = i
  · subst hki
    rw [h.at'] at hk; rw [hf] at hfk
    cases hk; cases hfk
    rw [hd]; exact hn
  · have hLk : L k = true := by simpa [hki] using hL
    refine Fm.kept (h.all k ok fk hk hfk hLk) hg ho fun s hs => setR_ne fun e => ?_
    subst e
    have := (okM_spec (ok := ok) (f := fk) hc h.at' hd).2.2 (fun e => hki e.symm) hk hfk hs
    rw [h.no k ok hk this] at hLk; cases hLk
theorem Sm.fact (h : Sm B W I l sp L ρ own w i o) (k : Nat) {ok : Oper} {f : Fm} (h1 : nth l k = some ok) (h2 : nth sp k = some f) (h3 : deps o k = true) : f.holds B W ρ own w (ok.dst.getD 0) := h.all k ok f h1 h2 (h.dep k h3)
/-- A value. -/
theorem Sm.val (h : Sm B W I l sp L ρ own w i o) {d : Nat} {p : Value → Prop} {v : Value} (hf : nth sp i = some (.val p)) (hd : o.dst = some d) (hc : okM B l sp ds = true) (hg : Grew w w') (hp : p v) {t : Array Value} (ht : t = (mkA base ds ρ).setIfInBounds d v) :
    JM B W I l sp base ds df (fun k => k == i || L k) ⟨t, df⟩ w' := h.next hc hf hd (Kept.grew hg) (h.thru.grew _ _ h.inv hg) (fun _ _ => rfl) (by show p (setR ρ d v d); rw [setR_eq]; exact hp) ht
/-- A call that hands back a row of its own. -/
theorem Sm.row (h : Sm B W I l sp L ρ own w i o) {d : Nat} {sh : Value → Value} {n g c : Nat} {p : Nat → List Nat → Prop} {ws : List Nat} (hf : nth sp i = some (.row sh n p)) (hd : o.dst = some d) (hc : okM B l sp ds = true)
    (hg : Kept W w w') (hI : I w') (h1 : w.heap.size ≤ g) (h2 : FW w' g ws) (h3 : ws.length = n) (h4 : p c ws) {t : Array Value} (ht : t = (mkA base ds ρ).setIfInBounds d (sh (.slice (some ⟨g, 0, none⟩) n c))) :
    JM B W I l sp base ds df (fun k => k == i || L k) ⟨t, df⟩ w' := by
  have hdB := (okM_spec (k := 0) (ok := o) (f := .any) hc h.at' hd).2.1 _ hf rfl
  refine h.next (own' := fun b => if b < w.heap.size then own b else d) hc hf hd hg hI (fun b hb => by simp [hb]) ⟨g, c, setR_eq, Nat.le_trans h.size h1, ?_, ws, h2, h3, h4⟩ ht
  have : ¬ g < w.heap.size := by omega
  simp only [this, if_false]; exact hdB
/-- A row that stands, handed on. -/
theorem Sm.copy (h : Sm B W I l sp L ρ own w i o) {d : Nat} {sh : Value → Value} {n g c : Nat} {p : Nat → List Nat → Prop} (hf : nth sp i = some (.row sh n p)) (hd : o.dst = some d) (hc : okM B l sp ds = true)
    (hg : Grew w w') (hr : rowK B W own w g n c p) {t : Array Value} (ht : t = (mkA base ds ρ).setIfInBounds d (sh (.slice (some ⟨g, 0, none⟩) n c))) :
    JM B W I l sp base ds df (fun k => k == i || L k) ⟨t, df⟩ w' :=
  h.next hc hf hd (Kept.grew hg) (h.thru.grew _ _ h.inv hg) (fun _ _ => rfl) ⟨g, c, setR_eq, hr.kept (Kept.grew hg) (fun _ _ => rfl)⟩ ht
/-- A list of two of them. -/
theorem Sm.pair (h : Sm B W I l sp L ρ own w i o) {d : Nat} {cs : Value → Value → Array Value} {n1 n2 g1 c1 g2 c2 : Nat} {p1 p2 : Nat → List Nat → Prop} {e : TypeId} (hf : nth sp i = some (.pair cs n1 n2 p1 p2)) (hd : o.dst = some d) (hc : okM B l sp ds = true)
    (h1 : rowK B W own w g1 n1 c1 p1) (h2 : rowK B W own w g2 n2 c2 p2) {t : Array Value} (ht : t = (mkA base ds ρ).setIfInBounds d (.slice (some ⟨w.heap.size, 0, none⟩) 2 2)) :
    JM B W I l sp base ds df (fun k => k == i || L k) ⟨t, df⟩ (w.alloc (.cells (cs (.slice (some ⟨g1, 0, none⟩) n1 c1) (.slice (some ⟨g2, 0, none⟩) n2 c2)) e)) := by
  have hdB := (okM_spec (k := 0) (ok := o) (f := .any) hc h.at' hd).2.1 _ hf rfl
  have hg : Grew w (w.alloc (.cells (cs (.slice (some ⟨g1, 0, none⟩) n1 c1) (.slice (some ⟨g2, 0, none⟩) n2 c2)) e)) := (Grew.refl w).alloc _
  have ho : ∀ b, b < w.heap.size → (fun b => if b < w.heap.size then own b else d) b = own b := fun b hb => by simp [hb]
  refine h.next (own' := fun b => if b < w.heap.size then own b else d) hc hf hd (Kept.grew hg) (h.thru.grew _ _ h.inv hg) ho ⟨w.heap.size, g1, c1, g2, c2, e, setR_eq, h.size, ?_, ?_, h1.kept (Kept.grew hg) ho, h2.kept (Kept.grew hg) ho⟩ ht
  · simp only [Nat.lt_irrefl, if_false]; exact hdB
  · show (w.heap.push _)[w.heap.size]? = _
    simp
/-- A new box. -/
theorem Sm.box (h : Sm B W I l sp L ρ own w i o) {d n : Nat} {c : Array Value} {e : TypeId} (hf : nth sp i = some (.box n)) (hd : o.dst = some d) (hc : okM B l sp ds = true)
    (hn : c.size = n) {t : Array Value} (ht : t = (mkA base ds ρ).setIfInBounds d (.pointer (some ⟨w.heap.size, 0, none⟩))) :
    JM B W I l sp base ds df (fun k => k == i || L k) ⟨t, df⟩ (w.alloc (.cells c e)) := by
  have hg : Grew w (w.alloc (.cells c e)) := (Grew.refl w).alloc _
  refine h.next (own' := fun b => if b < w.heap.size then own b else d) hc hf hd (Kept.grew hg) (h.thru.grew _ _ h.inv hg) (fun b hb => by simp [hb]) ⟨w.heap.size, c, e, setR_eq, by simp, h.size, ?_, hn⟩ ht
  show (w.heap.push _)[w.heap.size]? = _
  simp
/-- Each store has a box of its own. -/
def putM (l : List Oper) (sp : List Fm) (i d' n : Nat) : Bool :=
  (List.range l.length).all fun k => i == k || match nth l k, nth sp k with
    | _, some (.put d2 _ _ _) => d2 != d'
    | some ok, some (.box m) => ok.dst.getD 0 != d' || m == n
    | _, _ => true
/-- The store of a row's value into its box. -/
theorem Sm.put {P : Program} {K : Act → World → Prop} {Q : Exit → Act → World → Prop} (h : Sm B W I l sp L ρ own w i o) {d' c n m kb kr : Nat} {sh : Value → Value} {cs : Value → Array Value} {pr : Nat → List Nat → Prop} {ob or' : Oper}
    (hf : nth sp i = some (.put d' cs n pr)) (hd : o.dst = none) (hp : putM l sp i d' m = true) (hB : d' ∈ B) (hn : ∀ s, (cs s).size = m)
    (hb1 : nth l kb = some ob) (hb2 : nth sp kb = some (.box m)) (hb3 : deps o kb = true) (hb4 : ob.dst = some d')
    (hr1 : nth l kr = some or') (hr2 : nth sp kr = some (.row sh n pr)) (hr3 : deps o kr = true) (hr4 : or'.dst = some c) (hsh : ∀ s, sh s = .agg (cs s))
    {ty : TypeId} {x y : Operand} (ho : o.op = .store ty x y) (hx : (⟨mkA base ds ρ, df⟩ : Act).eval x = ρ d') (hy : (⟨mkA base ds ρ, df⟩ : Act).eval y = ρ c)
    (hi' : (P.info? ty).map (·.size) = some m) (h1 : ∀ a l c, (cs (.slice a l c)).all (·.oneCell') = true)
    (hK : ∀ a' w', JM B W I l sp base ds df (fun k => k == i || L k) a' w' → K a' w') : o.wp P ⟨mkA base ds ρ, df⟩ w K Q := by
  have hb := h.fact kb hb1 hb2 hb3
  have hr := h.fact kr hr1 hr2 hr3
  rw [hb4] at hb; rw [hr4] at hr
  obtain ⟨p, c0, e, b1, b2, b3, b4, b5⟩ := hb
  obtain ⟨g, cp, r1, r2⟩ := hr
  simp only [Option.getD_some] at b1 b2 r1 r2
  have hne : ∀ b, own b ∉ B → b ≠ p := fun b hb e => by subst e; rw [b2] at hb; exact hb hB
  have hrow : ∀ g n c q, rowK B W own w g n c q → ∀ cs', rowK B W own (upd w p cs') g n c q := fun g n c q hq cs' => by
    obtain ⟨q1, q2, L, q3, q4, q5⟩ := hq
    exact ⟨q1, q2, L, q3.upd_ne (hne g q2) _, q4, q5⟩
  refine wp_store_box ty x y ho (p := p) (cells := cs (.slice (some ⟨g, 0, none⟩) n cp)) (hx.trans b1) (by rw [hy, r1, hsh]) b4 (by rw [b5, hn]) (by rw [hn]; exact hi') (h1 _ _ _) (hK _ _ ?_)
  rw [hd]
  refine ⟨ρ, own, rfl, h.thru.upd _ _ _ b3 h.inv, by rw [size_upd]; exact h.size, fun k ok fk hk hfk hL => ?_⟩
  by_cases hki : k = i
  · subst hki
    rw [h.at'] at hk; rw [hf] at hfk
    cases hk; cases hfk
    exact ⟨p, g, cp, e, b1, b2, b3, block_upd b4, hrow _ _ _ _ r2 _⟩
  · have hLk : L k = true := by simpa [hki] using hL
    have hh := h.all k ok fk hk hfk hLk
    have hpk := hp
    unfold putM at hpk
    rw [List.all_eq_true] at hpk
    have hpk := hpk k (by simpa using nth_lt _ _ _ hk)
    rw [hk, hfk] at hpk
    cases fk with
    | val pr => exact hh
    | any => trivial
    | pair cs2 n1 n2 p1 p2 =>
      obtain ⟨r, ga, ca, gb, cb, e1, a1, a2, a3, a4, a5, a6⟩ := hh
      exact ⟨r, ga, ca, gb, cb, e1, a1, a2, a3, by rw [block_upd_ne (hne r a3)]; exact a4, hrow _ _ _ _ a5 _, hrow _ _ _ _ a6 _⟩
    | row sh2 n2 p2 =>
      obtain ⟨g2, c2, a1, a2⟩ := hh
      exact ⟨g2, c2, a1, hrow _ _ _ _ a2 _⟩
    | box n2 =>
      obtain ⟨r, c1, e1, a1, a2, a3, a4, a5⟩ := hh
      by_cases hr : r = p
      · subst hr
        have hm : n2 = m := by
          simp only [Bool.or_eq_true, beq_iff_eq, bne_iff_ne] at hpk
          rcases hpk with h' | h' | h'
          · exact absurd h'.symm hki
          · exact absurd (a2.symm.trans b2) h'
          · exact h'
        exact ⟨r, _, e1, a1, a2, a3, block_upd a4, by rw [hn, hm]⟩
      · exact ⟨r, c1, e1, a1, a2, a3, by rw [block_upd_ne hr]; exact a4, a5⟩
    | put d2 cs2 n2 p2 =>
      obtain ⟨r, g2, c2, e1, a1, a2, a3, a4, a5⟩ := hh
      have hd2 : d2 ≠ d' := by
        simp only [Bool.or_eq_true, beq_iff_eq, bne_iff_ne] at hpk
        rcases hpk with h' | h'
        · exact absurd h'.symm hki
        · exact h'
      have hr : r ≠ p := fun e => by subst e; rw [a2] at b2; exact hd2 b2
      exact ⟨r, g2, c2, e1, a1, a2, a3, by rw [block_upd_ne hr]; exact a4, hrow _ _ _ _ a5 _⟩
end
def stepsM (P : Program) (Q : Exit → Act → World → Prop) (B : List Nat) (W : World) (I : World → Prop) (l : List Oper) (sp : List Fm) (base : Array Value) (ds : List Nat) (df : List Deferred) : List Oper → Nat → Prop
  | [], _ => True
  | o :: r, i => (∀ L ρ own w, Sm B W I l sp L ρ own w i o → ∀ K : Act → World → Prop, (∀ a' w', JM B W I l sp base ds df (fun k => k == i || L k) a' w' → K a' w') → o.wp P ⟨mkA base ds ρ, df⟩ w K Q) ∧ stepsM P Q B W I l sp base ds df r (i + 1)
section
variable {P : Program} {Q : Exit → Act → World → Prop} {B : List Nat} {W : World} {I : World → Prop} {l : List Oper} {sp : List Fm} {base : Array Value} {ds : List Nat} {df : List Deferred}
theorem stepsM_of (ht : Thru W I) : ∀ (r : List Oper) (i : Nat), (∀ k o, nth r k = some o → nth l (i + k) = some o) →
    stepsM P Q B W I l sp base ds df r i → stepsJ P Q l (JM B W I l sp base ds df) r i
  | [], _, _, _ => trivial
  | o :: r, i, hn, h => by
    refine ⟨fun L a w hi hdep hno hJ K hK => ?_, stepsM_of ht r (i + 1) (fun k ok hk => by have := hn (k + 1) ok hk; rwa [show i + 1 + k = i + (k + 1) from by omega]) h.2⟩
    obtain ⟨ρ, own, rfl, hI, hz, hF⟩ := hJ
    exact h.1 L ρ own w ⟨hn 0 o rfl, ht, hI, hz, hno, hF, hdep⟩ K hK
theorem wp_region_JM {id : Nat} {a : Act} {w : World} (B : List Nat) (W : World) (I : World → Prop) (sp : List Fm) (ds : List Nat) (ht : Thru W I) (hm : P.follows .mixedOrders = true)
    (hok : okAt l 0 = true) (hI : I w) (hW : Grew W w) (hs : stepsM P Q B W I l sp a.tmps ds a.defers l 0)
    (he : ∀ ρ own w', I w' → W.heap.size ≤ w'.heap.size → (∀ k o f, nth l k = some o → nth sp k = some f → f.holds B W ρ own w' (o.dst.getD 0)) → Q .normal ⟨mkA a.tmps ds ρ, a.defers⟩ w') : (Code.region id l.toArray true).wp P Q a w := by
  refine wp_region_J (JM B W I l sp a.tmps ds a.defers) hm hok ⟨fun k => a.tmps.getD k undef, fun _ => 0, by rw [mkA_self], ht.grew _ _ hI ((Grew.refl w).drew), hW.drew.below.size, fun _ _ _ _ _ h => by cases h⟩ (stepsM_of ht l 0 (fun k o h => by rw [Nat.zero_add]; exact h) hs) (fun L a' w' hL hJ => ?_)
  obtain ⟨ρ, own, rfl, hI', hz, hF⟩ := hJ
  exact he ρ own w' hI' hz fun k o f h1 h2 => hF k o f h1 h2 (hL k (nth_lt _ _ _ h1))
theorem stepsM_nil {i : Nat} : stepsM P Q B W I l sp base ds df [] i := trivial
theorem stepsM_cons {o : Oper} {r : List Oper} {i j : Nat} (hj : i + 1 = j)
    (h : ∀ L ρ own w, Sm B W I l sp L ρ own w i o → ∀ K : Act → World → Prop, (∀ a' w', JM B W I l sp base ds df (fun k => k == i || L k) a' w' → K a' w') → o.wp P ⟨mkA base ds ρ, df⟩ w K Q)
    (hr : stepsM P Q B W I l sp base ds df r j) : stepsM P Q B W I l sp base ds df (o :: r) i := by subst hj; exact ⟨h, hr⟩
attribute [irreducible] stepsM JM
end
/-- A region that only grows the world. -/
theorem boxOf {w : World} {p : Nat} {cs : Array Value} {e : TypeId} (h : w.heap[p]? = some (.cells cs e (0, 0))) : Box w p cs := ⟨e, h⟩
theorem Thru.grewW (W : World) : Thru W (Grew W) := ⟨fun _ _ h g => h.trans g, fun _ _ cs hp h => h.upd hp cs⟩
end Go.Proofs.Ytcmggfpcbijcjaa
end
