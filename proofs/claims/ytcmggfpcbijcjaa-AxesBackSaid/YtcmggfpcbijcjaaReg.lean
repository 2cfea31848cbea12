/-
  A region that draws its order, walked in one order of our own: what is the same in every world of a class is taken first; what acts comes up alone.
-/
import Derived.OrdersHeld
import Derived.Test.YtcmggfpcbijcjaaMem
set_option linter.unusedSimpArgs false
set_option linter.unusedVariables false
namespace Sedge
open Go Go.RowKit

section
variable {P : Program} {ops : Array Oper} {Q : Exit → Act → World → Prop} {md : Region.Mode} {S : World → Prop} {tail : Nat → Bool}

/-- Whatever order is picked from here on; behind all that is not of the tail, S holds. -/
def AnyT (P : Program) (md : Region.Mode) (ops : Array Oper) (Q : Exit → Act → World → Prop) (S : World → Prop) (tail : Nat → Bool) : Nat → Array Bool → Act → World → Prop
  | 0, listed, a, w => Region.ready md ops listed = [] ∧ Q .normal a w
  | fuel + 1, listed, a, w =>
    (Region.ready md ops listed = [] → Q .normal a w) ∧
    ∀ i ∈ Region.ready md ops listed, wpOp P ops Q i (fun a' w' => (tail i = false → S w → S w') ∧ AnyT P md ops Q S tail fuel (listed.setIfInBounds i true) a' w') a w

theorem any_of_anyT : ∀ (fuel : Nat) (listed : Array Bool) (a : Act) (w : World), AnyT P md ops Q S tail fuel listed a w → wpAny P md ops Q fuel listed a w
  | 0, _, _, _, h => h
  | fuel + 1, _, _, _, h => ⟨h.1, fun i hi => wpOp_mono (fun a' w' h' => any_of_anyT fuel _ a' w' h'.2) (h.2 i hi)⟩

/-- What is the same in every world of the class may come first, where the tail waits for it. -/
theorem anyT_first {i : Nat} {oi : Oper} {v : Value} (hi : ops[i]? = some oi) (hsel : Region.noSelect ops = true)
    (hQ : ∀ c a d v w, Q (.panic c) (Act.put a d v) w → Q (.panic c) a w) (hti : tail i = false)
    (htl : ∀ j oj, ops[j]? = some oj → tail j = true → ∃ e ∈ oj.after, Region.binds md e = true ∧ e.on = i) :
    ∀ (fuel : Nat) (listed : Array Bool) (a : Act) (w : World),
      (∀ j oj, ops[j]? = some oj → j ≠ i → listed.getD j true = false → (∀ e ∈ oj.after, Region.binds md e = true → e.on ≠ i) → oi.apart ops oj = true) →
      i ∈ Region.ready md ops listed → YieldsIf P ops S oi v a → S w →
      AnyT P md ops Q S tail fuel (listed.setIfInBounds i true) (a.put oi.dst v) w → AnyT P md ops Q S tail (fuel + 1) listed a w := by
  intro fuel
  induction fuel with
  | zero =>
    intro listed a w _ hr hy hS H
    refine ⟨fun h => (by rw [h] at hr; cases hr), fun j hj => ?_⟩
    by_cases hji : j = i
    · subst hji; exact hy.wpOp hi hS ⟨fun _ h => h, H⟩
    · have := ready_mono hj hji
      rw [H.1] at this
      cases this
  | succ fuel ih =>
    intro listed a w hfree hr hy hS H
    refine ⟨fun h => (by rw [h] at hr; cases hr), fun j hj => ?_⟩
    by_cases hji : j = i
    · subst hji; exact hy.wpOp hi hS ⟨fun _ h => h, H⟩
    · have h1 := H.2 j (ready_mono hj hji)
      obtain ⟨hjun, oj, hoj, hall⟩ := mem_ready.1 hj
      have hnot : ∀ e ∈ oj.after, Region.binds md e = true → e.on ≠ i := fun e he hb heq => by
        have h1 := hall e he hb
        have h0 := (mem_ready.1 hr).1
        rw [heq] at h1
        rcases Nat.lt_or_ge i listed.size with h' | h'
        · simp [h'] at h0 h1; rw [h0] at h1; cases h1
        · simp [Array.getElem?_eq_none h'] at h1
      have htj : tail j = false := by
        cases hT : tail j
        · rfl
        · obtain ⟨e, he, hb, heq⟩ := htl j oj hoj hT
          exact absurd heq (hnot e he hb)
      have h2 := wpOp_putIf hoj (hfree j oj hoj hji hjun hnot) (fun cs b => Region.noSelect_spec hsel i oi cs b hi) (fun cs b => Region.noSelect_spec hsel j oj cs b hoj) (fun c a w => hQ c a _ _ w) hy h1
      have hfree' : ∀ k ok, ops[k]? = some ok → k ≠ i → (listed.setIfInBounds j true).getD k true = false →
          (∀ e ∈ ok.after, Region.binds md e = true → e.on ≠ i) → oi.apart ops ok = true := fun k ok hk hki hun hno => by
        refine hfree k ok hk hki ?_ hno
        by_cases hjk : j = k
        · subst hjk; exact hjun
        · rw [getD_set_ne true hjk] at hun; exact hun
      refine wpOp_mono (fun a' w' h3 => ?_) h2
      have hS' : S w' := h3.2.1 htj hS
      refine ⟨fun _ _ => hS', ih (listed.setIfInBounds j true) a' w' hfree' (ready_mono hr (Ne.symm hji)) h3.1 hS' ?_⟩
      rw [Array.setIfInBounds_comm _ _ hji]
      exact h3.2.2

/-- What is the same in every world may come first. -/
theorem anyT_pure {i : Nat} {oi : Oper} {v : Value} (hi : ops[i]? = some oi) (hsel : Region.noSelect ops = true)
    (hQ : ∀ c a d v w, Q (.panic c) (Act.put a d v) w → Q (.panic c) a w) :
    ∀ (fuel : Nat) (listed : Array Bool) (a : Act) (w : World),
      (∀ j oj, ops[j]? = some oj → j ≠ i → listed.getD j true = false → (∀ e ∈ oj.after, Region.binds md e = true → e.on ≠ i) → oi.apart ops oj = true) →
      i ∈ Region.ready md ops listed → YieldsIf P ops (fun _ => True) oi v a →
      AnyT P md ops Q S tail fuel (listed.setIfInBounds i true) (a.put oi.dst v) w → AnyT P md ops Q S tail (fuel + 1) listed a w := by
  intro fuel
  induction fuel with
  | zero =>
    intro listed a w _ hr hy H
    refine ⟨fun h => (by rw [h] at hr; cases hr), fun j hj => ?_⟩
    by_cases hji : j = i
    · subst hji; exact hy.wpOp hi trivial ⟨fun _ h => h, H⟩
    · have := ready_mono hj hji
      rw [H.1] at this
      cases this
  | succ fuel ih =>
    intro listed a w hfree hr hy H
    refine ⟨fun h => (by rw [h] at hr; cases hr), fun j hj => ?_⟩
    by_cases hji : j = i
    · subst hji; exact hy.wpOp hi trivial ⟨fun _ h => h, H⟩
    · have h1 := H.2 j (ready_mono hj hji)
      obtain ⟨hjun, oj, hoj, hall⟩ := mem_ready.1 hj
      have hnot : ∀ e ∈ oj.after, Region.binds md e = true → e.on ≠ i := fun e he hb heq => by
        have h1 := hall e he hb
        have h0 := (mem_ready.1 hr).1
        rw [heq] at h1
        rcases Nat.lt_or_ge i listed.size with h' | h'
        · simp [h'] at h0 h1; rw [h0] at h1; cases h1
        · simp [Array.getElem?_eq_none h'] at h1
      have h2 := wpOp_putIf hoj (hfree j oj hoj hji hjun hnot) (fun cs b => Region.noSelect_spec hsel i oi cs b hi) (fun cs b => Region.noSelect_spec hsel j oj cs b hoj) (fun c a w => hQ c a _ _ w) hy h1
      have hfree' : ∀ k ok, ops[k]? = some ok → k ≠ i → (listed.setIfInBounds j true).getD k true = false →
          (∀ e ∈ ok.after, Region.binds md e = true → e.on ≠ i) → oi.apart ops ok = true := fun k ok hk hki hun hno => by
        refine hfree k ok hk hki ?_ hno
        by_cases hjk : j = k
        · subst hjk; exact hjun
        · rw [getD_set_ne true hjk] at hun; exact hun
      refine wpOp_mono (fun a' w' h3 => ?_) h2
      refine ⟨h3.2.1, ih (listed.setIfInBounds j true) a' w' hfree' (ready_mono hr (Ne.symm hji)) h3.1 ?_⟩
      rw [Array.setIfInBounds_comm _ _ hji]
      exact h3.2.2

/-- One order: kinds 0 (the same in every world of the class), 1 (it acts; the class holds behind it), 2 (the tail). -/
def wpR (P : Program) (ops : Array Oper) (Q : Exit → Act → World → Prop) (S : World → Prop) : List (Nat × Nat) → Act → World → Prop
  | [], a, w => Q .normal a w
  | (k, i) :: r, a, w =>
    match ops[i]? with
    | none => False
    | some o =>
      if Region.wanted o (yielded ops a.tmps) = true then
        match k with
        | 0 => ∃ v, (∀ w', S w' → (execOp a.eval o).run P w' = .ok (.value v) w') ∧ wpR P ops Q S r (a.put o.dst v) w
        | 1 => o.wp P a w (fun a' w' => S w' ∧ wpR P ops Q S r a' w') Q ∨ (o.asks P a w ∧ LetsOut Q)
        | 3 => ∃ v, (∀ w', (execOp a.eval o).run P w' = .ok (.value v) w') ∧ wpR P ops Q S r (a.put o.dst v) w
        | _ => o.wp P a w (wpR P ops Q S r) Q ∨ (o.asks P a w ∧ LetsOut Q)
      else wpR P ops Q S r (a.put o.dst undef) w

def tailOf (l : List (Nat × Nat)) (i : Nat) : Bool := l.any fun x => x.1 == 2 && x.2 == i

/-- Does number j wait for number i? -/
def waits (ops : Array Oper) (j i : Nat) : Bool := match ops[j]? with
  | some oj => oj.after.any fun e => Region.binds .any e && e.on == i
  | none => false

def okR (ops : Array Oper) (tails : List Nat) : List (Nat × Nat) → Array Bool → Bool
  | [], listed => (Region.ready .any ops listed).isEmpty
  | (k, i) :: r, listed =>
    (match k with
      | 0 => (Region.ready .any ops listed).contains i && Region.free .any ops listed i && tails.all (waits ops · i) && !tails.contains i
      | 1 => Region.ready .any ops listed == [i] && !tails.contains i
      | 2 => Region.ready .any ops listed == [i] && tails.contains i && r.all (fun x => x.1 == 2 || x.1 == 3)
      | 3 => (Region.ready .any ops listed).contains i && Region.free .any ops listed i
      | _ => false) && okR ops tails r (listed.setIfInBounds i true)

theorem anyT_of_wpR {tails : List Nat} (hsel : Region.noSelect ops = true) (hQ : ∀ c a d v w, Q (.panic c) (Act.put a d v) w → Q (.panic c) a w) :
    ∀ (l : List (Nat × Nat)) (listed : Array Bool) (a : Act) (w : World), okR ops tails l listed = true → ((∃ x ∈ l, x.1 ≤ 1) → S w) → wpR P ops Q S l a w →
      AnyT P .any ops Q S (fun i => tails.contains i) l.length listed a w
  | [], listed, a, w, hok, _, h => ⟨by simpa [okR] using hok, h⟩
  | (k, i) :: r, listed, a, w, hok, hS, h => by
    simp only [okR, Bool.and_eq_true] at hok
    obtain ⟨hk, hr⟩ := hok
    unfold wpR at h
    cases ho : ops[i]? with
    | none => rw [ho] at h; exact h.elim
    | some o =>
      rw [ho] at h
      simp only at h
      match k, hk, h with
      | 0, hk, h =>
        simp only [Bool.and_eq_true, List.all_eq_true, Bool.not_eq_true'] at hk
        obtain ⟨⟨⟨h1, h2⟩, h3⟩, h4⟩ := hk
        have hSw : S w := hS ⟨_, List.mem_cons_self, by simp⟩
        have htl : ∀ j oj, ops[j]? = some oj → tails.contains j = true → ∃ e ∈ oj.after, Region.binds .any e = true ∧ e.on = i := fun j oj hj ht => by
          have := h3 j (by simpa using ht)
          unfold waits at this
          rw [hj] at this
          simp only [Array.any_eq_true] at this
          obtain ⟨n, hn, he⟩ := this
          simp only [Bool.and_eq_true, beq_iff_eq] at he
          exact ⟨oj.after[n], Array.getElem_mem hn, he.1, he.2⟩
        by_cases hw : Region.wanted o (yielded ops a.tmps) = true
        · rw [if_pos hw] at h
          obtain ⟨v, hv, hn⟩ := h
          exact anyT_first (tail := fun i => tails.contains i) ho hsel hQ h4 htl r.length listed a w (Region.free_spec ho h2) (by simpa using h1) (.inl ⟨hw, hv⟩) hSw
            (anyT_of_wpR hsel hQ r _ _ _ hr (fun ⟨x, hx, hx1⟩ => hS ⟨x, List.mem_cons_of_mem _ hx, hx1⟩) hn)
        · rw [if_neg hw] at h
          exact anyT_first (tail := fun i => tails.contains i) ho hsel hQ h4 htl r.length listed a w (Region.free_spec ho h2) (by simpa using h1) (.inr ⟨by simpa using hw, rfl⟩) hSw
            (anyT_of_wpR hsel hQ r _ _ _ hr (fun ⟨x, hx, hx1⟩ => hS ⟨x, List.mem_cons_of_mem _ hx, hx1⟩) h)
      | 1, hk, h =>
        simp only [Bool.and_eq_true, beq_iff_eq, Bool.not_eq_true'] at hk
        obtain ⟨h1, h4⟩ := hk
        show AnyT P .any ops Q S _ (r.length + 1) listed a w
        refine ⟨fun h0 => (by rw [h1] at h0; cases h0), fun j hj => ?_⟩
        rw [h1] at hj
        have hji : j = i := by simpa using hj
        subst hji
        unfold wpOp
        rw [ho]
        simp only
        by_cases hw : Region.wanted o (yielded ops a.tmps) = true
        · rw [if_pos hw] at h ⊢
          exact h.imp (Oper.wp_mono fun a' w' h' => ⟨fun _ _ => h'.1, anyT_of_wpR hsel hQ r _ _ _ hr (fun _ => h'.1) h'.2⟩) id
        · rw [if_neg hw] at h ⊢
          have hSw : S w := hS ⟨_, List.mem_cons_self, by simp⟩
          exact ⟨fun _ _ => hSw, anyT_of_wpR hsel hQ r _ _ _ hr (fun _ => hSw) h⟩
      | 2, hk, h =>
        simp only [Bool.and_eq_true, beq_iff_eq, List.all_eq_true] at hk
        obtain ⟨⟨h1, h4⟩, h5⟩ := hk
        have hno : ∀ w', (∃ x ∈ r, x.1 ≤ 1) → S w' := fun w' ⟨x, hx, hx1⟩ => by have := h5 x hx; simp at this; omega
        show AnyT P .any ops Q S _ (r.length + 1) listed a w
        refine ⟨fun h0 => (by rw [h1] at h0; cases h0), fun j hj => ?_⟩
        rw [h1] at hj
        have hji : j = i := by simpa using hj
        subst hji
        unfold wpOp
        rw [ho]
        simp only
        by_cases hw : Region.wanted o (yielded ops a.tmps) = true
        · rw [if_pos hw] at h ⊢
          exact h.imp (Oper.wp_mono fun a' w' h' => ⟨fun hf => (by rw [h4] at hf; cases hf), anyT_of_wpR hsel hQ r _ _ _ hr (hno w') h'⟩) id
        · rw [if_neg hw] at h ⊢
          exact ⟨fun hf => (by rw [h4] at hf; cases hf), anyT_of_wpR hsel hQ r _ _ _ hr (hno w) h⟩
      | 3, hk, h =>
        simp only [Bool.and_eq_true] at hk
        obtain ⟨h1, h2⟩ := hk
        by_cases hw : Region.wanted o (yielded ops a.tmps) = true
        · rw [if_pos hw] at h
          obtain ⟨v, hv, hn⟩ := h
          exact anyT_pure (tail := fun i => tails.contains i) ho hsel hQ r.length listed a w (Region.free_spec ho h2) (by simpa using h1) (.inl ⟨hw, fun w' _ => hv w'⟩)
            (anyT_of_wpR hsel hQ r _ _ _ hr (fun ⟨x, hx, hx1⟩ => hS ⟨x, List.mem_cons_of_mem _ hx, hx1⟩) hn)
        · rw [if_neg hw] at h
          exact anyT_pure (tail := fun i => tails.contains i) ho hsel hQ r.length listed a w (Region.free_spec ho h2) (by simpa using h1) (.inr ⟨by simpa using hw, rfl⟩)
            (anyT_of_wpR hsel hQ r _ _ _ hr (fun ⟨x, hx, hx1⟩ => hS ⟨x, List.mem_cons_of_mem _ hx, hx1⟩) h)
      | _ + 4, hk, _ => simp at hk

/-- THE BEGINNING: our order passes the look; the class holds behind the draw. -/
theorem wp_region_R {id : Nat} {a : Act} {w : World} {l : List Oper} (S : World → Prop) (tails : List Nat) (order : List (Nat × Nat)) (hm : P.follows .mixedOrders = true)
    (hB : (Region.noSelect l.toArray && okR l.toArray tails order (Array.replicate l.length false) && order.length == l.length) = true)
    (hQ : ∀ c t df w, Q (.panic c) ⟨t, df⟩ w → ∀ t', Q (.panic c) ⟨t', df⟩ w) (hS : S w.drew)
    (h : wpR P l.toArray Q S order a w.drew) : (Code.region id l.toArray true).wp P Q a w := by
  simp only [Bool.and_eq_true, beq_iff_eq] at hB
  refine wp_region_any hm (any_of_anyT (S := S) (tail := fun i => tails.contains i) _ _ _ _ ?_)
  have hQ' : ∀ c a d v w, Q (.panic c) (Act.put a d v) w → Q (.panic c) a w := fun c a d v w h => by
    cases d with
    | none => exact h
    | some d => exact hQ c _ _ w h _
  have := anyT_of_wpR (P := P) (Q := Q) (S := S) hB.1.1 hQ' order (Array.replicate l.length false) a w.drew hB.1.2 (fun _ => hS) h
  rw [hB.2] at this
  simpa using this

/-! The steps. (The operation is looked up by a plain recursion, so that it comes out written out.) -/
def nth {α : Type} : List α → Nat → Option α
  | [], _ => none
  | x :: _, 0 => some x
  | _ :: l, n + 1 => nth l n
theorem nth_eq {α : Type} : ∀ (l : List α) (i : Nat), nth l i = l.toArray[i]?
  | [], _ => by simp [nth]
  | x :: l, 0 => by simp [nth]
  | x :: l, n + 1 => by have := nth_eq l n; simp [nth] at this ⊢; exact this
variable {l : List Oper}
theorem wpR_id {r : List (Nat × Nat)} {a : Act} {w : World} (h : wpR P ops Q S r a w) : wpR P ops Q S r a w := h
theorem wpR_nil {a : Act} {w : World} (h : Q .normal a w) : wpR P ops Q S [] a w := h
def boolOf : Value → Option Bool
  | .bool b => some b
  | _ => none
theorem wanted_none {o : Oper} {y : Nat → Option Bool} (hg : o.guard = none) : Region.wanted o y = true := by
  unfold Region.wanted; rw [hg]
theorem wanted_some {o oj : Oper} {a : Act} {j d : Nat} {want : Bool} {v : Value} (hg : o.guard = some (j, want)) (hj : nth l j = some oj) (hd : oj.dst = some d)
    (hv : nth a.tmps.toList d = some v) : Region.wanted o (yielded l.toArray a.tmps) = (boolOf v == some want) := by
  unfold Region.wanted yielded
  rw [hg]
  simp only
  rw [nth_eq] at hj hv
  rw [hj]
  simp only [Option.bind_some, hd]
  simp only [Array.toArray_toList] at hv
  rw [hv]
  unfold boolOf
  cases v <;> rfl
/-- The same in every world of the class. -/
theorem wpR_take {i : Nat} {o : Oper} {r : List (Nat × Nat)} {a : Act} {w : World} {v : Value} (ho : nth l i = some o) (hg : o.guard = none)
    (hv : ∀ w', S w' → (execOp a.eval o).run P w' = .ok (.value v) w')
    (h : wpR P l.toArray Q S r (a.put o.dst v) w) : wpR P l.toArray Q S ((0, i) :: r) a w := by
  have hw := wanted_none (y := yielded l.toArray a.tmps) hg
  unfold wpR; rw [← nth_eq, ho]; simp only [hw, if_true]; exact ⟨v, hv, h⟩
theorem wpR_pure {i : Nat} {o : Oper} {r : List (Nat × Nat)} {a : Act} {w : World} {v : Value} (ho : nth l i = some o) (hg : o.guard = none)
    (hv : ∀ w', (execOp a.eval o).run P w' = .ok (.value v) w')
    (h : wpR P l.toArray Q S r (a.put o.dst v) w) : wpR P l.toArray Q S ((3, i) :: r) a w := by
  have hw := wanted_none (y := yielded l.toArray a.tmps) hg
  unfold wpR; rw [← nth_eq, ho]; simp only [hw, if_true]; exact ⟨v, hv, h⟩
theorem wpR_takeG {i j d : Nat} {want : Bool} {o oj : Oper} {r : List (Nat × Nat)} {a : Act} {w : World} {v : Value} (ho : nth l i = some o) (hg : o.guard = some (j, want))
    (hj : nth l j = some oj) (hd : oj.dst = some d) (hb : nth a.tmps.toList d = some (.bool want))
    (hv : ∀ w', S w' → (execOp a.eval o).run P w' = .ok (.value v) w')
    (h : wpR P l.toArray Q S r (a.put o.dst v) w) : wpR P l.toArray Q S ((0, i) :: r) a w := by
  have hw : Region.wanted o (yielded l.toArray a.tmps) = true := by rw [wanted_some hg hj hd hb]; simp [boolOf]
  unfold wpR; rw [← nth_eq, ho]; simp only [hw, if_true]; exact ⟨v, hv, h⟩
theorem wpR_skip {k i j d : Nat} {want b : Bool} {o oj : Oper} {r : List (Nat × Nat)} {a : Act} {w : World} (ho : nth l i = some o) (hg : o.guard = some (j, want))
    (hj : nth l j = some oj) (hd : oj.dst = some d) (hb : nth a.tmps.toList d = some (.bool b)) (hne : b = !want)
    (h : wpR P l.toArray Q S r (a.put o.dst undef) w) : wpR P l.toArray Q S ((k, i) :: r) a w := by
  have hw : Region.wanted o (yielded l.toArray a.tmps) = false := by subst hne; rw [wanted_some hg hj hd hb]; cases want <;> rfl
  unfold wpR; rw [← nth_eq, ho]; simp only [hw, Bool.false_eq_true, if_false]; exact h
theorem wpR_skipU {k i j d : Nat} {want : Bool} {o oj : Oper} {r : List (Nat × Nat)} {a : Act} {w : World} (ho : nth l i = some o) (hg : o.guard = some (j, want))
    (hj : nth l j = some oj) (hd : oj.dst = some d) (hb : nth a.tmps.toList d = some undef)
    (h : wpR P l.toArray Q S r (a.put o.dst undef) w) : wpR P l.toArray Q S ((k, i) :: r) a w := by
  have hw : Region.wanted o (yielded l.toArray a.tmps) = false := by rw [wanted_some hg hj hd hb]; rfl
  unfold wpR; rw [← nth_eq, ho]; simp only [hw, Bool.false_eq_true, if_false]; exact h
theorem wpR_do {i : Nat} {o : Oper} {r : List (Nat × Nat)} {a : Act} {w : World} (ho : nth l i = some o) (hg : o.guard = none)
    (h : ∀ K : Act → World → Prop, (∀ a w, S w ∧ wpR P l.toArray Q S r a w → K a w) → o.wp P a w K Q) : wpR P l.toArray Q S ((1, i) :: r) a w := by
  have hw := wanted_none (y := yielded l.toArray a.tmps) hg
  unfold wpR; rw [← nth_eq, ho]; simp only [hw, if_true]; exact .inl (h _ fun _ _ h => h)
theorem wpR_doG {i j d : Nat} {want : Bool} {o oj : Oper} {r : List (Nat × Nat)} {a : Act} {w : World} (ho : nth l i = some o) (hg : o.guard = some (j, want))
    (hj : nth l j = some oj) (hd : oj.dst = some d) (hb : nth a.tmps.toList d = some (.bool want))
    (h : ∀ K : Act → World → Prop, (∀ a w, S w ∧ wpR P l.toArray Q S r a w → K a w) → o.wp P a w K Q) : wpR P l.toArray Q S ((1, i) :: r) a w := by
  have hw : Region.wanted o (yielded l.toArray a.tmps) = true := by rw [wanted_some hg hj hd hb]; simp [boolOf]
  unfold wpR; rw [← nth_eq, ho]; simp only [hw, if_true]; exact .inl (h _ fun _ _ h => h)
theorem wpR_last {i : Nat} {o : Oper} {r : List (Nat × Nat)} {a : Act} {w : World} (ho : nth l i = some o) (hg : o.guard = none)
    (h : ∀ K : Act → World → Prop, (∀ a w, wpR P l.toArray Q S r a w → K a w) → o.wp P a w K Q) : wpR P l.toArray Q S ((2, i) :: r) a w := by
  have hw := wanted_none (y := yielded l.toArray a.tmps) hg
  unfold wpR; rw [← nth_eq, ho]; simp only [hw, if_true]; exact .inl (h _ fun _ _ h => h)
theorem wpR_go {r : List (Nat × Nat)} {a : Act} {w : World} (hS : S w) (h : wpR P ops Q S r a w) : S w ∧ wpR P ops Q S r a w := ⟨hS, h⟩

attribute [irreducible] wpR

end
end Sedge
