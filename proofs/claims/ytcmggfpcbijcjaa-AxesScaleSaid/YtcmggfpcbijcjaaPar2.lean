/-
  The facts that last, in a region whose acts come in no fixed order: boxes, rows of floats of our own, values.
-/
import Derived.Test.YtcmggfpcbijcjaaPar
set_option linter.unusedSimpArgs false
set_option linter.unusedVariables false
namespace Sedge
open Go Go.RowKit
/-- What an operation leaves that lasts. -/
inductive Fc where
  | is (v : Value)
  | box (n : Nat)
  | row (sh : Value → Value) (ws : List Nat)
  | put (d c : Nat) (cs : Value → Array Value) (ws : List Nat)
  | any
def ownRow (W : World) (own : Nat → Nat) (w : World) (t g : Nat) (ws : List Nat) : Prop := own g = t ∧ W.heap.size ≤ g ∧ FW w g ws
def Fc.holds (W : World) (ρ : Nat → Value) (own : Nat → Nat) (w : World) (d : Nat) : Fc → Prop
  | .is v => ρ d = v
  | .box n => ∃ p c e, ρ d = .pointer (some ⟨p, 0, none⟩) ∧ own p = d ∧ W.heap.size ≤ p ∧ w.heap[p]? = some (.cells c e (0, 0)) ∧ c.size = n
  | .row sh ws => ∃ g cap, ρ d = sh (.slice (some ⟨g, 0, none⟩) ws.length cap) ∧ ownRow W own w d g ws
  | .put d' c cs ws => ∃ p g cap e, ρ d' = .pointer (some ⟨p, 0, none⟩) ∧ own p = d' ∧ W.heap.size ≤ p ∧ w.heap[p]? = some (.cells (cs (.slice (some ⟨g, 0, none⟩) ws.length cap)) e (0, 0)) ∧ ownRow W own w c g ws
  | .any => True
def slotsOf (d : Nat) : Fc → List Nat
  | .put d' _ _ _ => [d']
  | .any => []
  | _ => [d]
theorem ownRow.grew {W w w' : World} {own own' : Nat → Nat} {t g : Nat} {ws : List Nat} (h : ownRow W own w t g ws) (hg : Grew w w') (ho : ∀ b, b < w.heap.size → own' b = own b) : ownRow W own' w' t g ws :=
  ⟨by rw [ho g h.2.2.lt]; exact h.1, h.2.1, h.2.2.grew hg⟩
theorem some_lt {w : World} {p : Nat} {o : Obj} (h : w.heap[p]? = some o) : p < w.heap.size := (Array.getElem?_eq_some_iff.1 h).1
theorem Fc.grew {W w w' : World} {ρ ρ' : Nat → Value} {own own' : Nat → Nat} {d : Nat} {f : Fc} (h : f.holds W ρ own w d) (hg : Grew w w') (ho : ∀ b, b < w.heap.size → own' b = own b)
    (hr : ∀ s ∈ slotsOf d f, ρ' s = ρ s) : f.holds W ρ' own' w' d := by
  cases f with
  | is v => exact (hr d (by simp [slotsOf])).trans h
  | box n =>
    obtain ⟨p, c, e, h1, h2, h3, h4, h5⟩ := h
    exact ⟨p, c, e, (hr d (by simp [slotsOf])).trans h1, by rw [ho p (some_lt h4)]; exact h2, h3, by rw [hg.below.block p (some_lt h4)]; exact h4, h5⟩
  | row sh ws =>
    obtain ⟨g, cap, h1, h2⟩ := h
    exact ⟨g, cap, (hr d (by simp [slotsOf])).trans h1, h2.grew hg ho⟩
  | put d' c cs ws =>
    obtain ⟨p, g, cap, e, h1, h2, h3, h4, h5⟩ := h
    exact ⟨p, g, cap, e, (hr d' (by simp [slotsOf])).trans h1, by rw [ho p (some_lt h4)]; exact h2, h3, by rw [hg.below.block p (some_lt h4)]; exact h4, h5.grew hg ho⟩
  | any => trivial
def setR (ρ : Nat → Value) (d : Nat) (v : Value) : Nat → Value := fun k => bif k == d then v else ρ k
theorem setR_eq {ρ : Nat → Value} {d : Nat} {v : Value} : setR ρ d v d = v := by simp [setR]
theorem setR_ne {ρ : Nat → Value} {d k : Nat} {v : Value} (h : k ≠ d) : setR ρ d v k = ρ k := by
  have : (k == d) = false := by simpa using h
  simp [setR, this]
/-- The slots, the region's own among them open. -/
def mkA (base : Array Value) (ds : List Nat) (ρ : Nat → Value) : Array Value := ds.foldl (fun t d => t.setIfInBounds d (ρ d)) base
theorem mkA_get (ρ : Nat → Value) : ∀ (ds : List Nat) (base : Array Value) (k : Nat), (mkA base ds ρ)[k]? = if k ∈ ds ∧ k < base.size then some (ρ k) else base[k]?
  | [], base, k => by simp [mkA]
  | d :: ds, base, k => by
    show (mkA (base.setIfInBounds d (ρ d)) ds ρ)[k]? = _
    rw [mkA_get ρ ds]
    simp only [Array.size_setIfInBounds, List.mem_cons]
    by_cases h1 : k ∈ ds
    · simp only [h1, true_and, or_true]
      split
      · rfl
      · rename_i h; rw [Array.getElem?_eq_none (by simpa using h), Array.getElem?_eq_none (by simpa using h)]
    · simp only [h1, false_and, if_false, or_false]
      rw [Array.getElem?_setIfInBounds]
      by_cases h2 : d = k
      · subst h2; simp only [if_true, true_and]
        split
        · rfl
        · rename_i h; rw [Array.getElem?_eq_none (by simpa using h)]
      · have : ¬ k = d := fun e => h2 e.symm
        simp [h2, this]
theorem mkA_self (base : Array Value) (ds : List Nat) : mkA base ds (fun k => base.getD k undef) = base := by
  apply Array.ext_getElem?; intro k
  rw [mkA_get]
  split
  · rename_i h; simp [Array.getD_eq_getD_getElem?, Array.getElem?_eq_getElem h.2]
  · rfl
theorem mkA_set (base : Array Value) (ds : List Nat) (ρ : Nat → Value) {d : Nat} (v : Value) (hd : d ∈ ds) : mkA base ds (setR ρ d v) = (mkA base ds ρ).setIfInBounds d v := by
  apply Array.ext_getElem?; intro k
  have hs : (mkA base ds ρ).size = base.size := by
    have : ∀ (ds : List Nat) (base : Array Value), (mkA base ds ρ).size = base.size := by
      intro ds
      induction ds with
      | nil => intro base; rfl
      | cons d ds ih => intro base; show (mkA (base.setIfInBounds d (ρ d)) ds ρ).size = _; rw [ih]; simp
    exact this ds base
  rw [mkA_get, Array.getElem?_setIfInBounds, mkA_get, hs]
  by_cases h : d = k
  · subst h; simp only [hd, setR_eq, true_and, if_true]
    split
    · rfl
    · rename_i h; rw [Array.getElem?_eq_none (by simpa using h)]
  · have : k ≠ d := fun e => h e.symm
    simp [h, setR_ne this]
def dstAt (l : List Oper) (k : Nat) : Option Nat := (nth l k).bind (·.dst)
/-- No fact speaks of another's slot, but of one that it waits for; the slots are the region's. -/
def okS (l : List Oper) (sp : List Fc) (ds : List Nat) : Bool :=
  (List.range l.length).all fun i => match nth l i with
    | none => true
    | some oi => match oi.dst with
      | none => true
      | some d => ds.contains d && (List.range l.length).all fun k => i == k || match nth l k, nth sp k with
        | some ok, some f => !(slotsOf (ok.dst.getD 0) f).contains d || deps ok i
        | _, _ => true
def JJ (W : World) (l : List Oper) (sp : List Fc) (base : Array Value) (ds : List Nat) (df : List Deferred) (L : Nat → Bool) (a : Act) (w : World) : Prop :=
  ∃ ρ own, a = ⟨mkA base ds ρ, df⟩ ∧ Grew W w ∧ ∀ k o f, nth l k = some o → nth sp k = some f → L k = true → f.holds W ρ own w (o.dst.getD 0)
section
variable {W w w' : World} {l : List Oper} {sp : List Fc} {base : Array Value} {ds : List Nat} {df : List Deferred} {L : Nat → Bool} {ρ : Nat → Value} {own own' : Nat → Nat}
theorem nth_lt {α : Type} : ∀ (l : List α) (i : Nat) (x : α), nth l i = some x → i < l.length
  | [], _, _, h => by cases h
  | _ :: _, 0, _, _ => by simp
  | _ :: l, i + 1, x, h => by have := nth_lt l i x h; simp; omega
theorem okS_spec (h : okS l sp ds = true) {i k : Nat} {oi ok : Oper} {f : Fc} {d : Nat} (hi : nth l i = some oi) (hd : oi.dst = some d) :
    d ∈ ds ∧ (i ≠ k → nth l k = some ok → nth sp k = some f → d ∈ slotsOf (ok.dst.getD 0) f → deps ok i = true) := by
  unfold okS at h
  rw [List.all_eq_true] at h
  have h1 := h i (by simpa using nth_lt _ _ _ hi)
  rw [hi] at h1
  simp only [hd, Bool.and_eq_true, List.all_eq_true, List.contains_iff_mem] at h1
  refine ⟨h1.1, fun hik hk hf hs => ?_⟩
  have h2 := h1.2 k (by simpa using nth_lt _ _ _ hk)
  rw [hk, hf] at h2
  simp only [Bool.or_eq_true, beq_iff_eq, Bool.not_eq_true'] at h2
  rcases h2 with h2 | h2 | h2
  · exact absurd h2 hik
  · rw [Bool.eq_false_iff] at h2; exact absurd (by simpa using hs) h2
  · exact h2
/-- The next fact, in a world that grew. -/
theorem JJ.next (hc : okS l sp ds = true) {i d : Nat} {o : Oper} {f : Fc} {v : Value} (hi : nth l i = some o) (hf : nth sp i = some f) (hd : o.dst = some d) 
    (hno : ∀ k ok, nth l k = some ok → deps ok i = true → L k = false) (hW : Grew W w)
    (hF : ∀ k o f, nth l k = some o → nth sp k = some f → L k = true → f.holds W ρ own w (o.dst.getD 0)) (hg : Grew w w') (ho : ∀ b, b < w.heap.size → own' b = own b)
    (hn : f.holds W (setR ρ d v) own' w' d) {t : Array Value} (ht : t = (mkA base ds ρ).setIfInBounds d v) : JJ W l sp base ds df (fun k => k == i || L k) ⟨t, df⟩ w' := by
  subst ht
  have hm := (okS_spec (k := 0) (ok := o) (f := f) hc hi hd).1
  refine ⟨setR ρ d v, own', by rw [mkA_set _ _ _ _ hm], hW.trans hg, fun k ok fk hk hfk hL => ?_⟩
  by_cases hki : k = i
  · subst hki
    rw [hi] at hk; rw [hf] at hfk
    cases hk; cases hfk
    rw [hd]; exact hn
  · have hLk : L k = true := by simpa [hki] using hL
    refine Fc.grew (hF k ok fk hk hfk hLk) hg ho fun s hs => setR_ne fun e => ?_
    subst e
    have := (okS_spec (ok := ok) (f := fk) hc hi hd).2 (fun e => hki e.symm) hk hfk hs
    rw [hno k ok hk this] at hLk; cases hLk
/-- A value. -/
theorem JJ.is (hc : okS l sp ds = true) {i d : Nat} {o : Oper} {v : Value} (hi : nth l i = some o) (hf : nth sp i = some (.is v)) (hd : o.dst = some d)
    (hno : ∀ k ok, nth l k = some ok → deps ok i = true → L k = false) (hW : Grew W w)
    (hF : ∀ k o f, nth l k = some o → nth sp k = some f → L k = true → f.holds W ρ own w (o.dst.getD 0)) {t : Array Value} (ht : t = (mkA base ds ρ).setIfInBounds d v) :
    JJ W l sp base ds df (fun k => k == i || L k) ⟨t, df⟩ w :=
  JJ.next hc hi hf hd hno hW hF (Grew.refl w) (fun _ _ => rfl) setR_eq ht
/-- A call that hands back a row of its own. -/
theorem JJ.row (hc : okS l sp ds = true) {i d : Nat} {o : Oper} {sh : Value → Value} {ws : List Nat} {g cap : Nat} (hi : nth l i = some o) (hf : nth sp i = some (.row sh ws)) (hd : o.dst = some d)
    (hno : ∀ k ok, nth l k = some ok → deps ok i = true → L k = false) (hW : Grew W w)
    (hF : ∀ k o f, nth l k = some o → nth sp k = some f → L k = true → f.holds W ρ own w (o.dst.getD 0)) (hg : Grew w w') (h1 : w.heap.size ≤ g) (h2 : FW w' g ws)
    {t : Array Value} (ht : t = (mkA base ds ρ).setIfInBounds d (sh (.slice (some ⟨g, 0, none⟩) ws.length cap))) :
    JJ W l sp base ds df (fun k => k == i || L k) ⟨t, df⟩ w' := by
  refine JJ.next (own' := fun b => if b < w.heap.size then own b else d) hc hi hf hd hno hW hF hg (fun b hb => by simp [hb]) ⟨g, cap, setR_eq, ?_, Nat.le_trans hW.below.size h1, h2⟩ ht
  have : ¬ g < w.heap.size := by omega
  simp [this]
/-- A new box. -/
theorem JJ.box (hc : okS l sp ds = true) {i d n : Nat} {o : Oper} {c : Array Value} {e : TypeId} (hi : nth l i = some o) (hf : nth sp i = some (.box n)) (hd : o.dst = some d)
    (hno : ∀ k ok, nth l k = some ok → deps ok i = true → L k = false) (hW : Grew W w)
    (hF : ∀ k o f, nth l k = some o → nth sp k = some f → L k = true → f.holds W ρ own w (o.dst.getD 0)) (hn : c.size = n)
    {t : Array Value} (ht : t = (mkA base ds ρ).setIfInBounds d (.pointer (some ⟨w.heap.size, 0, none⟩))) :
    JJ W l sp base ds df (fun k => k == i || L k) ⟨t, df⟩ (w.alloc (.cells c e)) := by
  refine JJ.next (own' := fun b => if b < w.heap.size then own b else d) hc hi hf hd hno hW hF ((Grew.refl w).alloc _) (fun b hb => by simp [hb]) ⟨w.heap.size, c, e, setR_eq, by simp, hW.below.size, ?_, hn⟩ ht
  show (w.heap.push _)[w.heap.size]? = _
  simp
def putFc (ok : Oper) (d' : Nat) : Fc → Bool
  | .put d2 c2 _ _ => d2 != d' && c2 != d'
  | .row _ _ => ok.dst.getD 0 != d'
  | _ => true
def putOk (l : List Oper) (sp : List Fc) (i d' : Nat) : Bool :=
  (List.range l.length).all fun k => i == k || match nth l k, nth sp k with
    | some ok, some f => putFc ok d' f
    | _, _ => true
/-- The store into a box of what a call handed back. -/
theorem JJ.put {i d' c n : Nat} {o : Oper} {cs : Value → Array Value} {ws : List Nat} (hi : nth l i = some o) (hf : nth sp i = some (.put d' c cs ws)) (hd : o.dst = none)
    (hp : putOk l sp i d' = true) (hne : c ≠ d') (hW : Grew W w)
    (hF : ∀ k o f, nth l k = some o → nth sp k = some f → L k = true → f.holds W ρ own w (o.dst.getD 0)) (hn : ∀ s, (cs s).size = n) (hbn : ∀ k ok m, nth l k = some ok → nth sp k = some (.box m) → ok.dst.getD 0 = d' → m = n)
    {p g cap : Nat} {c0 : Array Value} {e : TypeId} (h1 : ρ d' = .pointer (some ⟨p, 0, none⟩)) (h2 : own p = d') (h3 : W.heap.size ≤ p) (h4 : w.heap[p]? = some (.cells c0 e (0, 0))) (h6 : ownRow W own w c g ws)
    {t : Array Value} (ht : t = mkA base ds ρ) :
    JJ W l sp base ds df (fun k => k == i || L k) ⟨t, df⟩ (upd w p (cs (.slice (some ⟨g, 0, none⟩) ws.length cap))) := by
  subst ht
  refine ⟨ρ, own, rfl, hW.upd h3 _, fun k ok fk hk hfk hL => ?_⟩
  by_cases hki : k = i
  · subst hki
    rw [hi] at hk; rw [hf] at hfk
    cases hk; cases hfk
    refine ⟨p, g, cap, e, h1, h2, h3, block_upd h4, h6.1, h6.2.1, h6.2.2.upd_ne (fun hgp => ?_) _⟩
    subst hgp; rw [h6.1] at h2; exact hne h2
  · have hLk : L k = true := by simpa [hki] using hL
    have h := hF k ok fk hk hfk hLk
    have hpk : putFc ok d' fk = true := by
      unfold putOk at hp
      rw [List.all_eq_true] at hp
      have := hp k (by simpa using nth_lt _ _ _ hk)
      rw [hk, hfk] at this
      simp only [Bool.or_eq_true, beq_iff_eq] at this
      rcases this with h' | h'
      · exact absurd h'.symm hki
      · exact h'
    cases fk with
    | is v => exact h
    | any => trivial
    | box m =>
      obtain ⟨q, c1, e1, a1, a2, a3, a4, a5⟩ := h
      by_cases hq : q = p
      · subst hq
        rw [h2] at a2
        exact ⟨q, _, e1, a1, by rw [h2]; exact a2, a3, block_upd a4, by rw [hn]; exact (hbn k ok m hk hfk a2.symm).symm⟩
      · exact ⟨q, c1, e1, a1, a2, a3, by rw [block_upd_ne hq]; exact a4, a5⟩
    | row sh1 ws1 =>
      obtain ⟨g1, cap1, a1, a2, a3, a4⟩ := h
      refine ⟨g1, cap1, a1, a2, a3, a4.upd_ne (fun e => ?_) _⟩
      subst e; rw [h2] at a2; simp only [putFc, bne_iff_ne] at hpk; exact hpk a2.symm
    | put d2 c2 cs2 ws2 =>
      obtain ⟨q, g1, cap1, e1, a1, a2, a3, a4, b1, b2, b3⟩ := h
      simp only [putFc, Bool.and_eq_true, bne_iff_ne] at hpk
      refine ⟨q, g1, cap1, e1, a1, a2, a3, ?_, b1, b2, b3.upd_ne (fun e => ?_) _⟩
      · rw [block_upd_ne (fun e => ?_)]; · exact a4
        subst e; rw [h2] at a2; exact hpk.1 a2.symm
      · subst e; rw [h2] at b1; exact hpk.2 b1.symm
theorem JJ.start {a : Act} (hW : Grew W w) : JJ W l sp a.tmps ds a.defers (fun _ => false) a w :=
  ⟨fun k => a.tmps.getD k undef, fun _ => 0, by rw [mkA_self], hW, fun _ _ _ _ _ h => by cases h⟩
end
/-- The store of a whole value into a box. -/
theorem wp_store_box {P : Program} {op : Oper} {a : Act} {w : World} {K : Act → World → Prop} {Q : Exit → Act → World → Prop} (ty : TypeId) (x y : Operand) (ho : op.op = .store ty x y)
    {p : Nat} {c cells : Array Value} {e : TypeId} (hx : a.eval x = .pointer (some ⟨p, 0, none⟩)) (hy : a.eval y = .agg cells) (hb : w.heap[p]? = some (.cells c e (0, 0)))
    (hc : c.size = cells.size) (hi : (P.info? ty).map (·.size) = some cells.size) (h1 : cells.all (·.oneCell') = true)
    (h : K (a.put op.dst undef) (upd w p cells)) : op.wp P a w K Q := by
  unfold Oper.wp execOp
  simp only [ho, hx, hy, Instr.storeAt, Instr.sureAddr, Sem.run_bind, Sem.run_pure, Result.andThen_ok, run_storeVar_row w p e ty c cells hb hi hc h1]
  exact h
/-- Where an operation begins: the facts of what it waits for, and all else that the end wants. -/
structure St (W : World) (l : List Oper) (sp : List Fc) (L : Nat → Bool) (ρ : Nat → Value) (own : Nat → Nat) (w : World) (i : Nat) (o : Oper) : Prop where
  at' : nth l i = some o
  grew : Grew W w
  no : ∀ k ok, nth l k = some ok → deps ok i = true → L k = false
  all : ∀ k o f, nth l k = some o → nth sp k = some f → L k = true → f.holds W ρ own w (o.dst.getD 0)
  dep : ∀ e, deps o e = true → L e = true
def stepsS (P : Program) (Q : Exit → Act → World → Prop) (W : World) (l : List Oper) (sp : List Fc) (base : Array Value) (ds : List Nat) (df : List Deferred) : List Oper → Nat → Prop
  | [], _ => True
  | o :: r, i => (∀ L ρ own w, St W l sp L ρ own w i o → ∀ K : Act → World → Prop, (∀ a' w', JJ W l sp base ds df (fun k => k == i || L k) a' w' → K a' w') → o.wp P ⟨mkA base ds ρ, df⟩ w K Q) ∧ stepsS P Q W l sp base ds df r (i + 1)
theorem stepsJ_of {P : Program} {Q : Exit → Act → World → Prop} {W : World} {l : List Oper} {sp : List Fc} {base : Array Value} {ds : List Nat} {df : List Deferred} : ∀ (r : List Oper) (i : Nat), (∀ k o, nth r k = some o → nth l (i + k) = some o) →
    stepsS P Q W l sp base ds df r i → stepsJ P Q l (JJ W l sp base ds df) r i
  | [], _, _, _ => trivial
  | o :: r, i, hn, h => by
    refine ⟨fun L a w hi hdep hno hJ K hK => ?_, stepsJ_of r (i + 1) (fun k ok hk => by have := hn (k + 1) ok hk; rwa [show i + 1 + k = i + (k + 1) from by omega]) h.2⟩
    obtain ⟨ρ, own, rfl, hG, hF⟩ := hJ
    exact h.1 L ρ own w ⟨hn 0 o rfl, hG, hno, hF, hdep⟩ K hK
theorem wp_region_JJ {P : Program} {Q : Exit → Act → World → Prop} {id : Nat} {a : Act} {w : World} {l : List Oper} (W : World) (sp : List Fc) (ds : List Nat) (hm : P.follows .mixedOrders = true)
    (hok : okAt l 0 = true) (hW : Grew W w) (hs : stepsS P Q W l sp a.tmps ds a.defers l 0)
    (he : ∀ ρ own w', Grew W w' → (∀ k o f, nth l k = some o → nth sp k = some f → f.holds W ρ own w' (o.dst.getD 0)) → Q .normal ⟨mkA a.tmps ds ρ, a.defers⟩ w') : (Code.region id l.toArray true).wp P Q a w := by
  refine wp_region_J (JJ W l sp a.tmps ds a.defers) hm hok (JJ.start hW.drew) (stepsJ_of l 0 (fun k o h => by rw [Nat.zero_add]; exact h) hs) (fun L a' w' hL hJ => ?_)
  obtain ⟨ρ, own, rfl, hG, hF⟩ := hJ
  exact he ρ own w' hG fun k o f h1 h2 => hF k o f h1 h2 (hL k (nth_lt _ _ _ h1))
section
variable {W w w' : World} {l : List Oper} {sp : List Fc} {base : Array Value} {ds : List Nat} {df : List Deferred} {L : Nat → Bool} {ρ : Nat → Value} {own : Nat → Nat} {i : Nat} {o : Oper}
theorem St.fact (h : St W l sp L ρ own w i o) (k : Nat) {ok : Oper} {f : Fc} (h1 : nth l k = some ok) (h2 : nth sp k = some f) (h3 : deps o k = true) : f.holds W ρ own w (ok.dst.getD 0) := h.all k ok f h1 h2 (h.dep k h3)
theorem St.is (h : St W l sp L ρ own w i o) {d : Nat} {v : Value} (hf : nth sp i = some (.is v)) (hd : o.dst = some d) (hc : okS l sp ds = true) {w' : World} (hg : Grew w w') {t : Array Value} (ht : t = (mkA base ds ρ).setIfInBounds d v) :
    JJ W l sp base ds df (fun k => k == i || L k) ⟨t, df⟩ w' := JJ.next hc h.at' hf hd h.no h.grew h.all hg (fun _ _ => rfl) setR_eq ht
theorem St.row (h : St W l sp L ρ own w i o) {d : Nat} {sh : Value → Value} {ws : List Nat} {g cap : Nat} (hf : nth sp i = some (.row sh ws)) (hd : o.dst = some d) (hc : okS l sp ds = true)
    (hg : Grew w w') (h1 : w.heap.size ≤ g) (h2 : FW w' g ws) {t : Array Value} (ht : t = (mkA base ds ρ).setIfInBounds d (sh (.slice (some ⟨g, 0, none⟩) ws.length cap))) :
    JJ W l sp base ds df (fun k => k == i || L k) ⟨t, df⟩ w' := JJ.row hc h.at' hf hd h.no h.grew h.all hg h1 h2 ht
theorem St.box (h : St W l sp L ρ own w i o) {d n : Nat} {c : Array Value} {e : TypeId} (hf : nth sp i = some (.box n)) (hd : o.dst = some d) (hc : okS l sp ds = true)
    (hn : c.size = n) {t : Array Value} (ht : t = (mkA base ds ρ).setIfInBounds d (.pointer (some ⟨w.heap.size, 0, none⟩))) :
    JJ W l sp base ds df (fun k => k == i || L k) ⟨t, df⟩ (w.alloc (.cells c e)) := JJ.box hc h.at' hf hd h.no h.grew h.all hn ht
/-- The store, done. -/
theorem St.put {P : Program} {K : Act → World → Prop} {Q : Exit → Act → World → Prop} (h : St W l sp L ρ own w i o) {d' c n kb kr : Nat} {cs : Value → Array Value} {ws : List Nat} {ob or' : Oper}
    (hf : nth sp i = some (.put d' c cs ws)) (hd : o.dst = none) (hp : putOk l sp i d' = true) (hne : c ≠ d') (hn : ∀ s, (cs s).size = n)
    (hb1 : nth l kb = some ob) (hb2 : nth sp kb = some (.box n)) (hb3 : deps o kb = true) (hb4 : ob.dst = some d')
    (hr1 : nth l kr = some or') (hr2 : nth sp kr = some (.row (fun s => .agg (cs s)) ws)) (hr3 : deps o kr = true) (hr4 : or'.dst = some c)
    (hbn : (List.range l.length).all (fun k => match nth l k, nth sp k with | some ok, some (.box m) => ok.dst.getD 0 != d' || m == n | _, _ => true) = true)
    {ty : TypeId} {x y : Operand} (ho : o.op = .store ty x y) (hx : (⟨mkA base ds ρ, df⟩ : Act).eval x = ρ d') (hy : (⟨mkA base ds ρ, df⟩ : Act).eval y = ρ c)
    (hi : (P.info? ty).map (·.size) = some n) (h1 : ∀ a l c, (cs (.slice a l c)).all (·.oneCell') = true)
    (hK : ∀ a' w', JJ W l sp base ds df (fun k => k == i || L k) a' w' → K a' w') : o.wp P ⟨mkA base ds ρ, df⟩ w K Q := by
  have hb := h.fact kb hb1 hb2 hb3
  have hr := h.fact kr hr1 hr2 hr3
  rw [hb4] at hb; rw [hr4] at hr
  obtain ⟨p, c0, e, b1, b2, b3, b4, b5⟩ := hb
  obtain ⟨g, cap, r1, r2⟩ := hr
  simp only [Option.getD_some] at b1 b2 r1 r2
  refine wp_store_box ty x y ho (p := p) (hx.trans b1) (hy.trans r1) b4 (by rw [b5, hn]) (by rw [hn]; exact hi) (h1 _ _ _) (hK _ _ ?_)
  rw [hd]
  refine JJ.put h.at' hf hd hp hne h.grew h.all hn (fun k ok m hk hs hm => ?_) b1 b2 b3 b4 r2 rfl
  rw [List.all_eq_true] at hbn
  have := hbn k (by simpa using nth_lt _ _ _ hk)
  rw [hk, hs] at this
  simp only [Bool.or_eq_true, bne_iff_ne, beq_iff_eq] at this
  exact this.resolve_left (fun h => h hm)
end
section
variable {P : Program} {Q : Exit → Act → World → Prop} {W : World} {l : List Oper} {sp : List Fc} {base : Array Value} {ds : List Nat} {df : List Deferred}
theorem stepsS_nil {i : Nat} : stepsS P Q W l sp base ds df [] i := trivial
theorem stepsS_cons {o : Oper} {r : List Oper} {i j : Nat} (hj : i + 1 = j)
    (h : ∀ L ρ own w, St W l sp L ρ own w i o → ∀ K : Act → World → Prop, (∀ a' w', JJ W l sp base ds df (fun k => k == i || L k) a' w' → K a' w') → o.wp P ⟨mkA base ds ρ, df⟩ w K Q)
    (hr : stepsS P Q W l sp base ds df r j) : stepsS P Q W l sp base ds df (o :: r) i := by subst hj; exact ⟨h, hr⟩
theorem mkA_nil {base : Array Value} {ρ : Nat → Value} : mkA base [] ρ = base := rfl
theorem mkA_cons {base : Array Value} {ρ : Nat → Value} {d : Nat} {ds : List Nat} : mkA base (d :: ds) ρ = mkA (base.setIfInBounds d (ρ d)) ds ρ := rfl
attribute [irreducible] stepsS JJ mkA
end
end Sedge
