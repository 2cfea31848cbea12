/-
  Texts laid one behind the other (a claim has at most 60 files): Boxd, Fork, BoxS, Make1, Gemm2, Whole3, FltExp, Mk, Ld.
-/
import Derived.Deep.CutBlock
import Derived.Deep.DeepCutAuto
import Derived.Test.YtcmggfpcbijcjaaQGemmWhole1
import Derived.Test.YtcmggfpcbijcjaaQGemmWhole2
import Derived.Test.YtcmggfpcbijcjaaQGemmWhole3
import Derived.Test.YtcmggfpcbijcjaaQGemmWhole4
import Derived.Test.YtcmggfpcbijcjaaQGemmWhole5
import Derived.Test.YtcmggfpcbijcjaaQGemmWhole6
section
/-
  Boxes: blocks of cells that may be written; numbers of the reference whose digits lie elsewhere.
-/
set_option linter.unusedSimpArgs false
set_option linter.unusedVariables false
open Go Go.RowKit Sedge
namespace Go.Proofs.Ytcmggfpcbijcjaa
def Box (w : World) (p : Nat) (cs : Array Value) : Prop := ∃ e, w.heap[p]? = some (.cells cs e (0, 0))
section
variable {w w' : World} {p q : Nat} {cs : Array Value}
theorem Box.lt (h : Box w p cs) : p < w.heap.size := by
  obtain ⟨e, h⟩ := h
  exact (Array.getElem?_eq_some_iff.1 h).1
theorem Box.cell (h : Box w p cs) (i : Nat) : w.cell? ⟨p, i, none⟩ = cs[i]? := by
  obtain ⟨e, h⟩ := h
  unfold World.cell?
  simp only [h]
  rfl
theorem Box.frozen (h : Box w p cs) (i : Nat) : w.frozen? ⟨p, i, none⟩ = false := by
  obtain ⟨e, h⟩ := h
  unfold World.frozen?
  simp only [h]
  simp
theorem Box.grew (h : Box w p cs) (g : Grew w w') : Box w' p cs := by
  have hl := h.lt
  obtain ⟨e, h⟩ := h
  exact ⟨e, by rw [g.below.block p hl]; exact h⟩
theorem Box.new (w : World) (cs : Array Value) (e : TypeId) : Box (w.alloc (.cells cs e)) w.heap.size cs := ⟨e, by show (w.heap.push _)[w.heap.size]? = _; simp⟩
theorem Box.new' {w : World} {cs : Array Value} {e : TypeId} {n : Nat} (hn : n = w.heap.size) : Box (w.alloc (.cells cs e)) n cs := by subst hn; exact Box.new w cs e
theorem Box.upd_self (h : Box w p cs) (cs' : Array Value) : Box (upd w p cs') p cs' := by
  obtain ⟨e, h⟩ := h
  exact ⟨e, block_upd h⟩
theorem Box.upd_ne (h : Box w p cs) (hn : p ≠ q) (cs' : Array Value) : Box (upd w q cs') p cs := by
  obtain ⟨e, h⟩ := h
  exact ⟨e, by rw [block_upd_ne hn]; exact h⟩
theorem Box.self (h : Box w p cs) : upd w p cs = w := by
  obtain ⟨e, h1⟩ := h
  unfold upd
  cases w with | mk hp tp dr os' out => ?_
  simp only [World.mk.injEq, true_and, and_true] at *
  apply Array.ext_getElem?
  intro i
  rw [Array.getElem?_modify]
  split
  · rename_i he; subst he; rw [h1]; rfl
  · rfl
theorem Box.set3 (h : Box w p cs) (hs : cs.size = 3) (x y z : Value) : ((w.setCell ⟨p, 0, none⟩ x).setCell ⟨p, 1, none⟩ y).setCell ⟨p, 2, none⟩ z = upd w p #[x, y, z] := by
  have e : w = upd w p cs := h.self.symm
  rw [e, setCell_upd, setCell_upd, setCell_upd, upd_upd]
  congr 1
  match cs, hs with
  | ⟨[a, b, c]⟩, _ => rfl
theorem Box.set3_ext (h : Box w p cs) (hs : cs.size = 3) (x y z : Value) (o : Array Obj) (n : Nat) : Sedge.ext (((w.setCell ⟨p, 0, none⟩ x).setCell ⟨p, 1, none⟩ y).setCell ⟨p, 2, none⟩ z) o n = upd (Sedge.ext w o n) p #[x, y, z] := by
  rw [h.set3 hs, upd_ext h.lt]
end
/-- Its digits lie in none of these blocks. -/
def dNot (v : Value) (S : List Nat) : Prop := ∀ k, dBlock v = some k → dLen v ≠ 0 → k ∉ S
theorem dNot.mono {v : Value} {S T : List Nat} (h : dNot v S) (hs : ∀ k, k ∈ T → k ∈ S) : dNot v T := fun k h1 h2 h3 => h k h1 h2 (hs k h3)
theorem dNot.of_new {v : Value} {S : List Nat} {b : Nat} (h : ∀ k, dBlock v = some k → dLen v ≠ 0 → b ≤ k) (hS : ∀ k, k ∈ S → k < b) : dNot v S := fun k h1 h2 h3 => by
  have := h k h1 h2
  have := hS k h3
  omega
theorem _root_.Sedge.NS.upd_own {w : World} {v : Value} {l : List Nat} (h : NS w v l) {b : Nat} (hn : l ≠ [] → ∀ k, v.ownBlock = some k → k ≠ b) (cs : Array Value) : NS (upd w b cs) v l := by
  by_cases hl : l = []
  · subst hl
    obtain ⟨a, cap, hv, h0, _⟩ := h
    exact ⟨a, cap, hv, h0, fun i hi => by simp at hi⟩
  · refine h.upd_ne (fun a n c e => ?_) cs
    subst e
    exact hn hl _ rfl
theorem DV.upd_own {w : World} {v : Value} {q : Rat} {lo hi : Int} (h : DV w v q lo hi) {b : Nat} (hn : ∀ k, dBlock v = some k → dLen v ≠ 0 → k ≠ b) (cs : Array Value) : DV (upd w b cs) v q lo hi := by
  obtain ⟨ng, Lv, E, dl, rfl, hN, h3⟩ := h
  refine ⟨ng, Lv, E, dl, rfl, hN.upd_own (fun hl k hk => hn k hk ?_) cs, h3⟩
  obtain ⟨sa, sc, rfl⟩ := hN.shape
  show dl.length ≠ 0
  intro h0; exact hl (List.length_eq_zero_iff.1 h0)
theorem DV.upd_not {w : World} {v : Value} {q : Rat} {lo hi : Int} (h : DV w v q lo hi) {b : Nat} {S : List Nat} (hn : dNot v S) (hb : b ∈ S) (cs : Array Value) : DV (upd w b cs) v q lo hi :=
  h.upd_own (fun k h1 h2 e => by subst e; exact hn k h1 h2 hb) cs
end Go.Proofs.Ytcmggfpcbijcjaa
end
section
/-
  A region that draws, and where several operations act in no fixed order: a tree of orders.
-/
set_option linter.unusedSimpArgs false
set_option linter.unusedVariables false
namespace Sedge
open Go Go.RowKit
/-- A tree of orders: step k i t (kind 0: the same in every world of the class; 3: in every world); alt i t m: either i acts, then t; or one of m; stop: no more. -/
inductive OT where
  | done
  | step (k i : Nat) (t : OT)
  | alt (i : Nat) (t m : OT)
  | stop
def OT.alts : OT → List Nat
  | .alt i _ m => i :: m.alts
  | _ => []
def OT.fuel : OT → Nat
  | .done => 0
  | .step _ _ t => t.fuel + 1
  | .alt _ t _ => t.fuel + 1
  | .stop => 0
section
variable {P : Program} {ops : Array Oper} {Q : Exit → Act → World → Prop} {S : World → Prop}
def wpF (P : Program) (ops : Array Oper) (Q : Exit → Act → World → Prop) (S : World → Prop) : OT → Act → World → Prop
  | .done, a, w => Q .normal a w
  | .stop, _, _ => True
  | .step k i t, a, w =>
    match ops[i]? with
    | none => False
    | some o =>
      if Region.wanted o (yielded ops a.tmps) = true then
        ∃ v, (∀ w', (k = 0 → S w') → (execOp a.eval o).run P w' = .ok (.value v) w') ∧ wpF P ops Q S t (a.put o.dst v) w
      else wpF P ops Q S t (a.put o.dst undef) w
  | .alt i t m, a, w =>
    (match ops[i]? with
    | none => False
    | some o => o.guard = none ∧ o.wp P a w (fun a' w' => S w' ∧ wpF P ops Q S t a' w') Q) ∧ wpF P ops Q S m a w
def okF (ops : Array Oper) : OT → Array Bool → Bool → Bool
  | .done, listed, _ => (Region.ready .any ops listed).isEmpty
  | .stop, _, inner => inner
  | .step _ i t, listed, inner => !inner && (Region.ready .any ops listed).contains i && Region.free .any ops listed i && okF ops t (listed.setIfInBounds i true) false
  | .alt i t m, listed, inner => (inner || Region.ready .any ops listed == i :: m.alts) && okF ops t (listed.setIfInBounds i true) false && t.fuel == (match m with | .alt _ t' _ => t'.fuel | _ => t.fuel) && okF ops m listed true
theorem wanted_none' {o : Oper} {y : Nat → Option Bool} (hg : o.guard = none) : Region.wanted o y = true := by unfold Region.wanted; rw [hg]
theorem anyF (hsel : Region.noSelect ops = true) (hQ : ∀ c a d v w, Q (.panic c) (Act.put a d v) w → Q (.panic c) a w) : ∀ (t : OT),
    (∀ listed a w, okF ops t listed false = true → S w → wpF P ops Q S t a w → AnyT P .any ops Q S (fun _ => false) t.fuel listed a w) ∧
    (∀ listed a w n, okF ops t listed true = true → S w → wpF P ops Q S t a w → (∀ i t' m, t = .alt i t' m → t'.fuel = n) →
      ∀ j ∈ t.alts, wpOp P ops Q j (fun a' w' => (false = false → S w → S w') ∧ AnyT P .any ops Q S (fun _ => false) n (listed.setIfInBounds j true) a' w') a w)
  | .done => ⟨fun listed a w hok _ h => ⟨by simpa [okF] using hok, h⟩, fun _ _ _ _ _ _ _ _ j hj => by cases hj⟩
  | .stop => ⟨fun listed a w hok _ _ => by simp [okF] at hok, fun _ _ _ _ _ _ _ _ j hj => by cases hj⟩
  | .step k i t => by
    refine ⟨fun listed a w hok hS h => ?_, fun _ _ _ _ _ _ _ _ j hj => by cases hj⟩
    simp only [okF, Bool.and_eq_true, Bool.not_false, true_and] at hok
    obtain ⟨⟨h1, h2⟩, h3⟩ := hok
    unfold wpF at h
    cases ho : ops[i]? with
    | none => rw [ho] at h; exact h.elim
    | some o =>
      rw [ho] at h
      simp only at h
      by_cases hw : Region.wanted o (yielded ops a.tmps) = true
      · rw [if_pos hw] at h
        obtain ⟨v, hv, hn⟩ := h
        exact anyT_first (tail := fun _ => false) ho hsel hQ rfl (fun _ _ _ h => by cases h) t.fuel listed a w (Region.free_spec ho h2) (by simpa using h1) (.inl ⟨hw, fun w' hw' => hv w' fun _ => hw'⟩) hS ((anyF hsel hQ t).1 _ _ _ h3 hS hn)
      · rw [if_neg hw] at h
        exact anyT_first (tail := fun _ => false) ho hsel hQ rfl (fun _ _ _ h => by cases h) t.fuel listed a w (Region.free_spec ho h2) (by simpa using h1) (.inr ⟨by simpa using hw, rfl⟩) hS ((anyF hsel hQ t).1 _ _ _ h3 hS h)
  | .alt i t m => by
    have two : ∀ listed a w n, okF ops t (listed.setIfInBounds i true) false = true → okF ops m listed true = true → t.fuel = (match m with | .alt _ t' _ => t'.fuel | _ => t.fuel) → S w → wpF P ops Q S (.alt i t m) a w → t.fuel = n →
        ∀ j ∈ (OT.alt i t m).alts, wpOp P ops Q j (fun a' w' => (false = false → S w → S w') ∧ AnyT P .any ops Q S (fun _ => false) n (listed.setIfInBounds j true) a' w') a w := by
      intro listed a w n h1 h2 h3 hS h hn j hj
      unfold wpF at h
      obtain ⟨h4, h5⟩ := h
      rcases List.mem_cons.1 hj with rfl | hj
      · cases ho : ops[j]? with
        | none => rw [ho] at h4; exact h4.elim
        | some o =>
          rw [ho] at h4
          obtain ⟨hg, hwp⟩ := h4
          unfold wpOp
          rw [ho]
          simp only [wanted_none' hg, if_true]
          exact .inl (Oper.wp_mono (fun a' w' h' => ⟨fun _ _ => h'.1, by rw [← hn]; exact (anyF hsel hQ t).1 _ _ _ h1 h'.1 h'.2⟩) hwp)
      · refine (anyF hsel hQ m).2 listed a w n h2 hS h5 (fun i' t' m' hm => ?_) j hj
        subst hm
        simp only at h3
        omega
    refine ⟨fun listed a w hok hS h => ?_, fun listed a w n hok hS h hn => ?_⟩
    · simp only [okF, Bool.false_or, Bool.and_eq_true, beq_iff_eq] at hok
      obtain ⟨⟨⟨h1, h2⟩, h3⟩, h4⟩ := hok
      show AnyT P .any ops Q S _ (t.fuel + 1) listed a w
      refine ⟨fun h0 => (by rw [h1] at h0; cases h0), fun j hj => ?_⟩
      rw [h1] at hj
      exact two listed a w t.fuel h2 h4 h3 hS h rfl j hj
    · simp only [okF, Bool.true_or, Bool.true_and, Bool.and_eq_true, beq_iff_eq] at hok
      obtain ⟨⟨h2, h3⟩, h4⟩ := hok
      exact two listed a w n h2 h4 h3 hS h (hn i t m rfl)
theorem wp_region_F {id : Nat} {a : Act} {w : World} {l : List Oper} (S : World → Prop) (t : OT) (hm : P.follows .mixedOrders = true)
    (hB : (Region.noSelect l.toArray && okF l.toArray t (Array.replicate l.length false) false && t.fuel == l.length) = true)
    (hQ : ∀ c t df w, Q (.panic c) ⟨t, df⟩ w → ∀ t', Q (.panic c) ⟨t', df⟩ w) (hS : S w.drew)
    (h : wpF P l.toArray Q S t a w.drew) : (Code.region id l.toArray true).wp P Q a w := by
  simp only [Bool.and_eq_true, beq_iff_eq] at hB
  refine wp_region_any hm (any_of_anyT (S := S) (tail := fun _ => false) _ _ _ _ ?_)
  have hQ' : ∀ c a d v w, Q (.panic c) (Act.put a d v) w → Q (.panic c) a w := fun c a d v w h => by
    cases d with
    | none => exact h
    | some d => exact hQ c _ _ w h _
  have := (anyF (P := P) (Q := Q) (S := S) hB.1.1 hQ' t).1 (Array.replicate l.length false) a w.drew hB.1.2 hS h
  rw [hB.2] at this
  simpa using this
variable {l : List Oper}
theorem wpF_id {r : OT} {a : Act} {w : World} (h : wpF P ops Q S r a w) : wpF P ops Q S r a w := h
theorem wpF_done {a : Act} {w : World} (h : Q .normal a w) : wpF P ops Q S .done a w := h
theorem wpF_stop {a : Act} {w : World} : wpF P ops Q S .stop a w := trivial
theorem wpF_take {i : Nat} {o : Oper} {r : OT} {a : Act} {w : World} {v : Value} (ho : nth l i = some o) (hg : o.guard = none)
    (hv : ∀ w', S w' → (execOp a.eval o).run P w' = .ok (.value v) w')
    (h : wpF P l.toArray Q S r (a.put o.dst v) w) : wpF P l.toArray Q S (.step 0 i r) a w := by
  have hw := wanted_none (y := yielded l.toArray a.tmps) hg
  unfold wpF; rw [← nth_eq, ho]; simp only [hw, if_true]; exact ⟨v, fun w' h0 => hv w' (by simpa using h0), h⟩
theorem wpF_alt {i : Nat} {o : Oper} {r m : OT} {a : Act} {w : World} (ho : nth l i = some o) (hg : o.guard = none)
    (h : ∀ K : Act → World → Prop, (∀ a w, S w ∧ wpF P l.toArray Q S r a w → K a w) → o.wp P a w K Q) (hm : wpF P l.toArray Q S m a w) : wpF P l.toArray Q S (.alt i r m) a w := by
  unfold wpF; rw [← nth_eq, ho]; exact ⟨⟨hg, h _ fun _ _ h => h⟩, hm⟩
theorem wpF_go {r : OT} {a : Act} {w : World} (hS : S w) (h : wpF P ops Q S r a w) : S w ∧ wpF P ops Q S r a w := ⟨hS, h⟩
attribute [irreducible] wpF
end
end Sedge
end
section
/-
  Boxes whose cells are set, one by one.
-/
set_option linter.unusedSimpArgs false
set_option linter.unusedVariables false
open Go Go.RowKit Sedge
namespace Go.Proofs.Ytcmggfpcbijcjaa
theorem Box.setCell_eq {w : World} {p i : Nat} {cs : Array Value} (h : Box w p cs) (v : Value) : w.setCell ⟨p, i, none⟩ v = upd w p (cs.setIfInBounds i v) := by
  have e : w = upd w p cs := h.self.symm
  rw [e, setCell_upd, upd_upd]
theorem _root_.Sedge.But.setCell {V w : World} {G : List Nat} {a : Addr} (h : But V G w) (hg : a.block ∈ G ∨ V.heap.size ≤ a.block) (v : Value) : But V G (w.setCell a v) := by
  refine ⟨h.os, h.tape, h.output, by simpa [World.setCell] using h.size, fun k hk hG => ?_⟩
  have hne : a.block ≠ k := by
    rintro rfl
    rcases hg with hg | hg
    · exact hG hg
    · omega
  rw [← h.block k hk hG]
  show (w.heap.modify _ _)[k]? = _
  rw [Array.getElem?_modify, if_neg hne]
theorem Box.but2 {w w' : World} {G : List Nat} {p : Nat} {cs : Array Value} (h : Box w p cs) (hb : But w G w') (hn : p ∉ G) : Box w' p cs := by
  have hl := h.lt
  obtain ⟨e, he⟩ := h
  exact ⟨e, (hb.block p hl hn).trans he⟩
theorem Box.setCell_ne {w : World} {p : Nat} {cs : Array Value} (h : Box w p cs) {a : Addr} (hn : a.block ≠ p) (v : Value) : Box (w.setCell a v) p cs := by
  obtain ⟨e, he⟩ := h
  refine ⟨e, ?_⟩
  show (w.heap.modify _ _)[p]? = _
  rw [Array.getElem?_modify, if_neg hn]; exact he
theorem Box.set5 {w : World} {p : Nat} {cs : Array Value} (h : Box w p cs) (hs : cs.size = 5) (a b c d e : Value) : ((((w.setCell ⟨p, 0, none⟩ a).setCell ⟨p, 1, none⟩ b).setCell ⟨p, 2, none⟩ c).setCell ⟨p, 3, none⟩ d).setCell ⟨p, 4, none⟩ e = upd w p #[a, b, c, d, e] := by
  have e : (((((cs.setIfInBounds 0 a).setIfInBounds 1 b).setIfInBounds 2 c).setIfInBounds 3 d).setIfInBounds 4 e) = #[a, b, c, d, e] := by
    apply Array.ext_getElem?
    intro i
    simp only [Array.getElem?_setIfInBounds, Array.size_setIfInBounds, hs]
    rcases i with _ | _ | _ | _ | _ | i <;> simp [hs]
  rw [h.setCell_eq, setCell_upd, setCell_upd, setCell_upd, setCell_upd, e]
end Go.Proofs.Ytcmggfpcbijcjaa
end
section
/-
  Contract for GemmWhole: the closure that draws a matrix out of a list (86).
-/
set_option linter.unusedSimpArgs false
set_option linter.unusedVariables false
open Go Go.RowKit Sedge
namespace Go.Proofs.Ytcmggfpcbijcjaa
theorem rem51 (z : Int) : (z.tmod 51).natAbs ≤ 50 := by
  have h1 : (z.tmod 51).natAbs = z.natAbs % 51 := Int.natAbs_tmod z 51
  omega
/-- Whole numbers within 50. -/
def W50 (L : List Nat) : Prop := ∀ i, i < L.length → ∃ z : Int, WI (L.getD i 0) z ∧ z.natAbs ≤ 50
theorem W50.zero (n : Nat) : W50 (List.replicate n 0) := fun i hi => ⟨0, by
  rw [List.getD_eq_getElem?_getD, List.getElem?_replicate, if_pos (by simpa using hi)]; exact WI.zero, by decide⟩
theorem W50.set {L : List Nat} (h : W50 L) {i x : Nat} {z : Int} (hx : WI x z) (hz : z.natAbs ≤ 50) : W50 (L.set i x) := fun k hk => by
  rw [List.length_set] at hk
  by_cases e : i = k
  · subst e; exact ⟨z, by rw [getD_set_self hk]; exact hx, hz⟩
  · rw [getD_set_ne e]; exact h k hk
set_option maxRecDepth 100000 in
set_option maxHeartbeats 4000000 in
theorem make1_ok (r c k : Nat) (hr : r ≤ 6) (hr1 : 1 ≤ r) (hc : c ≤ 6) (hc1 : 1 ≤ c) (ls : List Int) (SL : Value) (bL : ∀ k, (ls.getD k 0).natAbs ≤ 128) (ql qk : Nat) (w : World) (hL : ∀ w', But w [qk] w' → IS .i8 w' SL ls) (BL : Box w ql #[SL]) (BK : Box w qk #[.int .i64 k]) (hk : k ≤ ls.length) (nq : ql ≠ qk) :
    Calls Try.prog 86 #[.int .i64 r, .int .i64 c, .pointer (some ⟨qk, 0, none⟩), .pointer (some ⟨ql, 0, none⟩)] w (fun e w' => ∃ g L k', e = .returned (.agg #[.slice (some ⟨g, 0, none⟩) (r * c) (r * c), .int .i64 0, .int .i64 r, .int .i64 c, .int .i64 r]) ∧ w.heap.size ≤ g ∧ FW w' g L ∧ L.length = r * c ∧ W50 L ∧ But w [qk] w' ∧ Box w' qk #[.int .i64 (k' : Nat)] ∧ k' ≤ ls.length) := by
  have hrc : r * c ≤ 6 * 6 := Nat.mul_le_mul hr hc
  have hll := (hL w (But.refl _ _)).len
  obtain ⟨aL, cL, rfl⟩ := (hL w (But.refl _ _)).shape
  have HL := hid hL
  have HbL := hid bL
  have lk0 := BK.lt
  have ll0 := BL.lt
  clear hL bL
  go_enter Try.func86, Try.ntmps86
  go_upto_region 2 with (first | (go_at_call 69; ((with_reducible refine (dense0k_any r c _ (by omega) (by omega) hr1).mono ?_); rintro e w1 ⟨g, rfl, hg, hF, o2, n2, rfl⟩)))
  refine name_any (fun V hV => ?_)
  obtain ⟨p6, hp6⟩ : ∃ p, p = w.heap.size := ⟨_, rfl⟩
  obtain ⟨p7, hp7⟩ : ∃ p, p = w.heap.size + 1 + o2.size := ⟨_, rfl⟩
  have gV : Grew w V := by rw [← hV]; (show Grew _ _; (try simp only [← Array.append_assoc]); repeat (first | (with_reducible exact Grew.same_o) | (with_reducible exact Grew.refl _) | (with_reducible assumption) | (with_reducible refine Grew.alloc ?_ _) | (with_reducible refine Grew.app_r ?_) | ((with_reducible refine Grew.setCell ?_ ?_ _); rotate_left; (focus (dsimp only; first | omega | (simp only [size_ext, World.size_alloc, Array.size_append]; omega)))) | (with_reducible refine Grew.ext ?_ _ _) | (with_reducible refine Grew.drewN ?_ _) | (with_reducible refine Grew.drew ?_)))
  have X6 : Box V p6 #[.slice none 0 0, .int .i64 0, .int .i64 0, .int .i64 0, .int .i64 0] := by rw [← hV]; exact (Box.new' hp6).grew (by (show Grew _ _; (try simp only [← Array.append_assoc]); repeat (first | (with_reducible exact Grew.same_o) | (with_reducible exact Grew.refl _) | (with_reducible assumption) | (with_reducible refine Grew.alloc ?_ _) | (with_reducible refine Grew.app_r ?_) | ((with_reducible refine Grew.setCell ?_ ?_ _); rotate_left; (focus (dsimp only; first | omega | (simp only [size_ext, World.size_alloc, Array.size_append]; omega)))) | (with_reducible refine Grew.ext ?_ _ _) | (with_reducible refine Grew.drewN ?_ _) | (with_reducible refine Grew.drew ?_))))
  have X7 : Box V p7 #[.slice (some ⟨g, 0, none⟩) (r * c) (r * c), .int .i64 0, .int .i64 r, .int .i64 c, .int .i64 r] := by rw [← hV]; exact Box.new' (by rw [hp7]; simp only [size_ext, World.size_alloc])
  have F0 : FW V g (List.replicate (r * c) 0) := by rw [← hV]; exact hF.grew (by (show Grew _ _; (try simp only [← Array.append_assoc]); repeat (first | (with_reducible exact Grew.same_o) | (with_reducible exact Grew.refl _) | (with_reducible assumption) | (with_reducible refine Grew.alloc ?_ _) | (with_reducible refine Grew.app_r ?_) | ((with_reducible refine Grew.setCell ?_ ?_ _); rotate_left; (focus (dsimp only; first | omega | (simp only [size_ext, World.size_alloc, Array.size_append]; omega)))) | (with_reducible refine Grew.ext ?_ _ _) | (with_reducible refine Grew.drewN ?_ _) | (with_reducible refine Grew.drew ?_))))
  have lg := hF.lt
  simp only [size_ext, World.size_alloc] at lg hg
  have n67 : p6 ≠ p7 := by omega
  have n6g : p6 ≠ g := by omega
  have n7g : p7 ≠ g := by omega
  have n6k : p6 ≠ qk := by omega
  have n7k : p7 ≠ qk := by omega
  have ngk : g ≠ qk := by omega
  have nlg : ql ≠ g := by omega
  have zg : w.heap.size ≤ g := by omega
  have z6 : w.heap.size ≤ p6 := by omega
  have BLV := BL.grew gV
  have BKV := BK.grew gV
  simp only [← hp7]
  simp only [← hp6]
  clear hV hp6 hp7 hF hg lg BL BK
  go_wp2
  go_loopw [8] (fun c1 wr => ∃ (i k : Nat) (L : List Nat), i ≤ r * c ∧ c1 = .int .i64 i ∧ But V [qk, g] wr ∧ Box wr qk #[.int .i64 k] ∧ k ≤ ls.length ∧ FW wr g L ∧ L.length = r * c ∧ W50 L) (fun c1 _ => r * c - (intOf c1).toNat)
  case atStart => exact ⟨0, k, _, Nat.zero_le _, rfl, But.refl _ _, BKV, hk, F0, by simp, W50.zero _⟩
  case round =>
    clear F0 BKV hk k
    obtain ⟨i, k, L, hi, rfl, hB, BK, hk, FL, eL, hW⟩ := hrel
    have B7 := Box.but2 X7 hB (by simp; omega)
    have B6 := Box.but2 X6 hB (by simp; omega)
    have Bl := Box.but2 BLV hB (by simp; omega)
    have t7 := B7.cell
    have l7 := B7.lt
    have tl := Bl.cell
    have ll := Bl.lt
    have tk := BK.cell
    have lk := BK.lt
    by_cases hlt : i < r * c
    · have d1 : decide ((i : Int) < ((r * c : Nat) : Int)) = true := by simp; omega
      by_cases hkl : k < ls.length
      · have hBw : But w [qk] wr := ((But.refl w [qk]).grew gV).trans hB (by intro b hb; simp at hb ⊢; omega)
        obtain ⟨bl, ol, e, kbl, hlc⟩ := (HL.out wr hBw).at.2 (by omega)
        subst e
        have hl0 := hlc k hkl
        obtain ⟨y, hy⟩ : ∃ y, y = ls.getD k 0 := ⟨_, rfl⟩
        rw [← hy] at hl0
        have hyb : y.natAbs ≤ 128 := by rw [hy]; exact HbL.out k
        have d2 : decide ((k : Int) < (ls.length : Int)) = true := by simp; omega
        have y64 : IntKind.i64.wrap y = y := IntWalk.i64_in _ (by omega)
        have yr := rem51 y
        have wy : WI (fint (y.tmod 51)) (y.tmod 51) := fint_int (by omega)
        have fy : IsF (floatOfInt .f64 (y.tmod 51)) (fint (y.tmod 51)) := wy.isF
        have k1 : IntKind.i64.wrap ((k : Int) + 1) = (k : Int) + 1 := IntWalk.i64_in _ (by omega)
        obtain ⟨b0, hb0, hx0⟩ := FL.get (i := i) (by omega)
        have fz := FL.notFrozen
        have fk := BK.frozen
        have lgw := FL.lt
        clear hlc hy hx0
        go_wp2
        refine wp_region_R (Grew wr) [11] [(3,0), (0,1), (3,2), (0,3), (0,4), (3,5), (0,6), (3,7), (3,8), (3,9), (3,10), (2,11)] (by kernel_rfl) (by kernel_rfl) (fun _ _ _ _ h _ => h) (by first | exact ⟨_, _, ext_drew⟩ | exact ⟨_, _, drew_ext0⟩ | (show Grew _ _; repeat (first | (with_reducible exact Grew.refl _) | (with_reducible assumption) | (with_reducible exact Grew.same_o) | (with_reducible exact Grew.app_o) | (with_reducible refine Grew.ext ?_ _ _) | (with_reducible refine Grew.alloc ?_ _) | ((with_reducible refine Grew.setCell ?_ ?_ _); rotate_left; (focus (dsimp only; first | omega | (simp only [size_ext, World.size_alloc, Array.size_append]; omega)))) | (with_reducible refine Grew.drewN ?_ _) | (with_reducible refine Grew.drew ?_)))) ?_
        go_wp2_with (first | ((with_reducible refine wpR_id ?_); first | (refine wpR_take (v := ?_) rfl rfl ?_ ?_; rotate_left; (focus (rintro w' ⟨o', n', rfl⟩; go_simp; try with_reducible rfl)); simp only [Act.put, List.setIfInBounds_toArray, List.set_cons_zero, List.set_cons_succ]) | (refine wpR_pure (v := ?_) rfl rfl ?_ ?_; rotate_left; (focus (intro w'; go_simp; try with_reducible rfl)); simp only [Act.put, List.setIfInBounds_toArray, List.set_cons_zero, List.set_cons_succ]) | (refine wpR_takeG (v := ?_) rfl rfl rfl rfl rfl ?_ ?_; rotate_left; (focus (rintro w' ⟨o', n', rfl⟩; go_simp; try with_reducible rfl)); simp only [Act.put, List.setIfInBounds_toArray, List.set_cons_zero, List.set_cons_succ]) | (refine wpR_skip rfl rfl rfl rfl rfl rfl ?_; simp only [Act.put, List.setIfInBounds_toArray, List.set_cons_zero, List.set_cons_succ]) | (refine wpR_skipU rfl rfl rfl rfl rfl ?_; simp only [Act.put, List.setIfInBounds_toArray, List.set_cons_zero, List.set_cons_succ]) | (refine wpR_do rfl rfl (fun K hK => ?_)) | (refine wpR_doG rfl rfl rfl rfl rfl (fun K hK => ?_)) | (refine wpR_last rfl rfl (fun K hK => ?_)) | (refine wpR_nil ?_)) | ((with_reducible refine wpR_go ?_ ?_); (focus (show Grew _ _; repeat (first | (with_reducible exact Grew.refl _) | (with_reducible assumption) | (with_reducible exact Grew.same_o) | (with_reducible exact Grew.app_o) | (with_reducible refine Grew.ext ?_ _ _) | (with_reducible refine Grew.alloc ?_ _) | ((with_reducible refine Grew.setCell ?_ ?_ _); rotate_left; (focus (dsimp only; first | omega | (simp only [size_ext, World.size_alloc, Array.size_append]; omega)))) | (with_reducible refine Grew.drewN ?_ _) | (with_reducible refine Grew.drew ?_))))) | ((with_reducible refine upon_id ?_); refine upon_fop rfl (by assumption) (by assumption) ?_; intro rr nn hr))
        go_roundw
        case rel =>
          have q1 := Box.setCell_ne BK (a := ⟨g, i, none⟩) ngk (.float .f64 (floatOfInt .f64 (y.tmod 51)))
          have q2 : Box ((wr.setCell ⟨g, i, none⟩ (.float .f64 (floatOfInt .f64 (y.tmod 51)))).setCell ⟨qk, 0, none⟩ (.int .i64 ((k : Int) + 1))) qk #[.int .i64 ((k + 1 : Nat) : Int)] := by rw [q1.setCell_eq]; exact q1.upd_self _
          exact ⟨i + 1, k + 1, L.set i (fint (y.tmod 51)), hlt, by go_num, ((hB.setCell (a := ⟨g, i, none⟩) (.inl (by simp)) _).setCell (a := ⟨qk, 0, none⟩) (.inl (by simp)) _).grew (by (show Grew _ _; (try simp only [← Array.append_assoc]); repeat (first | (with_reducible exact Grew.same_o) | (with_reducible exact Grew.refl _) | (with_reducible assumption) | (with_reducible refine Grew.alloc ?_ _) | (with_reducible refine Grew.app_r ?_) | ((with_reducible refine Grew.setCell ?_ ?_ _); rotate_left; (focus (dsimp only; first | omega | (simp only [size_ext, World.size_alloc, Array.size_append]; omega)))) | (with_reducible refine Grew.ext ?_ _ _) | (with_reducible refine Grew.drewN ?_ _) | (with_reducible refine Grew.drew ?_)))), q2.grew (by (show Grew _ _; (try simp only [← Array.append_assoc]); repeat (first | (with_reducible exact Grew.same_o) | (with_reducible exact Grew.refl _) | (with_reducible assumption) | (with_reducible refine Grew.alloc ?_ _) | (with_reducible refine Grew.app_r ?_) | ((with_reducible refine Grew.setCell ?_ ?_ _); rotate_left; (focus (dsimp only; first | omega | (simp only [size_ext, World.size_alloc, Array.size_append]; omega)))) | (with_reducible refine Grew.ext ?_ _ _) | (with_reducible refine Grew.drewN ?_ _) | (with_reducible refine Grew.drew ?_)))), by omega, ((FL.setc fy).setCell_ne (a := ⟨qk, 0, none⟩) (fun e => ngk e.symm) _).grew (by (show Grew _ _; (try simp only [← Array.append_assoc]); repeat (first | (with_reducible exact Grew.same_o) | (with_reducible exact Grew.refl _) | (with_reducible assumption) | (with_reducible refine Grew.alloc ?_ _) | (with_reducible refine Grew.app_r ?_) | ((with_reducible refine Grew.setCell ?_ ?_ _); rotate_left; (focus (dsimp only; first | omega | (simp only [size_ext, World.size_alloc, Array.size_append]; omega)))) | (with_reducible refine Grew.ext ?_ _ _) | (with_reducible refine Grew.drewN ?_ _) | (with_reducible refine Grew.drew ?_)))), by rw [List.length_set]; exact eL, hW.set wy yr⟩
        case measure => simp [intOf]; omega
      · have d2 : decide ((k : Int) < (ls.length : Int)) = false := by simp; omega
        have t6 := B6.cell
        have f6 := B6.frozen
        have l6 := B6.lt
        go_wp2
        refine bodyPost_ret (v := .agg #[.slice (some ⟨g, 0, none⟩) (r * c) (r * c), .int .i64 0, .int .i64 r, .int .i64 c, .int .i64 r]) (by simp [results, Try.results86, go_sem, *]) rfl ?_
        have gw : But w [qk] wr := ((But.refl w [qk]).grew gV).trans hB (by intro b hb; simp at hb ⊢; omega)
        have h1 : FW (((((wr.setCell ⟨p6, 0, none⟩ (.slice (some ⟨g, 0, none⟩) (r * c) (r * c))).setCell ⟨p6, 1, none⟩ (.int .i64 0)).setCell ⟨p6, 2, none⟩ (.int .i64 r)).setCell ⟨p6, 3, none⟩ (.int .i64 c)).setCell ⟨p6, 4, none⟩ (.int .i64 r)) g L := ((((FL.setCell_ne n6g _).setCell_ne n6g _).setCell_ne n6g _).setCell_ne n6g _).setCell_ne n6g _
        have h2 : But w [qk] (((((wr.setCell ⟨p6, 0, none⟩ (.slice (some ⟨g, 0, none⟩) (r * c) (r * c))).setCell ⟨p6, 1, none⟩ (.int .i64 0)).setCell ⟨p6, 2, none⟩ (.int .i64 r)).setCell ⟨p6, 3, none⟩ (.int .i64 c)).setCell ⟨p6, 4, none⟩ (.int .i64 r)) := ((((gw.setCell (.inr z6) _).setCell (.inr z6) _).setCell (.inr z6) _).setCell (.inr z6) _).setCell (.inr z6) _
        have h3 : Box (((((wr.setCell ⟨p6, 0, none⟩ (.slice (some ⟨g, 0, none⟩) (r * c) (r * c))).setCell ⟨p6, 1, none⟩ (.int .i64 0)).setCell ⟨p6, 2, none⟩ (.int .i64 r)).setCell ⟨p6, 3, none⟩ (.int .i64 c)).setCell ⟨p6, 4, none⟩ (.int .i64 r)) qk #[.int .i64 k] := ((((BK.setCell_ne n6k _).setCell_ne n6k _).setCell_ne n6k _).setCell_ne n6k _).setCell_ne n6k _
        first | exact ⟨g, L, k, rfl, zg, h1, eL, hW, h2, h3, hk⟩ | exact ⟨g, rfl, zg, L, h1, eL, hW, h2, k, h3, hk⟩
    · have d1 : decide ((i : Int) < ((r * c : Nat) : Int)) = false := by simp; omega
      have t6 := B6.cell
      have f6 := B6.frozen
      have l6 := B6.lt
      go_wp2
      refine bodyPost_ret (v := .agg #[.slice (some ⟨g, 0, none⟩) (r * c) (r * c), .int .i64 0, .int .i64 r, .int .i64 c, .int .i64 r]) (by simp [results, Try.results86, go_sem, *]) rfl ?_
      have gw : But w [qk] wr := ((But.refl w [qk]).grew gV).trans hB (by intro b hb; simp at hb ⊢; omega)
      have h1 : FW (((((wr.setCell ⟨p6, 0, none⟩ (.slice (some ⟨g, 0, none⟩) (r * c) (r * c))).setCell ⟨p6, 1, none⟩ (.int .i64 0)).setCell ⟨p6, 2, none⟩ (.int .i64 r)).setCell ⟨p6, 3, none⟩ (.int .i64 c)).setCell ⟨p6, 4, none⟩ (.int .i64 r)) g L := ((((FL.setCell_ne n6g _).setCell_ne n6g _).setCell_ne n6g _).setCell_ne n6g _).setCell_ne n6g _
      have h2 : But w [qk] (((((wr.setCell ⟨p6, 0, none⟩ (.slice (some ⟨g, 0, none⟩) (r * c) (r * c))).setCell ⟨p6, 1, none⟩ (.int .i64 0)).setCell ⟨p6, 2, none⟩ (.int .i64 r)).setCell ⟨p6, 3, none⟩ (.int .i64 c)).setCell ⟨p6, 4, none⟩ (.int .i64 r)) := ((((gw.setCell (.inr z6) _).setCell (.inr z6) _).setCell (.inr z6) _).setCell (.inr z6) _).setCell (.inr z6) _
      have h3 : Box (((((wr.setCell ⟨p6, 0, none⟩ (.slice (some ⟨g, 0, none⟩) (r * c) (r * c))).setCell ⟨p6, 1, none⟩ (.int .i64 0)).setCell ⟨p6, 2, none⟩ (.int .i64 r)).setCell ⟨p6, 3, none⟩ (.int .i64 c)).setCell ⟨p6, 4, none⟩ (.int .i64 r)) qk #[.int .i64 k] := ((((BK.setCell_ne n6k _).setCell_ne n6k _).setCell_ne n6k _).setCell_ne n6k _).setCell_ne n6k _
      first | exact ⟨g, L, k, rfl, zg, h1, eL, hW, h2, h3, hk⟩ | exact ⟨g, rfl, zg, L, h1, eL, hW, h2, k, h3, hk⟩
end Go.Proofs.Ytcmggfpcbijcjaa
end
section
/-
  Contract: gemm.Mul.
-/
set_option linter.unusedSimpArgs false
set_option linter.unusedVariables false
open Go Go.RowKit Sedge
namespace Go.Proofs.Ytcmggfpcbijcjaa
theorem Plain.but {w w' : World} {b g : Nat} (h : Plain w b) (hB : But w [g] w') (hL : b = g → Plain w' b) : Plain w' b := by
  by_cases e : b = g
  · exact hL e
  · obtain ⟨c, t, h1⟩ := h
    exact ⟨c, t, (hB.block b ((Array.getElem?_eq_some_iff.1 h1).1) (by simpa using e)).trans h1⟩
theorem meet_noM {z x : MatM} (hz : z.good = true) (hx : x.good = true) (h : meetM z x true = false) {i j i' j' : Nat} (hi : (i : Int) < z.rows) (hj : (j : Int) < z.cols) (hi' : (i' : Int) < x.rows) (hj' : (j' : Int) < x.cols) : z.place i j ≠ x.place i' j' := by
  intro e
  have f1 : MatM.full z = true := by unfold MatM.full; rw [hz]; simp; omega
  have f2 : MatM.full x = true := by unfold MatM.full; rw [hx]; simp; omega
  have pz := MatM.good_place hz hi hj
  have px := MatM.good_place hx hi' hj'
  have hn := z.good_n hz
  have hmn := x.good_n hx
  unfold MatM.place at e
  have e' : z.off + i + j * z.ld = x.off + i' + j' * x.ld := by omega
  have k1 : (j : Int) * z.ld ≤ (z.cols - 1) * z.ld := Int.mul_le_mul_of_nonneg_right (by omega) (by omega)
  have k2 : (j' : Int) * x.ld ≤ (x.cols - 1) * x.ld := Int.mul_le_mul_of_nonneg_right (by omega) (by omega)
  unfold meetM spanLo spanHi at h
  rw [f1, f2] at h
  simp at h
  omega
/-- A matrix' list as it stands, in its own list or in z's, clear of z. -/
theorem pick_list {z x : MatM} {bx g cx : Nat} {w w' : World} {L : List Nat} {s : Nat → Nat → Nat} (hz : z.good = true) (hx : x.good = true) (hX : FS w (.slice (some ⟨bx, 0, none⟩) x.ws.length cx) x.ws) (hB : But w [g] w') (hL : FW w' g L) (hH : Hold z.place z.rows.toNat z.cols.toNat z.ws L s)
    (hxg : bx = g → x.ws = z.ws) (hm : meetM z x (decide (g = bx)) = false) (hl : x.ws.length ≤ 1000000) :
    ∃ K : List Nat, K.length = x.ws.length ∧ FS w' (.slice (some ⟨bx, 0, none⟩) x.ws.length cx) K ∧ (∀ i j : Nat, (i : Int) < x.rows → (j : Int) < x.cols → K.getD (x.place i j) 0 = x.num i j) ∧ (bx = g → K = L) := by
  by_cases h : bx = g
  · rw [show decide (g = bx) = true by simpa using h.symm] at hm
    have hlen : L.length = x.ws.length := by rw [hH.len, hxg h]
    have hf := hL.fs (by rw [hlen]; omega) cx
    rw [hlen, ← h] at hf
    refine ⟨L, hlen, hf, fun i j hi hj => ?_, fun _ => rfl⟩
    rw [hH.rest _ (fun i' j' h1 h2 => meet_noM hz hx hm (by omega) (by omega) hi hj), ← hxg h]
    rfl
  · exact ⟨x.ws, rfl, hB.fs_ne hX h, fun _ _ _ _ => rfl, fun e => absurd e h⟩
theorem mulTo_congr {α : Nat} {M M' : Nat → Nat → Nat} {X X' : Nat → Nat} {z r : Nat} : ∀ n, (∀ k, k < n → M r k = M' r k ∧ X k = X' k) → mulTo α M X z r n = mulTo α M' X' z r n
  | 0, _ => rfl
  | n + 1, h => by unfold mulTo; rw [mulTo_congr n (fun k hk => h k (by omega)), (h n (by omega)).1, (h n (by omega)).2]
def gemmF (α β : Nat) (x y z : MatM) (r c : Nat) : Nat := mulTo α x.num (fun k => y.num k c) (beginF β (z.num r c)) r x.cols.toNat
def stepC (F s : Nat → Nat → Nat) (j : Nat) (r c : Nat) : Nat := if c < j then F r c else s r c
/-- One column's product. -/
theorem gemm_col (a α b β : Nat) (x y z : MatM) (bx cx bz cz g cg : Nat) (w : World) (hX : FS w (.slice (some ⟨bx, 0, none⟩) x.ws.length cx) x.ws) (hY : FS w (.slice (some ⟨bz, 0, none⟩) y.ws.length cz) y.ws) (hF : FW w g z.ws) (hPx : Plain w bx) (hPy : Plain w bz) (hx : x.good = true) (hy : y.good = true) (hz : z.good = true) (e1 : x.cols = y.rows) (e2 : z.rows = x.rows) (e3 : z.cols = y.cols) (m1 : meetM z x (decide (g = bx)) = false) (m2 : meetM z y (decide (g = bz)) = false) (hxg : bx = g → x.ws = z.ws) (hyg : bz = g → y.ws = z.ws) (hwx : x.wf) (hwy : y.wf) (hwz : z.wf) (hlx : x.ws.length ≤ 1000000) (hly : y.ws.length ≤ 1000000) (hlz : z.ws.length ≤ 1000000) (kbx : bx < w.heap.size) (kbz : bz < w.heap.size) (ha : IsF a α) (hb : IsF b β) (h0 : 0 < z.rows) (j : Nat) (hj : (j : Int) < z.cols) :
    ∀ w' L, But w [g] w' → FW w' g L → Hold z.place z.rows.toNat z.cols.toNat z.ws L (stepC (gemmF α β x y z) z.num j) →
    Calls Try.prog 149 #[.agg #[.slice (some ⟨bz, 0, none⟩) y.ws.length cz, .int .i64 y.off, .int .i64 y.rows, .int .i64 y.cols, .int .i64 y.ld], .int .i64 j] w' (fun e w2 => e = .returned (.agg #[.slice (some ⟨bz, 0, none⟩) y.ws.length cz, .int .i64 (colV y j).off, .int .i64 y.rows, .int .i64 1]) ∧ ∃ o n, w2 = ext w' o n) ∧
    Calls Try.prog 149 #[.agg #[.slice (some ⟨g, 0, none⟩) z.ws.length cg, .int .i64 z.off, .int .i64 z.rows, .int .i64 z.cols, .int .i64 z.ld], .int .i64 j] w' (fun e w2 => e = .returned (.agg #[.slice (some ⟨g, 0, none⟩) z.ws.length cg, .int .i64 (colV z j).off, .int .i64 z.rows, .int .i64 1]) ∧ ∃ o n, w2 = ext w' o n) ∧
    Calls Try.prog 71 #[.float .f64 a, .agg #[.slice (some ⟨bx, 0, none⟩) x.ws.length cx, .int .i64 x.off, .int .i64 x.rows, .int .i64 x.cols, .int .i64 x.ld], .agg #[.slice (some ⟨bz, 0, none⟩) y.ws.length cz, .int .i64 (colV y j).off, .int .i64 y.rows, .int .i64 1], .float .f64 b, .agg #[.slice (some ⟨g, 0, none⟩) z.ws.length cg, .int .i64 (colV z j).off, .int .i64 z.rows, .int .i64 1]] w' (fun e w2 => e = .returned (.int .i64 0) ∧ But w' [g] w2 ∧ ∃ L', FW w2 g L' ∧ Hold z.place z.rows.toNat z.cols.toNat z.ws L' (stepC (gemmF α β x y z) z.num (j + 1))) := by
  intro w' L hB hL hH
  have hnz := z.good_n hz
  have hnx := x.good_n hx
  have hny := y.good_n hy
  obtain ⟨Kx, lx, fx, nx, gx⟩ := pick_list hz hx hX hB hL hH hxg m1 hlx
  obtain ⟨Ky, ly, fy, ny, gy⟩ := pick_list hz hy hY hB hL hH hyg m2 hly
  have lz : L.length = z.ws.length := hH.len
  have fz := hL.fs (by rw [lz]; omega) cg
  rw [lz] at fz
  have hjy : (j : Int) < y.cols := by omega
  have c1 := col_any (withL y Ky) (.slice (some ⟨bz, 0, none⟩) y.ws.length cz) j w' fy (by rw [withL_good ly]; exact hy) hwy hjy
  have c2 := col_any (withL z L) (.slice (some ⟨g, 0, none⟩) z.ws.length cg) j w' fz (by rw [withL_good lz]; exact hz) hwz hj
  refine ⟨c1, c2, ?_⟩
  have zg : (withL z L).good = true := by rw [withL_good lz]; exact hz
  have yg : (withL y Ky).good = true := by rw [withL_good ly]; exact hy
  have xg : (withL x Kx).good = true := by rw [withL_good lx]; exact hx
  have k1 : meetM (withL z L) (withL x Kx) (decide (g = bx)) = false := by rw [meet_withL lz lx]; exact m1
  have k2 : meetM (withL z L) (withL y Ky) (decide (g = bz)) = false := by rw [meet_withL lz ly]; exact m2
  have k3 : meetM (rowM (colV (withL z L) j)) (withL x Kx) (decide (g = bx)) = false := meet_col zg hj k1
  have k4 : meetM (rowM (colV (withL z L) j)) (rowM (colV (withL y Ky) j)) (decide (g = bz)) = false := by
    rw [meet_comm]
    refine meet_col yg hjy ?_
    rw [meet_comm]
    exact meet_col zg hj k2
  have hok : MulOk (withL x Kx) (colV (withL y Ky) j) (colV (withL z L) j) bx cx bz cz g cg x.rows x.cols w' := by
    refine ⟨?_, ?_, ?_, Plain.but hPx hB (fun e => e ▸ FW.plain hL), Plain.but hPy hB (fun e => e ▸ FW.plain hL), FW.plain hL, xg, colV_right' yg hjy, colV_right' zg hj, e1.symm, e2, k3, k4, hwx, colV_wf yg (by show Ky.length ≤ _; omega) hwy hjy, colV_wf zg (by show L.length ≤ _; omega) hwz hj, by show Kx.length ≤ _; omega, by show Ky.length ≤ _; omega, by show L.length ≤ _; omega⟩
    · show FS w' (.slice (some ⟨bx, 0, none⟩) Kx.length cx) Kx; rw [lx]; exact fx
    · show FS w' (.slice (some ⟨bz, 0, none⟩) Ky.length cz) Ky; rw [ly]; exact fy
    · show FS w' (.slice (some ⟨g, 0, none⟩) L.length cg) L; rw [lz]; exact fz
  have h := mul_ok a α b β (withL x Kx) (colV (withL y Ky) j) (colV (withL z L) j) bx cx bz cz g cg w' ha hb hok hL h0 (fun e => gx e) (fun e => gy e) (by have := hB.size; omega) (by have := hB.size; omega)
  have v1 : (withL x Kx).ws.length = x.ws.length := lx
  have v2 : (colV (withL y Ky) j).ws.length = y.ws.length := ly
  have v3 : (colV (withL z L) j).ws.length = z.ws.length := lz
  rw [v1, v2, v3] at h
  refine h.mono fun e w2 hh => ?_
  obtain ⟨rfl, h1, L', h2, h3⟩ := hh
  refine ⟨rfl, h1, L', h2, (hold_col hz h0 lz hj hH h3).congr fun r c hr hc => ?_⟩
  unfold stepC
  by_cases e : c = j
  · subst e
    rw [if_pos rfl, if_pos (by omega)]
    unfold gemmF
    have q1 : (colV (withL z L) c).num r = z.num r c := by
      have := hH.get r c hr hc
      unfold stepC at this
      rw [if_neg (by omega)] at this
      unfold VecM.num
      rw [colV_place (m := withL z L) h0 c r]
      exact this
    rw [q1]
    have q2 : (colV (withL y Ky) c).n.toNat = x.cols.toNat := by show y.rows.toNat = _; rw [e1]
    rw [q2]
    refine mulTo_congr _ fun k hk => ⟨nx r k (by omega) (by omega), ?_⟩
    unfold VecM.num
    rw [colV_place (m := withL y Ky) (by show 0 < y.rows; omega) c k]
    exact ny k c (by omega) hjy
  · rw [if_neg e]
    by_cases h4 : c < j
    · rw [if_pos h4, if_pos (by omega)]
    · rw [if_neg h4, if_neg (by omega)]
set_option maxRecDepth 100000 in
set_option maxHeartbeats 4000000 in
theorem gemm_ok (a α b β : Nat) (x y z : MatM) (bx cx bz cz g cg : Nat) (w : World) (hX : FS w (.slice (some ⟨bx, 0, none⟩) x.ws.length cx) x.ws) (hY : FS w (.slice (some ⟨bz, 0, none⟩) y.ws.length cz) y.ws) (hF : FW w g z.ws) (hPx : Plain w bx) (hPy : Plain w bz) (hx : x.good = true) (hy : y.good = true) (hz : z.good = true) (e1 : x.cols = y.rows) (e2 : z.rows = x.rows) (e3 : z.cols = y.cols) (m1 : meetM z x (decide (g = bx)) = false) (m2 : meetM z y (decide (g = bz)) = false) (hxg : bx = g → x.ws = z.ws) (hyg : bz = g → y.ws = z.ws) (hwx : x.wf) (hwy : y.wf) (hwz : z.wf) (hlx : x.ws.length ≤ 1000000) (hly : y.ws.length ≤ 1000000) (hlz : z.ws.length ≤ 1000000) (kbx : bx < w.heap.size) (kbz : bz < w.heap.size) (ha : IsF a α) (hb : IsF b β) (hck : ∀ w', Grew w w' → Calls Try.prog 148 #[.agg #[.slice (some ⟨bx, 0, none⟩) x.ws.length cx, .int .i64 x.off, .int .i64 x.rows, .int .i64 x.cols, .int .i64 x.ld], .agg #[.slice (some ⟨bz, 0, none⟩) y.ws.length cz, .int .i64 y.off, .int .i64 y.rows, .int .i64 y.cols, .int .i64 y.ld], .agg #[.slice (some ⟨g, 0, none⟩) z.ws.length cg, .int .i64 z.off, .int .i64 z.rows, .int .i64 z.cols, .int .i64 z.ld]] w' (fun e w2 => e = .returned (.int .i64 0) ∧ ∃ o n, w2 = ext w' o n)) :
    Calls Try.prog 75 #[.float .f64 a, .agg #[.slice (some ⟨bx, 0, none⟩) x.ws.length cx, .int .i64 x.off, .int .i64 x.rows, .int .i64 x.cols, .int .i64 x.ld], .agg #[.slice (some ⟨bz, 0, none⟩) y.ws.length cz, .int .i64 y.off, .int .i64 y.rows, .int .i64 y.cols, .int .i64 y.ld], .float .f64 b, .agg #[.slice (some ⟨g, 0, none⟩) z.ws.length cg, .int .i64 z.off, .int .i64 z.rows, .int .i64 z.cols, .int .i64 z.ld]] w (fun e w' => e = .returned (.int .i64 0) ∧ But w [g] w' ∧ ∃ L, FW w' g L ∧ Hold z.place z.rows.toNat z.cols.toNat z.ws L (gemmF α β x y z)) := by
  have hnz := z.good_n hz
  have hltg := hF.lt
  by_cases h0 : 0 < z.rows
  · have hcol := fun j hj => gemm_col a α b β x y z bx cx bz cz g cg w hX hY hF hPx hPy hx hy hz e1 e2 e3 m1 m2 hxg hyg hwx hwy hwz hlx hly hlz kbx kbz ha hb h0 j hj
    have d0 : (z.rows == 0) = false := by rw [beq_eq_false_iff_ne]; omega
    have hzc : z.cols ≤ 1000000 := by
      by_cases hc : 0 < z.cols
      · have hp := MatM.good_place hz (i := 0) (j := (z.cols - 1).toNat) (by omega) (by omega)
        rw [Int.toNat_of_nonneg (by omega)] at hp
        have h2 : (z.cols - 1) * 1 ≤ (z.cols - 1) * z.ld := Int.mul_le_mul_of_nonneg_left (by omega) (by omega)
        omega
      · omega
    clear hx hy hz e1 e2 e3 m1 m2 hxg hyg hwx hwy hwz
    go_enter Try.func75, Try.ntmps75
    refine seq_stop ?_
    go_wp2
    refine stop_go (fun W hW => ?_)
    have s1 : w.heap.size < W.heap.size := by rw [hW]; simp only [World.size_alloc]; omega
    have b1 : ∀ i, W.cell? ⟨w.heap.size, i, none⟩ = (#[.slice (some ⟨bx, 0, none⟩) x.ws.length cx, .int .i64 x.off, .int .i64 x.rows, .int .i64 x.cols, .int .i64 x.ld] : Array Value)[i]? := by intro i; rw [hW]; go_simp
    have s2 : w.heap.size + 1 < W.heap.size := by rw [hW]; simp only [World.size_alloc]; omega
    have b2 : ∀ i, W.cell? ⟨w.heap.size + 1, i, none⟩ = (#[.slice (some ⟨bz, 0, none⟩) y.ws.length cz, .int .i64 y.off, .int .i64 y.rows, .int .i64 y.cols, .int .i64 y.ld] : Array Value)[i]? := by intro i; rw [hW]; go_simp
    have s3 : w.heap.size + 1 + 1 < W.heap.size := by rw [hW]; simp only [World.size_alloc]; omega
    have b3 : ∀ i, W.cell? ⟨w.heap.size + 1 + 1, i, none⟩ = (#[.slice (some ⟨g, 0, none⟩) z.ws.length cg, .int .i64 z.off, .int .i64 z.rows, .int .i64 z.cols, .int .i64 z.ld] : Array Value)[i]? := by intro i; rw [hW]; go_simp
    have g0 : Grew w W := by rw [hW]; exact (((Grew.refl _).alloc _).alloc _).alloc _
    clear hW
    have zW := g0.below.size
    have bw : ∀ w', But W [g] w' → But w [g] w' := fun w' h => ((But.refl w [g]).grew g0).trans h (fun _ hb => .inl hb)
    have c1 : ∀ w', But W [g] w' → ∀ i, w'.cell? ⟨w.heap.size, i, none⟩ = (#[.slice (some ⟨bx, 0, none⟩) x.ws.length cx, .int .i64 x.off, .int .i64 x.rows, .int .i64 x.cols, .int .i64 x.ld] : Array Value)[i]? := fun w' h i => (h.cell s1 (by simp; omega)).trans (b1 i)
    have c2 : ∀ w', But W [g] w' → ∀ i, w'.cell? ⟨w.heap.size + 1, i, none⟩ = (#[.slice (some ⟨bz, 0, none⟩) y.ws.length cz, .int .i64 y.off, .int .i64 y.rows, .int .i64 y.cols, .int .i64 y.ld] : Array Value)[i]? := fun w' h i => (h.cell s2 (by simp; omega)).trans (b2 i)
    have c3 : ∀ w', But W [g] w' → ∀ i, w'.cell? ⟨w.heap.size + 1 + 1, i, none⟩ = (#[.slice (some ⟨g, 0, none⟩) z.ws.length cg, .int .i64 z.off, .int .i64 z.rows, .int .i64 z.cols, .int .i64 z.ld] : Array Value)[i]? := fun w' h i => (h.cell s3 (by simp; omega)).trans (b3 i)
    have hFW := hF.grew g0
    go_wp2_with (first | (go_at_call 148; ((with_reducible refine (hck _ (g0.trans (by (show Grew _ _; repeat (first | (with_reducible exact Grew.refl _) | (with_reducible assumption) | (with_reducible exact Grew.same_o) | (with_reducible exact Grew.app_o) | (with_reducible refine Grew.ext ?_ _ _) | (with_reducible refine Grew.alloc ?_ _) | ((with_reducible refine Grew.setCell ?_ ?_ _); rotate_left; (focus (dsimp only; first | omega | (simp only [size_ext, World.size_alloc, Array.size_append]; omega)))) | (with_reducible refine Grew.drewN ?_ _) | (with_reducible refine Grew.drew ?_)))))).mono ?_); rintro e w1 ⟨rfl, oa, na, rfl⟩)))
    go_loopw [27] (fun c wr => ∃ (j : Nat) (L : List Nat), (j : Int) ≤ z.cols ∧ c = .int .i64 j ∧ But W [g] wr ∧ FW wr g L ∧ Hold z.place z.rows.toNat z.cols.toNat z.ws L (stepC (gemmF α β x y z) z.num j)) (fun c _ => (z.cols - intOf c).toNat)
    case atStart => exact ⟨0, z.ws, hnz.2.1, rfl, (But.refl W [g]).grew ⟨_, _, rfl⟩, hFW.ext _ _, MatM.hold.congr fun i j _ _ => by simp [stepC]⟩
    case round =>
      obtain ⟨j, L, hj, rfl, hB, hL, hH⟩ := hrel
      have zB := hB.size
      by_cases hlt : (j : Int) < z.cols
      · have hlt' := hid hlt
        have hcj := hcol j hlt
        go_wp2
        refine wp_region_R (But W [g]) [] [(0,0), (0,1), (0,2), (0,3), (0,5), (0,6), (0,7), (1,4), (1,8), (1,9)] (by kernel_rfl) (by kernel_rfl) (fun _ _ _ _ h _ => h) (hB.grew ((Grew.refl _).drew)) ?_
        refine name_any (fun V6 hV6 => ?_)
        have hg6 : Grew wr V6 := by rw [← hV6]; (show Grew _ _; repeat (first | (with_reducible exact Grew.refl _) | (with_reducible assumption) | (with_reducible exact Grew.same_o) | (with_reducible exact Grew.app_o) | (with_reducible refine Grew.ext ?_ _ _) | (with_reducible refine Grew.alloc ?_ _) | ((with_reducible refine Grew.setCell ?_ ?_ _); rotate_left; (focus (dsimp only; first | omega | (simp only [size_ext, World.size_alloc, Array.size_append]; omega)))) | (with_reducible refine Grew.drewN ?_ _) | (with_reducible refine Grew.drew ?_)))
        have B6 := hB.grew hg6
        have F6 := hL.grew hg6
        clear hV6 hg6
        go_wp2_with (first | ((with_reducible refine wpR_id ?_); first | (refine wpR_take (v := ?_) rfl rfl ?_ ?_; rotate_left; (focus (intro w' hw'; go_simp; try with_reducible rfl)); simp only [Act.put, List.setIfInBounds_toArray, List.set_cons_zero, List.set_cons_succ]) | (refine wpR_pure (v := ?_) rfl rfl ?_ ?_; rotate_left; (focus (intro w'; go_simp; try with_reducible rfl)); simp only [Act.put, List.setIfInBounds_toArray, List.set_cons_zero, List.set_cons_succ]) | (refine wpR_takeG (v := ?_) rfl rfl rfl rfl rfl ?_ ?_; rotate_left; (focus (intro w' hw'; go_simp; try with_reducible rfl)); simp only [Act.put, List.setIfInBounds_toArray, List.set_cons_zero, List.set_cons_succ]) | (refine wpR_skip rfl rfl rfl rfl rfl rfl ?_; simp only [Act.put, List.setIfInBounds_toArray, List.set_cons_zero, List.set_cons_succ]) | (refine wpR_skipU rfl rfl rfl rfl rfl ?_; simp only [Act.put, List.setIfInBounds_toArray, List.set_cons_zero, List.set_cons_succ]) | (refine wpR_do rfl rfl (fun K hK => ?_)) | (refine wpR_doG rfl rfl rfl rfl rfl (fun K hK => ?_)) | (refine wpR_last rfl rfl (fun K hK => ?_)) | (refine wpR_nil ?_)) | ((with_reducible refine wpR_go ?_ ?_); (focus (with_reducible assumption))) | ((with_reducible refine upon_id ?_); refine upon_fop rfl (by assumption) (by assumption) ?_; intro rr nn hr) | (go_at_call 149; ((with_reducible refine ((hcj _ L (bw _ B6) F6 hH).1).mono ?_); rintro e w1 ⟨rfl, hw1⟩; (have B7 := B6.grew hw1; have F7 := F6.grew hw1))) | (go_at_call 149; ((with_reducible refine ((hcj _ L (bw _ B7) F7 hH).2.1).mono ?_); rintro e w1 ⟨rfl, hw2⟩; (have B8 := B7.grew hw2; have F8 := F7.grew hw2))) | (go_at_call 71; ((with_reducible refine ((hcj _ L (bw _ B8) F8 hH).2.2).mono ?_); rintro e w1 ⟨rfl, hB9, L9, hL9, hH9⟩; (have B9 := B8.trans hB9 (fun _ hb => .inl hb)))))
        go_roundw
        case rel => exact ⟨j + 1, L9, by have := hlt'.out; omega, by go_num, B9, hL9, hH9⟩
        case measure => (have := hlt'.out; simp [intOf]; omega)
      · go_wp2
        go_ret
        refine ⟨rfl, bw _ hB, L, hL, hH.congr fun r c hr hc => ?_⟩
        unfold stepC
        rw [if_pos (by omega)]
  · have d0 : (z.rows == 0) = true := by simp; omega
    have hh : Hold z.place z.rows.toNat z.cols.toNat z.ws z.ws (gemmF α β x y z) := ⟨rfl, fun i j hi hj => by omega, fun _ _ => rfl⟩
    clear hx hy hz e1 e2 e3 m1 m2 hxg hyg hwx hwy hwz
    go_enter Try.func75, Try.ntmps75
    refine seq_stop ?_
    go_wp2
    refine stop_go (fun W hW => ?_)
    have s1 : w.heap.size < W.heap.size := by rw [hW]; simp only [World.size_alloc]; omega
    have b1 : ∀ i, W.cell? ⟨w.heap.size, i, none⟩ = (#[.slice (some ⟨bx, 0, none⟩) x.ws.length cx, .int .i64 x.off, .int .i64 x.rows, .int .i64 x.cols, .int .i64 x.ld] : Array Value)[i]? := by intro i; rw [hW]; go_simp
    have s2 : w.heap.size + 1 < W.heap.size := by rw [hW]; simp only [World.size_alloc]; omega
    have b2 : ∀ i, W.cell? ⟨w.heap.size + 1, i, none⟩ = (#[.slice (some ⟨bz, 0, none⟩) y.ws.length cz, .int .i64 y.off, .int .i64 y.rows, .int .i64 y.cols, .int .i64 y.ld] : Array Value)[i]? := by intro i; rw [hW]; go_simp
    have s3 : w.heap.size + 1 + 1 < W.heap.size := by rw [hW]; simp only [World.size_alloc]; omega
    have b3 : ∀ i, W.cell? ⟨w.heap.size + 1 + 1, i, none⟩ = (#[.slice (some ⟨g, 0, none⟩) z.ws.length cg, .int .i64 z.off, .int .i64 z.rows, .int .i64 z.cols, .int .i64 z.ld] : Array Value)[i]? := by intro i; rw [hW]; go_simp
    have g0 : Grew w W := by rw [hW]; exact (((Grew.refl _).alloc _).alloc _).alloc _
    clear hW
    go_wp2_with (first | (go_at_call 148; ((with_reducible refine (hck _ (g0.trans (by (show Grew _ _; repeat (first | (with_reducible exact Grew.refl _) | (with_reducible assumption) | (with_reducible exact Grew.same_o) | (with_reducible exact Grew.app_o) | (with_reducible refine Grew.ext ?_ _ _) | (with_reducible refine Grew.alloc ?_ _) | ((with_reducible refine Grew.setCell ?_ ?_ _); rotate_left; (focus (dsimp only; first | omega | (simp only [size_ext, World.size_alloc, Array.size_append]; omega)))) | (with_reducible refine Grew.drewN ?_ _) | (with_reducible refine Grew.drew ?_)))))).mono ?_); rintro e w1 ⟨rfl, oa, na, rfl⟩)))
    go_ret
    exact ⟨rfl, (But.refl w [g]).grew (by (show Grew _ _; repeat (first | (with_reducible exact Grew.refl _) | (with_reducible assumption) | (with_reducible exact Grew.same_o) | (with_reducible exact Grew.app_o) | (with_reducible refine Grew.ext ?_ _ _) | (with_reducible refine Grew.alloc ?_ _) | ((with_reducible refine Grew.setCell ?_ ?_ _); rotate_left; (focus (dsimp only; first | omega | (simp only [size_ext, World.size_alloc, Array.size_append]; omega)))) | (with_reducible refine Grew.drewN ?_ _) | (with_reducible refine Grew.drew ?_)))), z.ws, hF.grew (by (show Grew _ _; repeat (first | (with_reducible exact Grew.refl _) | (with_reducible assumption) | (with_reducible exact Grew.same_o) | (with_reducible exact Grew.app_o) | (with_reducible refine Grew.ext ?_ _ _) | (with_reducible refine Grew.alloc ?_ _) | ((with_reducible refine Grew.setCell ?_ ?_ _); rotate_left; (focus (dsimp only; first | omega | (simp only [size_ext, World.size_alloc, Array.size_append]; omega)))) | (with_reducible refine Grew.drewN ?_ _) | (with_reducible refine Grew.drew ?_)))), hh⟩
set_option maxRecDepth 100000 in
set_option maxHeartbeats 4000000 in
theorem gemm_out (a b : Nat) (x y z : MatM) (bx cx bz cz g cg : Nat) (w : World) (hX : FS w (.slice (some ⟨bx, 0, none⟩) x.ws.length cx) x.ws) (hY : FS w (.slice (some ⟨bz, 0, none⟩) y.ws.length cz) y.ws) (hF : FW w g z.ws) (hPx : Plain w bx) (hPy : Plain w bz) (E : Int) (hE : E ≠ 0) (hck : ∀ w', Grew w w' → Calls Try.prog 148 #[.agg #[.slice (some ⟨bx, 0, none⟩) x.ws.length cx, .int .i64 x.off, .int .i64 x.rows, .int .i64 x.cols, .int .i64 x.ld], .agg #[.slice (some ⟨bz, 0, none⟩) y.ws.length cz, .int .i64 y.off, .int .i64 y.rows, .int .i64 y.cols, .int .i64 y.ld], .agg #[.slice (some ⟨g, 0, none⟩) z.ws.length cg, .int .i64 z.off, .int .i64 z.rows, .int .i64 z.cols, .int .i64 z.ld]] w' (fun e w2 => e = .returned (.int .i64 E) ∧ ∃ o n, w2 = ext w' o n)) :
    Calls Try.prog 75 #[.float .f64 a, .agg #[.slice (some ⟨bx, 0, none⟩) x.ws.length cx, .int .i64 x.off, .int .i64 x.rows, .int .i64 x.cols, .int .i64 x.ld], .agg #[.slice (some ⟨bz, 0, none⟩) y.ws.length cz, .int .i64 y.off, .int .i64 y.rows, .int .i64 y.cols, .int .i64 y.ld], .float .f64 b, .agg #[.slice (some ⟨g, 0, none⟩) z.ws.length cg, .int .i64 z.off, .int .i64 z.rows, .int .i64 z.cols, .int .i64 z.ld]] w (fun e w' => e = .returned (.int .i64 E) ∧ ∃ o n, w' = ext w o n) := by
  have d0 : (E != 0) = true := by simpa using hE
  clear hE
  go_enter Try.func75, Try.ntmps75
  refine seq_stop ?_
  go_wp2
  refine stop_go (fun W hW => ?_)
  have s1 : w.heap.size < W.heap.size := by rw [hW]; simp only [World.size_alloc]; omega
  have b1 : ∀ i, W.cell? ⟨w.heap.size, i, none⟩ = (#[.slice (some ⟨bx, 0, none⟩) x.ws.length cx, .int .i64 x.off, .int .i64 x.rows, .int .i64 x.cols, .int .i64 x.ld] : Array Value)[i]? := by intro i; rw [hW]; go_simp
  have s2 : w.heap.size + 1 < W.heap.size := by rw [hW]; simp only [World.size_alloc]; omega
  have b2 : ∀ i, W.cell? ⟨w.heap.size + 1, i, none⟩ = (#[.slice (some ⟨bz, 0, none⟩) y.ws.length cz, .int .i64 y.off, .int .i64 y.rows, .int .i64 y.cols, .int .i64 y.ld] : Array Value)[i]? := by intro i; rw [hW]; go_simp
  have s3 : w.heap.size + 1 + 1 < W.heap.size := by rw [hW]; simp only [World.size_alloc]; omega
  have b3 : ∀ i, W.cell? ⟨w.heap.size + 1 + 1, i, none⟩ = (#[.slice (some ⟨g, 0, none⟩) z.ws.length cg, .int .i64 z.off, .int .i64 z.rows, .int .i64 z.cols, .int .i64 z.ld] : Array Value)[i]? := by intro i; rw [hW]; go_simp
  have g0 : Grew w W := by rw [hW]; exact (((Grew.refl _).alloc _).alloc _).alloc _
  clear hW
  go_wp2_with (first | (go_at_call 148; ((with_reducible refine (hck _ (g0.trans (by (show Grew _ _; repeat (first | (with_reducible exact Grew.refl _) | (with_reducible assumption) | (with_reducible exact Grew.same_o) | (with_reducible exact Grew.app_o) | (with_reducible refine Grew.ext ?_ _ _) | (with_reducible refine Grew.alloc ?_ _) | ((with_reducible refine Grew.setCell ?_ ?_ _); rotate_left; (focus (dsimp only; first | omega | (simp only [size_ext, World.size_alloc, Array.size_append]; omega)))) | (with_reducible refine Grew.drewN ?_ _) | (with_reducible refine Grew.drew ?_)))))).mono ?_); rintro e w1 ⟨rfl, oa, na, rfl⟩)))
  go_ret
  exact ⟨rfl, by (show Grew _ _; repeat (first | (with_reducible exact Grew.refl _) | (with_reducible assumption) | (with_reducible exact Grew.same_o) | (with_reducible exact Grew.app_o) | (with_reducible refine Grew.ext ?_ _ _) | (with_reducible refine Grew.alloc ?_ _) | ((with_reducible refine Grew.setCell ?_ ?_ _); rotate_left; (focus (dsimp only; first | omega | (simp only [size_ext, World.size_alloc, Array.size_append]; omega)))) | (with_reducible refine Grew.drewN ?_ _) | (with_reducible refine Grew.drew ?_)))⟩
theorem gemmE_ok {x y z : MatM} {ox oy : Bool} (h : gemmE x y z ox oy = 0) : x.good = true ∧ y.good = true ∧ z.good = true ∧ x.cols = y.rows ∧ z.rows = x.rows ∧ z.cols = y.cols ∧ meetM z x ox = false ∧ meetM z y oy = false := by
  unfold gemmE at h
  split at h
  · cases h
  · rename_i h1
    split at h
    · cases h
    · rename_i h2
      split at h
      · cases h
      · rename_i h3
        simp only [not_or, Bool.not_eq_true, Bool.not_eq_false, ne_eq, Decidable.not_not] at h1 h2 h3
        exact ⟨h1.1, h1.2.1, h1.2.2, h2.1, h2.2.1, h2.2.2, h3.1, h3.2⟩
/-- gemm.Mul. -/
theorem gemm_any (a α b β : Nat) (x y z : MatM) (bx cx bz cz g cg : Nat) (w : World) (hX : FS w (.slice (some ⟨bx, 0, none⟩) x.ws.length cx) x.ws) (hY : FS w (.slice (some ⟨bz, 0, none⟩) y.ws.length cz) y.ws) (hF : FW w g z.ws) (hPx : Plain w bx) (hPy : Plain w bz) (hxg : bx = g → x.ws = z.ws) (hyg : bz = g → y.ws = z.ws) (hwx : x.wf) (hwy : y.wf) (hwz : z.wf) (hlx : x.ws.length ≤ 1000000) (hly : y.ws.length ≤ 1000000) (hlz : z.ws.length ≤ 1000000) (kbx : bx < w.heap.size) (kbz : bz < w.heap.size) (ha : IsF a α) (hb : IsF b β) :
    Calls Try.prog 75 #[.float .f64 a, .agg #[.slice (some ⟨bx, 0, none⟩) x.ws.length cx, .int .i64 x.off, .int .i64 x.rows, .int .i64 x.cols, .int .i64 x.ld], .agg #[.slice (some ⟨bz, 0, none⟩) y.ws.length cz, .int .i64 y.off, .int .i64 y.rows, .int .i64 y.cols, .int .i64 y.ld], .float .f64 b, .agg #[.slice (some ⟨g, 0, none⟩) z.ws.length cg, .int .i64 z.off, .int .i64 z.rows, .int .i64 z.cols, .int .i64 z.ld]] w (fun e w' => e = .returned (.int .i64 (gemmE x y z (decide (g = bx)) (decide (g = bz)))) ∧ But w [g] w' ∧ ∃ L, FW w' g L ∧ (gemmE x y z (decide (g = bx)) (decide (g = bz)) ≠ 0 → L = z.ws) ∧
      (gemmE x y z (decide (g = bx)) (decide (g = bz)) = 0 → Hold z.place z.rows.toNat z.cols.toNat z.ws L (gemmF α β x y z))) := by
  have hZ := hF.fs (by omega) cg
  have hck : ∀ w', Grew w w' → Calls Try.prog 148 #[.agg #[.slice (some ⟨bx, 0, none⟩) x.ws.length cx, .int .i64 x.off, .int .i64 x.rows, .int .i64 x.cols, .int .i64 x.ld], .agg #[.slice (some ⟨bz, 0, none⟩) y.ws.length cz, .int .i64 y.off, .int .i64 y.rows, .int .i64 y.cols, .int .i64 y.ld], .agg #[.slice (some ⟨g, 0, none⟩) z.ws.length cg, .int .i64 z.off, .int .i64 z.rows, .int .i64 z.cols, .int .i64 z.ld]] w' (fun e w2 => e = .returned (.int .i64 (gemmE x y z (decide (g = bx)) (decide (g = bz)))) ∧ ∃ o n, w2 = ext w' o n) := fun w' hg =>
    gcheck_any x y z bx cx bz cz g cg w' (hX.grew hg) (hY.grew hg) (hZ.grew hg) (hPx.grew hg) (hPy.grew hg) ((FW.plain hF).grew hg) hwx hwy hwz hlx hly hlz
  obtain ⟨E, hE⟩ : ∃ E, E = gemmE x y z (decide (g = bx)) (decide (g = bz)) := ⟨_, rfl⟩
  rw [← hE] at hck ⊢
  by_cases h0 : E = 0
  · obtain ⟨h1, h2, h3, h4, h5, h6, h7, h8⟩ := gemmE_ok (hE.symm.trans h0)
    rw [h0] at hck ⊢
    refine (gemm_ok a α b β x y z bx cx bz cz g cg w hX hY hF hPx hPy h1 h2 h3 h4 h5 h6 h7 h8 hxg hyg hwx hwy hwz hlx hly hlz kbx kbz ha hb hck).mono fun e w' hh => ?_
    obtain ⟨rfl, h9, L, h10, h11⟩ := hh
    exact ⟨rfl, h9, L, h10, fun h => absurd rfl h, fun _ => h11⟩
  · refine (gemm_out a b x y z bx cx bz cz g cg w hX hY hF hPx hPy E h0 hck).mono fun e w' hh => ?_
    exact ⟨hh.1, (But.refl w [g]).grew hh.2, z.ws, hF.grew hh.2, fun _ => rfl, fun h => absurd h h0⟩
end Go.Proofs.Ytcmggfpcbijcjaa
end
section
/-
  gemm.Mul of dense matrices of our own, from nothing (for GemmWhole).
-/
set_option linter.unusedSimpArgs false
set_option linter.unusedVariables false
open Go Go.RowKit Sedge
namespace Go.Proofs.Ytcmggfpcbijcjaa
set_option maxRecDepth 100000 in
theorem gemm_tn (a α r m c : Nat) (LA LB LZ : List Nat) (hr : r ≤ 64) (hr1 : 1 ≤ r) (hm : m ≤ 64) (hm1 : 1 ≤ m) (hc : c ≤ 64) (hc1 : 1 ≤ c) (ga ca gb cb gz cz : Nat) (w : World) (ha : IsF a α) (hA : FW w ga LA) (hB : FW w gb LB) (hZ : FW w gz LZ) (eA : LA.length = r * m) (eB : LB.length = m * c) (eZ : LZ.length = r * c) (n1 : gz ≠ ga) (n2 : gz ≠ gb) :
    Calls Try.prog 75 #[.float .f64 a, .agg #[.slice (some ⟨ga, 0, none⟩) (r * m) ca, .int .i64 0, .int .i64 r, .int .i64 m, .int .i64 r], .agg #[.slice (some ⟨gb, 0, none⟩) (m * c) cb, .int .i64 0, .int .i64 m, .int .i64 c, .int .i64 m], .float .f64 0, .agg #[.slice (some ⟨gz, 0, none⟩) (r * c) cz, .int .i64 0, .int .i64 r, .int .i64 c, .int .i64 r]] w
      (fun e w' => e = .returned (.int .i64 0) ∧ But w [gz] w' ∧ ∃ L, FW w' gz L ∧ L.length = r * c ∧ ∀ i j, i < r → j < c → L.getD (i + j * r) 0 = mulTo α (MatM.num ⟨LA, 0, r, m, r⟩) (fun k => MatM.num ⟨LB, 0, m, c, m⟩ k j) 0 i m) := by
  have h1 : r * m ≤ 64 * 64 := Nat.mul_le_mul hr hm
  have h2 : m * c ≤ 64 * 64 := Nat.mul_le_mul hm hc
  have h3 : r * c ≤ 64 * 64 := Nat.mul_le_mul hr hc
  have g1 := matd_good eA hr1 hm1
  have g2 := matd_good eB hm1 hc1
  have g3 := matd_good eZ hr1 hc1
  have hE : gemmE ⟨LA, 0, r, m, r⟩ ⟨LB, 0, m, c, m⟩ ⟨LZ, 0, r, c, r⟩ (decide (gz = ga)) (decide (gz = gb)) = 0 := by
    rw [decide_eq_false n1, decide_eq_false n2]
    unfold gemmE
    rw [g1, g2, g3]
    simp [meetM]
  have h := gemm_any a α 0 0 ⟨LA, 0, r, m, r⟩ ⟨LB, 0, m, c, m⟩ ⟨LZ, 0, r, c, r⟩ ga ca gb cb gz cz w (hA.fs (by omega) ca) (hB.fs (by omega) cb) hZ (FW.plain hA) (FW.plain hB) (fun e => absurd e.symm n1) (fun e => absurd e.symm n2) (by simp [MatM.wf, I64]; omega) (by simp [MatM.wf, I64]; omega) (by simp [MatM.wf, I64]; omega) (by show LA.length ≤ _; omega) (by show LB.length ≤ _; omega) (by show LZ.length ≤ _; omega) hA.lt hB.lt ha isF_zero
  rw [hE] at h
  simp only at h
  rw [eA, eB, eZ] at h
  refine h.mono fun e w' hh => ?_
  obtain ⟨rfl, q1, L, q2, _, q3⟩ := hh
  have q4 := q3 trivial
  refine ⟨rfl, q1, L, q2, by rw [q4.len]; exact eZ, fun i j hi hj => ?_⟩
  have hz := q4.get i j (by show i < ((r : Int)).toNat; omega) (by show j < ((c : Int)).toNat; omega)
  rw [matd_place] at hz
  rw [hz]
  unfold gemmF
  rw [beginF_zero]
  simp
end Go.Proofs.Ytcmggfpcbijcjaa
end
section
/-
  Plain: a number's exponent; what is scaled by it (EquilFactors, EquilLike).
-/
set_option linter.unusedSimpArgs false
set_option linter.unusedVariables false
namespace Sedge
open Ieee
/-- A number's exponent. -/
def fexp (x : Nat) : Int := if pKind x = 0 ∧ pMag x ≠ 0 then pExp x + (pMag x).log2 else 0
theorem kept_low {m : Nat} {p : Int} (h0 : m ≠ 0) (hm : m < 2 ^ 53) (h : lastP m p = p + m.log2 - 52) : keptP m p = m * 2 ^ (52 - m.log2) := by
  have hlog := log2_le_52 h0 hm
  unfold keptP
  rw [h, show (p - (p + m.log2 - 52)).toNat = 52 - m.log2 by omega, show (p + m.log2 - 52 - p).toNat = 0 by omega, rne_zero, Nat.shiftLeft_eq]
theorem scale_small {s : Bool} {m : Nat} {p : Int} (h0 : m ≠ 0) (hm : m < 2 ^ 53) (h : p + m.log2 ≤ 0) :
    fin (D64.nearest s m p) = true ∧ D64.nearest s m p < 2 ^ 64 ∧ (val (D64.nearest s m p)).abs < 2 ∧ (p + m.log2 = 0 → 1 ≤ (val (D64.nearest s m p)).abs) := by
  have hlog := log2_le_52 h0 hm
  obtain ⟨hl1, hl2⟩ := log2_spec m h0
  have hge := lastP_ge m p
  have hl0 : lastP m p ≤ -52 := by unfold lastP; omega
  have hk := kept_le m p h0
  have hlt : (lastP m p + 1074).toNat * BN + keptP m p < IR := by
    have h1 : (lastP m p + 1074).toNat ≤ 1074 := by omega
    have h2 := Nat.mul_le_mul_right BN h1
    have h3 : 1074 * BN + 2 ^ 53 < IR := by decide +kernel
    omega
  have hf : fin (D64.nearest s m p) = true := by
    rw [nearest_eq s m p h0, Nat.min_eq_left (Nat.le_of_lt hlt)]
    have hor : 2 ^ 52 ≤ keptP m p ∨ lastP m p = -1074 := by
      rcases lastP_or m p with h1 | h1
      · exact .inl (kept_ge m p h0 h1)
      · exact .inr h1.1
    obtain ⟨m', q, hr, _⟩ := read_kept s (lastP m p) (keptP m p) hge hk hor hlt
    exact fin_of_read hr
  obtain ⟨_, e2⟩ := nearest_err s m p h0 hf
  refine ⟨hf, ?_, ?_, ?_⟩
  · rw [nearest_eq s m p h0, Nat.min_eq_left (Nat.le_of_lt hlt)]
    exact word_lt s _ (Nat.lt_trans hlt (by decide +kernel))
  · rw [e2, dat_abs]
    rcases lastP_or m p with h1 | h1
    · rw [kept_low h0 hm h1]
      have a1 : m * 2 ^ (52 - m.log2) < 2 ^ 53 := by
        have := Nat.mul_lt_mul_of_pos_right hl2 (Nat.two_pow_pos (52 - m.log2))
        rw [← Nat.pow_add, show m.log2 + 1 + (52 - m.log2) = 53 by omega] at this; exact this
      have a2 : ((m * 2 ^ (52 - m.log2) : Nat) : Rat) < p2 53 := by
        rw [show (53 : Int) = ((53 : Nat) : Int) from rfl, p2_nat]; exact Rat.natCast_lt_natCast.2 a1
      have a3 := Rat.mul_lt_mul_of_pos_right a2 (p2_pos (lastP m p))
      have a4 : p2 53 * p2 (lastP m p) ≤ 2 := by
        rw [← p2_add, ← p2_one]; exact p2_mono (by omega)
      grind
    · rw [h1.1]
      have a2 : ((keptP m p : Nat) : Rat) ≤ p2 53 := by
        rw [show (53 : Int) = ((53 : Nat) : Int) from rfl, p2_nat]; exact Rat.natCast_le_natCast.2 hk
      have a3 := Rat.mul_le_mul_of_nonneg_right a2 (Rat.le_of_lt (p2_pos (-1074)))
      have a4 : p2 53 * p2 (-1074) < 2 := by
        rw [← p2_add, ← p2_one]; exact p2_lt (by decide)
      grind
  · intro hz
    have h1 : lastP m p = p + m.log2 - 52 := by unfold lastP; omega
    rw [e2, dat_abs, kept_low h0 hm h1]
    have a1 : 2 ^ 52 ≤ m * 2 ^ (52 - m.log2) := by
      have := Nat.mul_le_mul_right (2 ^ (52 - m.log2)) hl1
      rw [← Nat.pow_add, show m.log2 + (52 - m.log2) = 52 by omega] at this; exact this
    have a2 : p2 52 ≤ ((m * 2 ^ (52 - m.log2) : Nat) : Rat) := by
      rw [show (52 : Int) = ((52 : Nat) : Int) from rfl, p2_nat]; exact Rat.natCast_le_natCast.2 a1
    have a3 := Rat.mul_le_mul_of_nonneg_right a2 (Rat.le_of_lt (p2_pos (lastP m p)))
    have a4 : p2 52 * p2 (lastP m p) = 1 := by
      rw [← p2_add, ← p2_zero]; congr 1; omega
    rw [a4] at a3; exact a3
/-- Scaled by an exponent that makes it small. -/
theorem fscale_small {x : Nat} {k : Int} (hx : x < 2 ^ 64) (hk : pKind x = 0) (h0 : pMag x ≠ 0) (h1 : -5000 ≤ k ∧ k ≤ 5000) (h : fexp x + k ≤ 0) :
    flt (fabs (fscale x k)) 4611686018427387904 = true ∧ (fexp x + k = 0 → (flt 4607182418800017408 (fabs (fscale x k)) || feq 4607182418800017408 (fabs (fscale x k))) = true) := by
  have ek : kcl k = k := by unfold kcl; omega
  have e : fscale x k = D64.nearest (pNeg x) (pMag x) (pExp x + k) := by unfold fscale; rw [if_pos ⟨hk, h0⟩, ek]
  have ef : fexp x = pExp x + (pMag x).log2 := by unfold fexp; rw [if_pos ⟨hk, h0⟩]
  rw [ef] at h ⊢
  obtain ⟨a1, a2, a3, a4⟩ := scale_small (s := pNeg x) (p := pExp x + k) h0 (pMag_lt x) (by omega)
  rw [← e] at a1 a2 a3 a4
  obtain ⟨b1, b2⟩ := fabs_val a2
  rw [a1] at b1
  have b3 := b2 a1
  have f2 : fin 4611686018427387904 = true := by decide +kernel
  have v2 : val 4611686018427387904 = 2 := by decide +kernel
  have f1 : fin 4607182418800017408 = true := by decide +kernel
  have v1 : val 4607182418800017408 = 1 := by decide +kernel
  constructor
  · rw [(order_val b1 f2).2.2, b3, v2]; exact a3
  · intro hz
    have a5 := a4 (by omega)
    rw [Bool.or_eq_true, (order_val f1 b1).2.2, (order_val f1 b1).2.1, b3, v1]
    by_cases h : 1 = (val (fscale x k)).abs
    · exact .inr h
    · exact .inl (by grind)
end Sedge
end
section
/-
  Contracts: straightedgeref01.Make, Scale.
-/
set_option linter.unusedSimpArgs false
set_option linter.unusedVariables false
open Go Go.RowKit Sedge Ieee
namespace Go.Proofs.Ytcmggfpcbijcjaa
def mkF (s : Bool) (m : Nat) (e : Int) : Nat := if m = 0 then D64.word s 0 else D64.nearest s m e
theorem word_false (n : Nat) : D64.word false n = n := by unfold Format.word; simp
theorem word_true (n : Nat) : D64.word true n = 9223372036854775808 + n := by
  show (if true = true then 2 ^ (64 - 1) else 0) + n = _
  simp
theorem isF_word (s : Bool) (n : Nat) (h : n ≤ IR) : IsF (D64.word s n) (D64.word s n) := by
  refine ⟨?_, canon_not (read_word_notnan s n h)⟩
  have hI : IR < 9223372036854775808 := by decide +kernel
  cases s
  · rw [word_false]; omega
  · rw [word_true]; omega
theorem half_eq (n : Nat) : ((n : Int) % 2 == 1) = decide (n % 2 = 1) := by
  rw [Bool.eq_iff_iff, beq_iff_eq, decide_eq_true_eq]; omega
theorem hvM_le (m t : Nat) : hvM m t ≤ m := Nat.div_le_self _ _
set_option maxRecDepth 100000 in
set_option maxHeartbeats 4000000 in
/-- straightedgeref01.Make, of less than 2^53. -/
theorem make_any (s : Bool) (m : Nat) (e : Int) (w : World) (hm : m < 2 ^ 53) (he : -10000 ≤ e ∧ e ≤ 10000) :
   Calls Try.prog 199 #[.bool s, .int .u64 m, .int .i64 e] w (fun e' w' => ∃ r, e' = .returned (.float .f64 r) ∧ IsF r (mkF s m e) ∧ w = w') := by
  have hI : IR = 9218868437227405312 := by decide +kernel
  have HI := hid hI
  have hm' : m < 9007199254740992 := hm
  clear hm hI
  cases s
  · by_cases m0 : m = 0
    · subst m0
      have q : IsF 0 (mkF false 0 e) := by unfold mkF; rw [if_pos rfl]; have := isF_word false 0 (Nat.zero_le _); rwa [word_false] at this
      go_enter Try.func199, Try.ntmps199
      go_wp2
      go_ret
      exact ⟨_, rfl, q, rfl⟩
    · have d1 : ((m : Int) == 0) = false := by rw [beq_eq_false_iff_ne]; omega
      have hmk : mkF false m e = D64.nearest false m e := by unfold mkF; rw [if_neg m0]
      by_cases e1 : e < -1200
      · have d2 : decide (e < -1200) = true := by simpa using e1
        have q : IsF 0 (mkF false m e) := by rw [hmk, nearest_low false m e m0 hm' (by omega)]; have := isF_word false 0 (Nat.zero_le _); rwa [word_false] at this
        clear hmk
        go_enter Try.func199, Try.ntmps199
        go_wp2
        go_ret
        exact ⟨_, rfl, q, rfl⟩
      · have d2 : decide (e < -1200) = false := by simpa using e1
        by_cases e2 : 2000 < e
        · have d3 : decide (2000 < e) = true := by simpa using e2
          have q : IsF (0 + 9218868437227405312) (mkF false m e) := by rw [hmk, nearest_high false m e m0 hm' (by omega)]; have := isF_word false IR (Nat.le_refl _); rw [word_false, HI.out] at this; exact this
          clear hmk
          go_enter Try.func199, Try.ntmps199
          go_wp2
          go_ret
          exact ⟨_, rfl, q, rfl⟩
        · have d3 : decide (2000 < e) = false := by simpa using e2
          rw [hmk]
          have M0 := hid m0
          clear hmk m0
          go_enter Try.func199, Try.ntmps199
          go_upto_block 0 with fail
          go_cut [1, 2] (fun c d wx => ∃ (M : Nat) (E : Int), c = .int .u64 M ∧ d = .int .i64 E ∧ M ≠ 0 ∧ M < 9007199254740992 ∧ -1200 ≤ E ∧ E ≤ 2000 ∧ (4503599627370496 ≤ M ∨ E ≤ -1074) ∧ D64.nearest false M E = D64.nearest false m e ∧ wx = w)
          case first =>
            go_wp2_with fail
            go_loopw [1, 2] (fun c d wr => ∃ (M : Nat) (E : Int), c = .int .u64 M ∧ d = .int .i64 E ∧ M ≠ 0 ∧ M < 9007199254740992 ∧ -1200 ≤ E ∧ E ≤ 2000 ∧ D64.nearest false M E = D64.nearest false m e ∧ wr = w) (fun _ d _ => (intOf d + 2000).toNat)
            case atStart => exact ⟨m, e, rfl, rfl, M0.out, hm', by omega, by omega, rfl, rfl⟩
            case round =>
              obtain ⟨M, E, rfl, rfl, hM0, hM, hE1, hE2, hN, hwr⟩ := hrel
              have HN := hid hN
              have HM0 := hid hM0
              have HW := hid hwr
              clear hN hM0 hwr
              by_cases c1 : (M : Int) < 4503599627370496
              · have b1 : decide ((M : Int) < 4503599627370496) = true := by simpa using c1
                by_cases c2 : -1074 < E
                · have b2 : decide (-1074 < E) = true := by simpa using c2
                  have r1 : IntKind.u64.wrap ((M : Int) * 2) = ((M * 2 : Nat) : Int) := by rw [IntWalk.u64_in _ (by omega)]; omega
                  go_wp2
                  go_roundw
                  case rel => exact ⟨M * 2, E - 1, by go_num, by go_num, by have := HM0.out; omega, by omega, by omega, by omega, by have := nearest_scale false M 1 E HM0.out; rw [Nat.pow_one] at this; rw [← HN.out]; exact this, HW.out⟩
                  case measure => simp [intOf]; omega
                · have b2 : decide (-1074 < E) = false := by simpa using c2
                  go_wp2
                  go_meet
                  exact ⟨M, E, rfl, rfl, HM0.out, hM, hE1, hE2, .inr (by omega), HN.out, HW.out⟩
              · have b1 : decide ((M : Int) < 4503599627370496) = false := by simpa using c1
                go_wp2
                go_meet
                exact ⟨M, E, rfl, rfl, HM0.out, hM, hE1, hE2, .inl (by omega), HN.out, HW.out⟩
          case rest =>
            obtain ⟨M, E, rfl, rfl, hM0, hM, hE1, hE2, hME, hN, rfl⟩ := hcut
            have HN := hid hN
            have HM0 := hid hM0
            have HME := hid hME
            clear hN hM0 hME
            go_wp2_with fail
            go_loopw [1, 2, 8, 9] (fun c d l h wr => ∃ t : Nat, c = .int .u64 ((hvM M t : Nat) : Int) ∧ d = .int .i64 (E + t) ∧ l = .bool (hvL M t) ∧ h = .bool (hvH M t) ∧ (t ≠ 0 → E + t ≤ -1074) ∧ wr = wc) (fun _ d _ _ _ => (-1074 - intOf d).toNat)
            case atStart => exact ⟨0, by rw [(hv_zero M).1], by simp, by rw [(hv_zero M).2.2], by rw [(hv_zero M).2.1], fun h => absurd rfl h, rfl⟩
            case round =>
              obtain ⟨t, rfl, rfl, rfl, rfl, ht, hwr⟩ := hrel
              have HW := hid hwr
              have HT := hid ht
              have hle := hvM_le M t
              have b0 : decide ((9007199254740992 : Int) ≤ ((hvM M t : Nat) : Int)) = false := by simp; omega
              clear hwr ht
              by_cases c3 : E + t < -1074
              · have b1 : decide (E + t < -1074) = true := by simpa using c3
                have HS := hid (hv_succ M t)
                cases hl : hvL M t
                · have HL := hid hl
                  clear hl
                  go_wp2
                  go_roundw
                  case rel => exact ⟨t + 1, by rw [HS.out.1]; go_num, by go_num, by rw [HS.out.2.2, HL.out]; rfl, by rw [HS.out.2.1, half_eq], fun _ => by omega, HW.out⟩
                  case measure => simp [intOf]; omega
                · have HL := hid hl
                  clear hl
                  go_wp2
                  go_roundw
                  case rel => exact ⟨t + 1, by rw [HS.out.1]; go_num, by go_num, by rw [HS.out.2.2, HL.out]; rfl, by rw [HS.out.2.1, half_eq], fun _ => by omega, HW.out⟩
                  case measure => simp [intOf]; omega
              · have b1 : decide (E + t < -1074) = false := by simpa using c3
                obtain ⟨H, hH⟩ : ∃ H, H = hvM M t := ⟨_, rfl⟩
                have hw := nearest_hv false M E t HM0.out hM (by have := HME.out; omega) (by omega) (fun h => by have := HT.out h; omega)
                have hlow : ∀ K : Nat, H ≤ K → K < 4503599627370496 → E + t = -1074 := fun K h1 h2 => by
                  rcases HME.out with h | h
                  · by_cases h0 : t = 0
                    · subst h0; rw [(hv_zero M).1] at hH; omega
                    · have := HT.out h0; omega
                  · by_cases h0 : t = 0
                    · subst h0; omega
                    · have := HT.out h0; omega
                rw [← hH] at hle hw
                have hFE : E + t ≤ 2000 := by
                  by_cases h0 : t = 0
                  · subst h0; omega
                  · have := HT.out h0; omega
                have Hlow := hid hlow
                simp only [← hH]
                obtain ⟨F, hF⟩ : ∃ F, E + (t : Int) = F := ⟨_, rfl⟩
                have Hlow2 := hid (fun K h1 h2 => hF.symm.trans (Hlow.out K h1 h2))
                rw [hF] at hw b1 c3 hFE
                simp only [hF]
                rw [HN.out] at hw
                clear hlow Hlow hH hF b0
                have hH53 : H < 9007199254740992 := by omega
                cases hh : hvH M t
                · rw [hh] at hw
                  simp only [Bool.false_and, Bool.toNat_false, Nat.add_zero] at hw
                  obtain ⟨K, hK⟩ : ∃ K, K = H := ⟨_, rfl⟩
                  have hK1 : H ≤ K ∧ K ≤ 9007199254740992 := by omega
                  rw [← hK] at hw
                  simp only [← hK]
                  have b0 : decide ((9007199254740992 : Int) ≤ (K : Int)) = false := by simp; omega
                  have b1' : ((K : Int) == 9007199254740992) = false := by rw [beq_eq_false_iff_ne]; omega
                  have hwF := hid hw
                  have t1 : ¬ K = 9007199254740992 := by omega
                  clear hK hh
                  by_cases t2 : 2047 ≤ F + 1075
                  · have b2 : decide (2047 ≤ F + 1075) = true := by simpa using t2
                    have q : ∀ r, r = 0 + 9218868437227405312 → IsF r (D64.nearest false m e) := fun r hr => by
                      have hK52 : 4503599627370496 ≤ K := by
                        rcases Nat.lt_or_ge K 4503599627370496 with h | h
                        · have := Hlow2.out K hK1.1 h; omega
                        · exact h
                      rw [hr, hwF.out, makeW_inf false K F hK52 (by omega)]
                      have := isF_word false IR (Nat.le_refl _); rw [word_false, HI.out] at this; exact this
                    have Q := hid q
                    clear hw q
                    go_wp2
                    go_ret
                    exact ⟨_, rfl, Q.out _ (by first | omega | rfl), HW.out.symm⟩
                  · have b2 : decide (2047 ≤ F + 1075) = false := by simpa using t2
                    by_cases t3 : (K : Int) < 4503599627370496
                    · have b3 : decide ((K : Int) < 4503599627370496) = true := by simpa using t3
                      have q : ∀ r, r = 0 + K → IsF r (D64.nearest false m e) := fun r hr => by
                        rw [hr, hwF.out, Hlow2.out K hK1.1 (by omega), makeW_low false K (by omega)]
                        have := isF_word false K (by have := HI.out; omega); rw [word_false] at this ⊢; try rw [Nat.zero_add]
                        exact this
                      have Q := hid q
                      clear hw q
                      go_wp2
                      go_ret
                      skip
                      exact ⟨_, rfl, Q.out _ (by first | omega | rfl), HW.out.symm⟩
                    · have b3 : decide ((K : Int) < 4503599627370496) = false := by simpa using t3
                      have q : ∀ r, r = 0 + ((F + 1075).toNat * 4503599627370496 + K - 4503599627370496) → IsF r (D64.nearest false m e) := fun r hr => by
                        rw [hr, hwF.out, makeW_mid false K F (by omega) (by omega) (by omega) (by omega)]
                        have := isF_word false ((F + 1075).toNat * BN + K - BN) (by have := HI.out; unfold BN; omega)
                        have e0 : (F + 1075).toNat * BN + K - BN = (F + 1075).toNat * 4503599627370496 + K - 4503599627370496 := by unfold BN; rfl
                        rw [e0] at this ⊢
                        rw [word_false] at this ⊢
                        try rw [Nat.zero_add]
                        exact this
                      have Q := hid q
                      clear hw q
                      go_wp2
                      go_ret
                      skip
                      exact ⟨_, rfl, Q.out _ (by first | omega | rfl), HW.out.symm⟩
                · rw [hh] at hw
                  simp only [Bool.true_and] at hw
                  have b0 : decide ((9007199254740992 : Int) ≤ (H : Int)) = false := by simp; omega
                  cases hl : hvL M t
                  · rw [hl] at hw
                    simp only [Bool.false_or] at hw
                    have hodd := half_eq H
                    cases ho : decide (H % 2 = 1)
                    · rw [ho] at hw hodd
                      simp only [Bool.toNat_false, Nat.add_zero] at hw
                      obtain ⟨K, hK⟩ : ∃ K, K = H := ⟨_, rfl⟩
                      have hK1 : H ≤ K ∧ K ≤ 9007199254740992 := by omega
                      rw [← hK] at hw hodd
                      simp only [← hK]
                      have b0' : decide ((9007199254740992 : Int) ≤ (K : Int)) = false := by simp; omega
                      have b1' : ((K : Int) == 9007199254740992) = false := by rw [beq_eq_false_iff_ne]; omega
                      have hwF := hid hw
                      have t1 : ¬ K = 9007199254740992 := by omega
                      clear hK hh hl ho b0
                      by_cases t2 : 2047 ≤ F + 1075
                      · have b2 : decide (2047 ≤ F + 1075) = true := by simpa using t2
                        have q : ∀ r, r = 0 + 9218868437227405312 → IsF r (D64.nearest false m e) := fun r hr => by
                          have hK52 : 4503599627370496 ≤ K := by
                            rcases Nat.lt_or_ge K 4503599627370496 with h | h
                            · have := Hlow2.out K hK1.1 h; omega
                            · exact h
                          rw [hr, hwF.out, makeW_inf false K F hK52 (by omega)]
                          have := isF_word false IR (Nat.le_refl _); rw [word_false, HI.out] at this; exact this
                        have Q := hid q
                        clear hw q
                        go_wp2
                        go_ret
                        exact ⟨_, rfl, Q.out _ (by first | omega | rfl), HW.out.symm⟩
                      · have b2 : decide (2047 ≤ F + 1075) = false := by simpa using t2
                        by_cases t3 : (K : Int) < 4503599627370496
                        · have b3 : decide ((K : Int) < 4503599627370496) = true := by simpa using t3
                          have q : ∀ r, r = 0 + K → IsF r (D64.nearest false m e) := fun r hr => by
                            rw [hr, hwF.out, Hlow2.out K hK1.1 (by omega), makeW_low false K (by omega)]
                            have := isF_word false K (by have := HI.out; omega); rw [word_false] at this ⊢; try rw [Nat.zero_add]
                            exact this
                          have Q := hid q
                          clear hw q
                          go_wp2
                          go_ret
                          skip
                          exact ⟨_, rfl, Q.out _ (by first | omega | rfl), HW.out.symm⟩
                        · have b3 : decide ((K : Int) < 4503599627370496) = false := by simpa using t3
                          have q : ∀ r, r = 0 + ((F + 1075).toNat * 4503599627370496 + K - 4503599627370496) → IsF r (D64.nearest false m e) := fun r hr => by
                            rw [hr, hwF.out, makeW_mid false K F (by omega) (by omega) (by omega) (by omega)]
                            have := isF_word false ((F + 1075).toNat * BN + K - BN) (by have := HI.out; unfold BN; omega)
                            have e0 : (F + 1075).toNat * BN + K - BN = (F + 1075).toNat * 4503599627370496 + K - 4503599627370496 := by unfold BN; rfl
                            rw [e0] at this ⊢
                            rw [word_false] at this ⊢
                            try rw [Nat.zero_add]
                            exact this
                          have Q := hid q
                          clear hw q
                          go_wp2
                          go_ret
                          skip
                          exact ⟨_, rfl, Q.out _ (by first | omega | rfl), HW.out.symm⟩
                    · rw [ho] at hw hodd
                      simp only [Bool.toNat_true] at hw
                      obtain ⟨K, hK⟩ : ∃ K, K = H + 1 := ⟨_, rfl⟩
                      have hK1 : H ≤ K ∧ K ≤ 9007199254740992 := by omega
                      rw [← hK] at hw
                      have rK : IntKind.u64.wrap ((H : Int) + 1) = (K : Int) := by rw [IntWalk.u64_in _ (by omega)]; omega
                      clear hK hh hl ho
                      have hwF := hid hw
                      by_cases t1 : K = 9007199254740992
                      · subst t1
                        by_cases t2 : 2047 ≤ F + 1 + 1075
                        · have b2 : decide (2047 ≤ F + 1 + 1075) = true := by simpa using t2
                          have q : ∀ r, r = 0 + 9218868437227405312 → IsF r (D64.nearest false m e) := fun r hr => by
                            rw [hr, hwF.out, show (9007199254740992 : Nat) = 2 ^ 53 from by decide, makeW_top false F (by omega), makeW_inf false _ _ (Nat.le_refl _) (by omega)]
                            have := isF_word false IR (Nat.le_refl _); rw [word_false, HI.out] at this; exact this
                          have Q := hid q
                          clear hw q
                          go_wp2
                          go_ret
                          exact ⟨_, rfl, Q.out _ (by first | omega | rfl), HW.out.symm⟩
                        · have b2 : decide (2047 ≤ F + 1 + 1075) = false := by simpa using t2
                          have q : ∀ r, r = 0 + (F + 1 + 1075).toNat * 4503599627370496 → IsF r (D64.nearest false m e) := fun r hr => by
                            rw [hr, hwF.out, show (9007199254740992 : Nat) = 2 ^ 53 from by decide, makeW_top false F (by omega), makeW_mid false (2 ^ 52) (F + 1) (Nat.le_refl _) (by decide) (by omega) (by omega)]
                            have := isF_word false ((F + 1 + 1075).toNat * BN + 2 ^ 52 - BN) (by have := HI.out; unfold BN; omega)
                            rw [word_false] at this
                            have e0 : (F + 1 + 1075).toNat * BN + 2 ^ 52 - BN = (F + 1 + 1075).toNat * 4503599627370496 := by unfold BN; omega
                            rw [e0] at this ⊢; try rw [Nat.zero_add]
                            rw [word_false]; exact this
                          have Q := hid q
                          clear hw q
                          go_wp2
                          go_ret
                          skip
                          exact ⟨_, rfl, Q.out _ (by first | omega | rfl), HW.out.symm⟩
                      · have b1' : ((K : Int) == 9007199254740992) = false := by rw [beq_eq_false_iff_ne]; omega
                        by_cases t2 : 2047 ≤ F + 1075
                        · have b2 : decide (2047 ≤ F + 1075) = true := by simpa using t2
                          have q : ∀ r, r = 0 + 9218868437227405312 → IsF r (D64.nearest false m e) := fun r hr => by
                            have hK52 : 4503599627370496 ≤ K := by
                              rcases Nat.lt_or_ge K 4503599627370496 with h | h
                              · have := Hlow2.out K hK1.1 h; omega
                              · exact h
                            rw [hr, hwF.out, makeW_inf false K F hK52 (by omega)]
                            have := isF_word false IR (Nat.le_refl _); rw [word_false, HI.out] at this; exact this
                          have Q := hid q
                          clear hw q
                          go_wp2
                          go_ret
                          exact ⟨_, rfl, Q.out _ (by first | omega | rfl), HW.out.symm⟩
                        · have b2 : decide (2047 ≤ F + 1075) = false := by simpa using t2
                          by_cases t3 : (K : Int) < 4503599627370496
                          · have b3 : decide ((K : Int) < 4503599627370496) = true := by simpa using t3
                            have q : ∀ r, r = 0 + K → IsF r (D64.nearest false m e) := fun r hr => by
                              rw [hr, hwF.out, Hlow2.out K hK1.1 (by omega), makeW_low false K (by omega)]
                              have := isF_word false K (by have := HI.out; omega); rw [word_false] at this ⊢; try rw [Nat.zero_add]
                              exact this
                            have Q := hid q
                            clear hw q
                            go_wp2
                            go_ret
                            skip
                            exact ⟨_, rfl, Q.out _ (by first | omega | rfl), HW.out.symm⟩
                          · have b3 : decide ((K : Int) < 4503599627370496) = false := by simpa using t3
                            have q : ∀ r, r = 0 + ((F + 1075).toNat * 4503599627370496 + K - 4503599627370496) → IsF r (D64.nearest false m e) := fun r hr => by
                              rw [hr, hwF.out, makeW_mid false K F (by omega) (by omega) (by omega) (by omega)]
                              have := isF_word false ((F + 1075).toNat * BN + K - BN) (by have := HI.out; unfold BN; omega)
                              have e0 : (F + 1075).toNat * BN + K - BN = (F + 1075).toNat * 4503599627370496 + K - 4503599627370496 := by unfold BN; rfl
                              rw [e0] at this ⊢
                              rw [word_false] at this ⊢
                              try rw [Nat.zero_add]
                              exact this
                            have Q := hid q
                            clear hw q
                            go_wp2
                            go_ret
                            skip
                            exact ⟨_, rfl, Q.out _ (by first | omega | rfl), HW.out.symm⟩
                  · rw [hl] at hw
                    simp only [Bool.true_or, Bool.toNat_true] at hw
                    obtain ⟨K, hK⟩ : ∃ K, K = H + 1 := ⟨_, rfl⟩
                    have hK1 : H ≤ K ∧ K ≤ 9007199254740992 := by omega
                    rw [← hK] at hw
                    have rK : IntKind.u64.wrap ((H : Int) + 1) = (K : Int) := by rw [IntWalk.u64_in _ (by omega)]; omega
                    clear hK hh hl
                    have hwF := hid hw
                    by_cases t1 : K = 9007199254740992
                    · subst t1
                      by_cases t2 : 2047 ≤ F + 1 + 1075
                      · have b2 : decide (2047 ≤ F + 1 + 1075) = true := by simpa using t2
                        have q : ∀ r, r = 0 + 9218868437227405312 → IsF r (D64.nearest false m e) := fun r hr => by
                          rw [hr, hwF.out, show (9007199254740992 : Nat) = 2 ^ 53 from by decide, makeW_top false F (by omega), makeW_inf false _ _ (Nat.le_refl _) (by omega)]
                          have := isF_word false IR (Nat.le_refl _); rw [word_false, HI.out] at this; exact this
                        have Q := hid q
                        clear hw q
                        go_wp2
                        go_ret
                        exact ⟨_, rfl, Q.out _ (by first | omega | rfl), HW.out.symm⟩
                      · have b2 : decide (2047 ≤ F + 1 + 1075) = false := by simpa using t2
                        have q : ∀ r, r = 0 + (F + 1 + 1075).toNat * 4503599627370496 → IsF r (D64.nearest false m e) := fun r hr => by
                          rw [hr, hwF.out, show (9007199254740992 : Nat) = 2 ^ 53 from by decide, makeW_top false F (by omega), makeW_mid false (2 ^ 52) (F + 1) (Nat.le_refl _) (by decide) (by omega) (by omega)]
                          have := isF_word false ((F + 1 + 1075).toNat * BN + 2 ^ 52 - BN) (by have := HI.out; unfold BN; omega)
                          rw [word_false] at this
                          have e0 : (F + 1 + 1075).toNat * BN + 2 ^ 52 - BN = (F + 1 + 1075).toNat * 4503599627370496 := by unfold BN; omega
                          rw [e0] at this ⊢; try rw [Nat.zero_add]
                          rw [word_false]; exact this
                        have Q := hid q
                        clear hw q
                        go_wp2
                        go_ret
                        skip
                        exact ⟨_, rfl, Q.out _ (by first | omega | rfl), HW.out.symm⟩
                    · have b1' : ((K : Int) == 9007199254740992) = false := by rw [beq_eq_false_iff_ne]; omega
                      by_cases t2 : 2047 ≤ F + 1075
                      · have b2 : decide (2047 ≤ F + 1075) = true := by simpa using t2
                        have q : ∀ r, r = 0 + 9218868437227405312 → IsF r (D64.nearest false m e) := fun r hr => by
                          have hK52 : 4503599627370496 ≤ K := by
                            rcases Nat.lt_or_ge K 4503599627370496 with h | h
                            · have := Hlow2.out K hK1.1 h; omega
                            · exact h
                          rw [hr, hwF.out, makeW_inf false K F hK52 (by omega)]
                          have := isF_word false IR (Nat.le_refl _); rw [word_false, HI.out] at this; exact this
                        have Q := hid q
                        clear hw q
                        go_wp2
                        go_ret
                        exact ⟨_, rfl, Q.out _ (by first | omega | rfl), HW.out.symm⟩
                      · have b2 : decide (2047 ≤ F + 1075) = false := by simpa using t2
                        by_cases t3 : (K : Int) < 4503599627370496
                        · have b3 : decide ((K : Int) < 4503599627370496) = true := by simpa using t3
                          have q : ∀ r, r = 0 + K → IsF r (D64.nearest false m e) := fun r hr => by
                            rw [hr, hwF.out, Hlow2.out K hK1.1 (by omega), makeW_low false K (by omega)]
                            have := isF_word false K (by have := HI.out; omega); rw [word_false] at this ⊢; try rw [Nat.zero_add]
                            exact this
                          have Q := hid q
                          clear hw q
                          go_wp2
                          go_ret
                          skip
                          exact ⟨_, rfl, Q.out _ (by first | omega | rfl), HW.out.symm⟩
                        · have b3 : decide ((K : Int) < 4503599627370496) = false := by simpa using t3
                          have q : ∀ r, r = 0 + ((F + 1075).toNat * 4503599627370496 + K - 4503599627370496) → IsF r (D64.nearest false m e) := fun r hr => by
                            rw [hr, hwF.out, makeW_mid false K F (by omega) (by omega) (by omega) (by omega)]
                            have := isF_word false ((F + 1075).toNat * BN + K - BN) (by have := HI.out; unfold BN; omega)
                            have e0 : (F + 1075).toNat * BN + K - BN = (F + 1075).toNat * 4503599627370496 + K - 4503599627370496 := by unfold BN; rfl
                            rw [e0] at this ⊢
                            rw [word_false] at this ⊢
                            try rw [Nat.zero_add]
                            exact this
                          have Q := hid q
                          clear hw q
                          go_wp2
                          go_ret
                          skip
                          exact ⟨_, rfl, Q.out _ (by first | omega | rfl), HW.out.symm⟩
  · by_cases m0 : m = 0
    · subst m0
      have q : IsF 9223372036854775808 (mkF true 0 e) := by unfold mkF; rw [if_pos rfl]; have := isF_word true 0 (Nat.zero_le _); rwa [word_true] at this
      go_enter Try.func199, Try.ntmps199
      go_wp2
      go_ret
      exact ⟨_, rfl, q, rfl⟩
    · have d1 : ((m : Int) == 0) = false := by rw [beq_eq_false_iff_ne]; omega
      have hmk : mkF true m e = D64.nearest true m e := by unfold mkF; rw [if_neg m0]
      by_cases e1 : e < -1200
      · have d2 : decide (e < -1200) = true := by simpa using e1
        have q : IsF 9223372036854775808 (mkF true m e) := by rw [hmk, nearest_low true m e m0 hm' (by omega)]; have := isF_word true 0 (Nat.zero_le _); rwa [word_true] at this
        clear hmk
        go_enter Try.func199, Try.ntmps199
        go_wp2
        go_ret
        exact ⟨_, rfl, q, rfl⟩
      · have d2 : decide (e < -1200) = false := by simpa using e1
        by_cases e2 : 2000 < e
        · have d3 : decide (2000 < e) = true := by simpa using e2
          have q : IsF (9223372036854775808 + 9218868437227405312) (mkF true m e) := by rw [hmk, nearest_high true m e m0 hm' (by omega)]; have := isF_word true IR (Nat.le_refl _); rw [word_true, HI.out] at this; exact this
          clear hmk
          go_enter Try.func199, Try.ntmps199
          go_wp2
          go_ret
          exact ⟨_, rfl, q, rfl⟩
        · have d3 : decide (2000 < e) = false := by simpa using e2
          rw [hmk]
          have M0 := hid m0
          clear hmk m0
          go_enter Try.func199, Try.ntmps199
          go_upto_block 0 with fail
          go_cut [1, 2] (fun c d wx => ∃ (M : Nat) (E : Int), c = .int .u64 M ∧ d = .int .i64 E ∧ M ≠ 0 ∧ M < 9007199254740992 ∧ -1200 ≤ E ∧ E ≤ 2000 ∧ (4503599627370496 ≤ M ∨ E ≤ -1074) ∧ D64.nearest true M E = D64.nearest true m e ∧ wx = w)
          case first =>
            go_wp2_with fail
            go_loopw [1, 2] (fun c d wr => ∃ (M : Nat) (E : Int), c = .int .u64 M ∧ d = .int .i64 E ∧ M ≠ 0 ∧ M < 9007199254740992 ∧ -1200 ≤ E ∧ E ≤ 2000 ∧ D64.nearest true M E = D64.nearest true m e ∧ wr = w) (fun _ d _ => (intOf d + 2000).toNat)
            case atStart => exact ⟨m, e, rfl, rfl, M0.out, hm', by omega, by omega, rfl, rfl⟩
            case round =>
              obtain ⟨M, E, rfl, rfl, hM0, hM, hE1, hE2, hN, hwr⟩ := hrel
              have HN := hid hN
              have HM0 := hid hM0
              have HW := hid hwr
              clear hN hM0 hwr
              by_cases c1 : (M : Int) < 4503599627370496
              · have b1 : decide ((M : Int) < 4503599627370496) = true := by simpa using c1
                by_cases c2 : -1074 < E
                · have b2 : decide (-1074 < E) = true := by simpa using c2
                  have r1 : IntKind.u64.wrap ((M : Int) * 2) = ((M * 2 : Nat) : Int) := by rw [IntWalk.u64_in _ (by omega)]; omega
                  go_wp2
                  go_roundw
                  case rel => exact ⟨M * 2, E - 1, by go_num, by go_num, by have := HM0.out; omega, by omega, by omega, by omega, by have := nearest_scale true M 1 E HM0.out; rw [Nat.pow_one] at this; rw [← HN.out]; exact this, HW.out⟩
                  case measure => simp [intOf]; omega
                · have b2 : decide (-1074 < E) = false := by simpa using c2
                  go_wp2
                  go_meet
                  exact ⟨M, E, rfl, rfl, HM0.out, hM, hE1, hE2, .inr (by omega), HN.out, HW.out⟩
              · have b1 : decide ((M : Int) < 4503599627370496) = false := by simpa using c1
                go_wp2
                go_meet
                exact ⟨M, E, rfl, rfl, HM0.out, hM, hE1, hE2, .inl (by omega), HN.out, HW.out⟩
          case rest =>
            obtain ⟨M, E, rfl, rfl, hM0, hM, hE1, hE2, hME, hN, rfl⟩ := hcut
            have HN := hid hN
            have HM0 := hid hM0
            have HME := hid hME
            clear hN hM0 hME
            go_wp2_with fail
            go_loopw [1, 2, 8, 9] (fun c d l h wr => ∃ t : Nat, c = .int .u64 ((hvM M t : Nat) : Int) ∧ d = .int .i64 (E + t) ∧ l = .bool (hvL M t) ∧ h = .bool (hvH M t) ∧ (t ≠ 0 → E + t ≤ -1074) ∧ wr = wc) (fun _ d _ _ _ => (-1074 - intOf d).toNat)
            case atStart => exact ⟨0, by rw [(hv_zero M).1], by simp, by rw [(hv_zero M).2.2], by rw [(hv_zero M).2.1], fun h => absurd rfl h, rfl⟩
            case round =>
              obtain ⟨t, rfl, rfl, rfl, rfl, ht, hwr⟩ := hrel
              have HW := hid hwr
              have HT := hid ht
              have hle := hvM_le M t
              have b0 : decide ((9007199254740992 : Int) ≤ ((hvM M t : Nat) : Int)) = false := by simp; omega
              clear hwr ht
              by_cases c3 : E + t < -1074
              · have b1 : decide (E + t < -1074) = true := by simpa using c3
                have HS := hid (hv_succ M t)
                cases hl : hvL M t
                · have HL := hid hl
                  clear hl
                  go_wp2
                  go_roundw
                  case rel => exact ⟨t + 1, by rw [HS.out.1]; go_num, by go_num, by rw [HS.out.2.2, HL.out]; rfl, by rw [HS.out.2.1, half_eq], fun _ => by omega, HW.out⟩
                  case measure => simp [intOf]; omega
                · have HL := hid hl
                  clear hl
                  go_wp2
                  go_roundw
                  case rel => exact ⟨t + 1, by rw [HS.out.1]; go_num, by go_num, by rw [HS.out.2.2, HL.out]; rfl, by rw [HS.out.2.1, half_eq], fun _ => by omega, HW.out⟩
                  case measure => simp [intOf]; omega
              · have b1 : decide (E + t < -1074) = false := by simpa using c3
                obtain ⟨H, hH⟩ : ∃ H, H = hvM M t := ⟨_, rfl⟩
                have hw := nearest_hv true M E t HM0.out hM (by have := HME.out; omega) (by omega) (fun h => by have := HT.out h; omega)
                have hlow : ∀ K : Nat, H ≤ K → K < 4503599627370496 → E + t = -1074 := fun K h1 h2 => by
                  rcases HME.out with h | h
                  · by_cases h0 : t = 0
                    · subst h0; rw [(hv_zero M).1] at hH; omega
                    · have := HT.out h0; omega
                  · by_cases h0 : t = 0
                    · subst h0; omega
                    · have := HT.out h0; omega
                rw [← hH] at hle hw
                have hFE : E + t ≤ 2000 := by
                  by_cases h0 : t = 0
                  · subst h0; omega
                  · have := HT.out h0; omega
                have Hlow := hid hlow
                simp only [← hH]
                obtain ⟨F, hF⟩ : ∃ F, E + (t : Int) = F := ⟨_, rfl⟩
                have Hlow2 := hid (fun K h1 h2 => hF.symm.trans (Hlow.out K h1 h2))
                rw [hF] at hw b1 c3 hFE
                simp only [hF]
                rw [HN.out] at hw
                clear hlow Hlow hH hF b0
                have hH53 : H < 9007199254740992 := by omega
                cases hh : hvH M t
                · rw [hh] at hw
                  simp only [Bool.false_and, Bool.toNat_false, Nat.add_zero] at hw
                  obtain ⟨K, hK⟩ : ∃ K, K = H := ⟨_, rfl⟩
                  have hK1 : H ≤ K ∧ K ≤ 9007199254740992 := by omega
                  rw [← hK] at hw
                  simp only [← hK]
                  have b0 : decide ((9007199254740992 : Int) ≤ (K : Int)) = false := by simp; omega
                  have b1' : ((K : Int) == 9007199254740992) = false := by rw [beq_eq_false_iff_ne]; omega
                  have hwF := hid hw
                  have t1 : ¬ K = 9007199254740992 := by omega
                  clear hK hh
                  by_cases t2 : 2047 ≤ F + 1075
                  · have b2 : decide (2047 ≤ F + 1075) = true := by simpa using t2
                    have q : ∀ r, r = 9223372036854775808 + 9218868437227405312 → IsF r (D64.nearest true m e) := fun r hr => by
                      have hK52 : 4503599627370496 ≤ K := by
                        rcases Nat.lt_or_ge K 4503599627370496 with h | h
                        · have := Hlow2.out K hK1.1 h; omega
                        · exact h
                      rw [hr, hwF.out, makeW_inf true K F hK52 (by omega)]
                      have := isF_word true IR (Nat.le_refl _); rw [word_true, HI.out] at this; exact this
                    have Q := hid q
                    clear hw q
                    go_wp2
                    go_ret
                    exact ⟨_, rfl, Q.out _ (by first | omega | rfl), HW.out.symm⟩
                  · have b2 : decide (2047 ≤ F + 1075) = false := by simpa using t2
                    by_cases t3 : (K : Int) < 4503599627370496
                    · have b3 : decide ((K : Int) < 4503599627370496) = true := by simpa using t3
                      have q : ∀ r, r = 9223372036854775808 + K → IsF r (D64.nearest true m e) := fun r hr => by
                        rw [hr, hwF.out, Hlow2.out K hK1.1 (by omega), makeW_low true K (by omega)]
                        have := isF_word true K (by have := HI.out; omega); rw [word_true] at this ⊢; try rw [Nat.zero_add]
                        exact this
                      have Q := hid q
                      clear hw q
                      go_wp2
                      go_ret
                      skip
                      exact ⟨_, rfl, Q.out _ (by first | omega | rfl), HW.out.symm⟩
                    · have b3 : decide ((K : Int) < 4503599627370496) = false := by simpa using t3
                      have q : ∀ r, r = 9223372036854775808 + ((F + 1075).toNat * 4503599627370496 + K - 4503599627370496) → IsF r (D64.nearest true m e) := fun r hr => by
                        rw [hr, hwF.out, makeW_mid true K F (by omega) (by omega) (by omega) (by omega)]
                        have := isF_word true ((F + 1075).toNat * BN + K - BN) (by have := HI.out; unfold BN; omega)
                        have e0 : (F + 1075).toNat * BN + K - BN = (F + 1075).toNat * 4503599627370496 + K - 4503599627370496 := by unfold BN; rfl
                        rw [e0] at this ⊢
                        rw [word_true] at this ⊢
                        try rw [Nat.zero_add]
                        exact this
                      have Q := hid q
                      clear hw q
                      go_wp2
                      go_ret
                      skip
                      exact ⟨_, rfl, Q.out _ (by first | omega | rfl), HW.out.symm⟩
                · rw [hh] at hw
                  simp only [Bool.true_and] at hw
                  have b0 : decide ((9007199254740992 : Int) ≤ (H : Int)) = false := by simp; omega
                  cases hl : hvL M t
                  · rw [hl] at hw
                    simp only [Bool.false_or] at hw
                    have hodd := half_eq H
                    cases ho : decide (H % 2 = 1)
                    · rw [ho] at hw hodd
                      simp only [Bool.toNat_false, Nat.add_zero] at hw
                      obtain ⟨K, hK⟩ : ∃ K, K = H := ⟨_, rfl⟩
                      have hK1 : H ≤ K ∧ K ≤ 9007199254740992 := by omega
                      rw [← hK] at hw hodd
                      simp only [← hK]
                      have b0' : decide ((9007199254740992 : Int) ≤ (K : Int)) = false := by simp; omega
                      have b1' : ((K : Int) == 9007199254740992) = false := by rw [beq_eq_false_iff_ne]; omega
                      have hwF := hid hw
                      have t1 : ¬ K = 9007199254740992 := by omega
                      clear hK hh hl ho b0
                      by_cases t2 : 2047 ≤ F + 1075
                      · have b2 : decide (2047 ≤ F + 1075) = true := by simpa using t2
                        have q : ∀ r, r = 9223372036854775808 + 9218868437227405312 → IsF r (D64.nearest true m e) := fun r hr => by
                          have hK52 : 4503599627370496 ≤ K := by
                            rcases Nat.lt_or_ge K 4503599627370496 with h | h
                            · have := Hlow2.out K hK1.1 h; omega
                            · exact h
                          rw [hr, hwF.out, makeW_inf true K F hK52 (by omega)]
                          have := isF_word true IR (Nat.le_refl _); rw [word_true, HI.out] at this; exact this
                        have Q := hid q
                        clear hw q
                        go_wp2
                        go_ret
                        exact ⟨_, rfl, Q.out _ (by first | omega | rfl), HW.out.symm⟩
                      · have b2 : decide (2047 ≤ F + 1075) = false := by simpa using t2
                        by_cases t3 : (K : Int) < 4503599627370496
                        · have b3 : decide ((K : Int) < 4503599627370496) = true := by simpa using t3
                          have q : ∀ r, r = 9223372036854775808 + K → IsF r (D64.nearest true m e) := fun r hr => by
                            rw [hr, hwF.out, Hlow2.out K hK1.1 (by omega), makeW_low true K (by omega)]
                            have := isF_word true K (by have := HI.out; omega); rw [word_true] at this ⊢; try rw [Nat.zero_add]
                            exact this
                          have Q := hid q
                          clear hw q
                          go_wp2
                          go_ret
                          skip
                          exact ⟨_, rfl, Q.out _ (by first | omega | rfl), HW.out.symm⟩
                        · have b3 : decide ((K : Int) < 4503599627370496) = false := by simpa using t3
                          have q : ∀ r, r = 9223372036854775808 + ((F + 1075).toNat * 4503599627370496 + K - 4503599627370496) → IsF r (D64.nearest true m e) := fun r hr => by
                            rw [hr, hwF.out, makeW_mid true K F (by omega) (by omega) (by omega) (by omega)]
                            have := isF_word true ((F + 1075).toNat * BN + K - BN) (by have := HI.out; unfold BN; omega)
                            have e0 : (F + 1075).toNat * BN + K - BN = (F + 1075).toNat * 4503599627370496 + K - 4503599627370496 := by unfold BN; rfl
                            rw [e0] at this ⊢
                            rw [word_true] at this ⊢
                            try rw [Nat.zero_add]
                            exact this
                          have Q := hid q
                          clear hw q
                          go_wp2
                          go_ret
                          skip
                          exact ⟨_, rfl, Q.out _ (by first | omega | rfl), HW.out.symm⟩
                    · rw [ho] at hw hodd
                      simp only [Bool.toNat_true] at hw
                      obtain ⟨K, hK⟩ : ∃ K, K = H + 1 := ⟨_, rfl⟩
                      have hK1 : H ≤ K ∧ K ≤ 9007199254740992 := by omega
                      rw [← hK] at hw
                      have rK : IntKind.u64.wrap ((H : Int) + 1) = (K : Int) := by rw [IntWalk.u64_in _ (by omega)]; omega
                      clear hK hh hl ho
                      have hwF := hid hw
                      by_cases t1 : K = 9007199254740992
                      · subst t1
                        by_cases t2 : 2047 ≤ F + 1 + 1075
                        · have b2 : decide (2047 ≤ F + 1 + 1075) = true := by simpa using t2
                          have q : ∀ r, r = 9223372036854775808 + 9218868437227405312 → IsF r (D64.nearest true m e) := fun r hr => by
                            rw [hr, hwF.out, show (9007199254740992 : Nat) = 2 ^ 53 from by decide, makeW_top true F (by omega), makeW_inf true _ _ (Nat.le_refl _) (by omega)]
                            have := isF_word true IR (Nat.le_refl _); rw [word_true, HI.out] at this; exact this
                          have Q := hid q
                          clear hw q
                          go_wp2
                          go_ret
                          exact ⟨_, rfl, Q.out _ (by first | omega | rfl), HW.out.symm⟩
                        · have b2 : decide (2047 ≤ F + 1 + 1075) = false := by simpa using t2
                          have q : ∀ r, r = 9223372036854775808 + (F + 1 + 1075).toNat * 4503599627370496 → IsF r (D64.nearest true m e) := fun r hr => by
                            rw [hr, hwF.out, show (9007199254740992 : Nat) = 2 ^ 53 from by decide, makeW_top true F (by omega), makeW_mid true (2 ^ 52) (F + 1) (Nat.le_refl _) (by decide) (by omega) (by omega)]
                            have := isF_word true ((F + 1 + 1075).toNat * BN + 2 ^ 52 - BN) (by have := HI.out; unfold BN; omega)
                            rw [word_true] at this
                            have e0 : (F + 1 + 1075).toNat * BN + 2 ^ 52 - BN = (F + 1 + 1075).toNat * 4503599627370496 := by unfold BN; omega
                            rw [e0] at this ⊢; try rw [Nat.zero_add]
                            rw [word_true]; exact this
                          have Q := hid q
                          clear hw q
                          go_wp2
                          go_ret
                          skip
                          exact ⟨_, rfl, Q.out _ (by first | omega | rfl), HW.out.symm⟩
                      · have b1' : ((K : Int) == 9007199254740992) = false := by rw [beq_eq_false_iff_ne]; omega
                        by_cases t2 : 2047 ≤ F + 1075
                        · have b2 : decide (2047 ≤ F + 1075) = true := by simpa using t2
                          have q : ∀ r, r = 9223372036854775808 + 9218868437227405312 → IsF r (D64.nearest true m e) := fun r hr => by
                            have hK52 : 4503599627370496 ≤ K := by
                              rcases Nat.lt_or_ge K 4503599627370496 with h | h
                              · have := Hlow2.out K hK1.1 h; omega
                              · exact h
                            rw [hr, hwF.out, makeW_inf true K F hK52 (by omega)]
                            have := isF_word true IR (Nat.le_refl _); rw [word_true, HI.out] at this; exact this
                          have Q := hid q
                          clear hw q
                          go_wp2
                          go_ret
                          exact ⟨_, rfl, Q.out _ (by first | omega | rfl), HW.out.symm⟩
                        · have b2 : decide (2047 ≤ F + 1075) = false := by simpa using t2
                          by_cases t3 : (K : Int) < 4503599627370496
                          · have b3 : decide ((K : Int) < 4503599627370496) = true := by simpa using t3
                            have q : ∀ r, r = 9223372036854775808 + K → IsF r (D64.nearest true m e) := fun r hr => by
                              rw [hr, hwF.out, Hlow2.out K hK1.1 (by omega), makeW_low true K (by omega)]
                              have := isF_word true K (by have := HI.out; omega); rw [word_true] at this ⊢; try rw [Nat.zero_add]
                              exact this
                            have Q := hid q
                            clear hw q
                            go_wp2
                            go_ret
                            skip
                            exact ⟨_, rfl, Q.out _ (by first | omega | rfl), HW.out.symm⟩
                          · have b3 : decide ((K : Int) < 4503599627370496) = false := by simpa using t3
                            have q : ∀ r, r = 9223372036854775808 + ((F + 1075).toNat * 4503599627370496 + K - 4503599627370496) → IsF r (D64.nearest true m e) := fun r hr => by
                              rw [hr, hwF.out, makeW_mid true K F (by omega) (by omega) (by omega) (by omega)]
                              have := isF_word true ((F + 1075).toNat * BN + K - BN) (by have := HI.out; unfold BN; omega)
                              have e0 : (F + 1075).toNat * BN + K - BN = (F + 1075).toNat * 4503599627370496 + K - 4503599627370496 := by unfold BN; rfl
                              rw [e0] at this ⊢
                              rw [word_true] at this ⊢
                              try rw [Nat.zero_add]
                              exact this
                            have Q := hid q
                            clear hw q
                            go_wp2
                            go_ret
                            skip
                            exact ⟨_, rfl, Q.out _ (by first | omega | rfl), HW.out.symm⟩
                  · rw [hl] at hw
                    simp only [Bool.true_or, Bool.toNat_true] at hw
                    obtain ⟨K, hK⟩ : ∃ K, K = H + 1 := ⟨_, rfl⟩
                    have hK1 : H ≤ K ∧ K ≤ 9007199254740992 := by omega
                    rw [← hK] at hw
                    have rK : IntKind.u64.wrap ((H : Int) + 1) = (K : Int) := by rw [IntWalk.u64_in _ (by omega)]; omega
                    clear hK hh hl
                    have hwF := hid hw
                    by_cases t1 : K = 9007199254740992
                    · subst t1
                      by_cases t2 : 2047 ≤ F + 1 + 1075
                      · have b2 : decide (2047 ≤ F + 1 + 1075) = true := by simpa using t2
                        have q : ∀ r, r = 9223372036854775808 + 9218868437227405312 → IsF r (D64.nearest true m e) := fun r hr => by
                          rw [hr, hwF.out, show (9007199254740992 : Nat) = 2 ^ 53 from by decide, makeW_top true F (by omega), makeW_inf true _ _ (Nat.le_refl _) (by omega)]
                          have := isF_word true IR (Nat.le_refl _); rw [word_true, HI.out] at this; exact this
                        have Q := hid q
                        clear hw q
                        go_wp2
                        go_ret
                        exact ⟨_, rfl, Q.out _ (by first | omega | rfl), HW.out.symm⟩
                      · have b2 : decide (2047 ≤ F + 1 + 1075) = false := by simpa using t2
                        have q : ∀ r, r = 9223372036854775808 + (F + 1 + 1075).toNat * 4503599627370496 → IsF r (D64.nearest true m e) := fun r hr => by
                          rw [hr, hwF.out, show (9007199254740992 : Nat) = 2 ^ 53 from by decide, makeW_top true F (by omega), makeW_mid true (2 ^ 52) (F + 1) (Nat.le_refl _) (by decide) (by omega) (by omega)]
                          have := isF_word true ((F + 1 + 1075).toNat * BN + 2 ^ 52 - BN) (by have := HI.out; unfold BN; omega)
                          rw [word_true] at this
                          have e0 : (F + 1 + 1075).toNat * BN + 2 ^ 52 - BN = (F + 1 + 1075).toNat * 4503599627370496 := by unfold BN; omega
                          rw [e0] at this ⊢; try rw [Nat.zero_add]
                          rw [word_true]; exact this
                        have Q := hid q
                        clear hw q
                        go_wp2
                        go_ret
                        skip
                        exact ⟨_, rfl, Q.out _ (by first | omega | rfl), HW.out.symm⟩
                    · have b1' : ((K : Int) == 9007199254740992) = false := by rw [beq_eq_false_iff_ne]; omega
                      by_cases t2 : 2047 ≤ F + 1075
                      · have b2 : decide (2047 ≤ F + 1075) = true := by simpa using t2
                        have q : ∀ r, r = 9223372036854775808 + 9218868437227405312 → IsF r (D64.nearest true m e) := fun r hr => by
                          have hK52 : 4503599627370496 ≤ K := by
                            rcases Nat.lt_or_ge K 4503599627370496 with h | h
                            · have := Hlow2.out K hK1.1 h; omega
                            · exact h
                          rw [hr, hwF.out, makeW_inf true K F hK52 (by omega)]
                          have := isF_word true IR (Nat.le_refl _); rw [word_true, HI.out] at this; exact this
                        have Q := hid q
                        clear hw q
                        go_wp2
                        go_ret
                        exact ⟨_, rfl, Q.out _ (by first | omega | rfl), HW.out.symm⟩
                      · have b2 : decide (2047 ≤ F + 1075) = false := by simpa using t2
                        by_cases t3 : (K : Int) < 4503599627370496
                        · have b3 : decide ((K : Int) < 4503599627370496) = true := by simpa using t3
                          have q : ∀ r, r = 9223372036854775808 + K → IsF r (D64.nearest true m e) := fun r hr => by
                            rw [hr, hwF.out, Hlow2.out K hK1.1 (by omega), makeW_low true K (by omega)]
                            have := isF_word true K (by have := HI.out; omega); rw [word_true] at this ⊢; try rw [Nat.zero_add]
                            exact this
                          have Q := hid q
                          clear hw q
                          go_wp2
                          go_ret
                          skip
                          exact ⟨_, rfl, Q.out _ (by first | omega | rfl), HW.out.symm⟩
                        · have b3 : decide ((K : Int) < 4503599627370496) = false := by simpa using t3
                          have q : ∀ r, r = 9223372036854775808 + ((F + 1075).toNat * 4503599627370496 + K - 4503599627370496) → IsF r (D64.nearest true m e) := fun r hr => by
                            rw [hr, hwF.out, makeW_mid true K F (by omega) (by omega) (by omega) (by omega)]
                            have := isF_word true ((F + 1075).toNat * BN + K - BN) (by have := HI.out; unfold BN; omega)
                            have e0 : (F + 1075).toNat * BN + K - BN = (F + 1075).toNat * 4503599627370496 + K - 4503599627370496 := by unfold BN; rfl
                            rw [e0] at this ⊢
                            rw [word_true] at this ⊢
                            try rw [Nat.zero_add]
                            exact this
                          have Q := hid q
                          clear hw q
                          go_wp2
                          go_ret
                          skip
                          exact ⟨_, rfl, Q.out _ (by first | omega | rfl), HW.out.symm⟩
end Go.Proofs.Ytcmggfpcbijcjaa
end
section
/-
  Contracts: math.IsInf, IsNaN, Inf, Copysign, normalize.
-/
set_option linter.unusedSimpArgs false
set_option linter.unusedVariables false
open Go Go.RowKit Sedge
namespace Go.Proofs.Ytcmggfpcbijcjaa
theorem i64_and2047 (n : Int) : bits .and .i64 n 2047 = n % 2048 := by
  have h : (BitVec.ofInt 64 2047).toNat = 2 ^ 11 - 1 := by decide
  have key : (BitVec.ofInt 64 n &&& BitVec.ofInt 64 2047).toNat = (n % ((2 ^ 64 : Nat) : Int)).toNat % 2 ^ 11 := by
    rw [BitVec.toNat_and, BitVec.toNat_ofInt, h, Nat.and_two_pow_sub_one_eq_mod]
  show IntKind.i64.wrap ((BitVec.ofInt 64 n &&& BitVec.ofInt 64 2047).toNat : Nat) = n % 2048
  rw [key, IntKind.wrap_i64]
  omega
theorem and_p63_low (r : Nat) (h : r < 2 ^ 63) : r &&& 2 ^ 63 = 0 := by
  apply Nat.eq_of_testBit_eq
  intro i
  rw [Nat.testBit_and, Nat.testBit_two_pow, Nat.zero_testBit]
  by_cases hi : 63 = i
  · subst hi; rw [Nat.testBit_lt_two_pow h]; rfl
  · simp [hi]
theorem and_p63 (q r : Nat) (hq : q = 0 ∨ q = 1) (h : r < 2 ^ 63) : (2 ^ 63 * q + r) &&& 2 ^ 63 = 2 ^ 63 * q := by
  rcases hq with rfl | rfl
  · rw [Nat.mul_zero, Nat.zero_add]; exact and_p63_low r h
  · rw [Nat.two_pow_add_eq_or_of_lt h, Nat.and_or_distrib_right, and_p63_low r h, Nat.or_zero, Nat.mul_one, Nat.and_self]
/-- Struck out: the exponent's digits. -/
theorem strike (q X f : Nat) (hq : q = 0 ∨ q = 1) (hX : X < 2048) (hf : f < 2 ^ 52) : (2 ^ 63 * q + (X * 2 ^ 52 + f)) &&& 9227875636482146303 = 2 ^ 63 * q + f := by
  have hr : X * 2 ^ 52 + f < 2 ^ 63 := by have : (2:Nat) ^ 52 = 4503599627370496 := by decide
                                          have : (2:Nat) ^ 63 = 9223372036854775808 := by decide
                                          omega
  have hM : 9227875636482146303 = 2 ^ 63 ||| (2 ^ 52 - 1) := by decide
  rw [hM, Nat.and_or_distrib_left, and_p63 q _ hq hr, Nat.and_two_pow_sub_one_eq_mod]
  have hm : (2 ^ 63 * q + (X * 2 ^ 52 + f)) % 2 ^ 52 = f := by
    have e : 2 ^ 63 * q + (X * 2 ^ 52 + f) = 2 ^ 52 * (2048 * q + X) + f := by
      have : (2:Nat) ^ 52 = 4503599627370496 := by decide
      have : (2:Nat) ^ 63 = 9223372036854775808 := by decide
      omega
    rw [e, Nat.mul_add_mod, Nat.mod_eq_of_lt hf]
  rw [hm, ← Nat.two_pow_add_eq_or_of_lt (Nat.lt_trans hf (by decide))]
/-- And laid anew. -/
theorem lay_in (q X f : Nat) (hq : q = 0 ∨ q = 1) (hX : X < 2048) (hf : f < 2 ^ 52) : (2 ^ 63 * q + f) ||| (X * 2 ^ 52) = 2 ^ 63 * q + (X * 2 ^ 52 + f) := by
  have p52 : (2:Nat) ^ 52 = 4503599627370496 := by decide
  have p63 : (2:Nat) ^ 63 = 9223372036854775808 := by decide
  have e1 : 2 ^ 63 * q + f = 2 ^ 52 * (2048 * q) + f := by omega
  have e2 : X * 2 ^ 52 = X <<< 52 := (Nat.shiftLeft_eq X 52).symm
  have e3 : 2 ^ 52 * (2048 * q) = (2048 * q) <<< 52 := by rw [Nat.shiftLeft_eq, Nat.mul_comm]
  have e4 : 2048 * q ||| X = 2048 * q + X := by
    have := Nat.two_pow_add_eq_or_of_lt (i := 11) (b := X) hX q
    exact this.symm
  rw [e1, Nat.two_pow_add_eq_or_of_lt hf, Nat.or_assoc, Nat.or_comm f, ← Nat.or_assoc, e3, e2, ← Nat.shiftLeft_or_distrib, e4, Nat.shiftLeft_eq, Nat.mul_comm (2048 * q + X), ← Nat.two_pow_add_eq_or_of_lt hf]
  omega
def sN (s : Bool) : Nat := if s then 1 else 0
theorem sN_or (s : Bool) : sN s = 0 ∨ sN s = 1 := by cases s <;> simp [sN]
theorem word_sN (s : Bool) (n : Nat) : D64.word s n = 2 ^ 63 * sN s + n := by
  cases s
  · rw [word_false]; simp [sN]
  · rw [word_true]; simp [sN]
theorem neg_word (b : Nat) (hb : b < 2 ^ 64) : b = 2 ^ 63 * sN (pNeg b) + b % 2 ^ 63 := by
  have h := Nat.div_add_mod b (2 ^ 63)
  have hq : b / 2 ^ 63 = sN (pNeg b) := by
    have hs : SW = 2 ^ 63 := by decide +kernel
    unfold pNeg sN
    rw [hs]
    by_cases h1 : b / 2 ^ 63 = 1
    · simp [h1]
    · simp only [h1, decide_false, Bool.false_eq_true, if_false]
      have : b / 2 ^ 63 < 2 := Nat.div_lt_of_lt_mul (by rw [← Nat.pow_succ]; exact hb)
      omega
  rw [hq] at h; exact h.symm
theorem sign_bits (b : Nat) (hb : b < 2 ^ 64) : bits .or .u64 (bits .andNot .u64 0 9223372036854775808) (bits .and .u64 (b : Int) 9223372036854775808) = ((D64.word (pNeg b) 0 : Nat) : Int) := by
  have hb' : b < 18446744073709551616 := hb
  rw [show bits .andNot .u64 0 9223372036854775808 = ((0 : Nat) : Int) from u64_andNot_nat 0 9223372036854775808 (by decide) (by decide)]
  rw [show bits .and .u64 (b : Int) 9223372036854775808 = ((b &&& 2 ^ 63 : Nat) : Int) from u64_and_nat b 9223372036854775808 hb' (by decide)]
  have h1 : b &&& 2 ^ 63 = 2 ^ 63 * sN (pNeg b) := by
    conv => lhs; rw [neg_word b hb]
    exact and_p63 _ _ (sN_or _) (Nat.mod_lt _ (by decide))
  have h2 : 2 ^ 63 * sN (pNeg b) < 18446744073709551616 := by rcases sN_or (pNeg b) with h | h <;> rw [h] <;> decide
  rw [h1, u64_or_nat 0 _ (by decide) h2, Nat.zero_or, word_sN, Nat.add_zero]
set_option maxRecDepth 100000 in
theorem isinf_any (b : Nat) (w : World) (hb : b < 2 ^ 64) : Calls Try.prog 216 #[.float .f64 b, .int .i64 0] w (fun e w' => e = .returned (.bool (decide (pKind b = 1))) ∧ w = w') := by
  have hb' : b < 18446744073709551616 := hb
  have h : (FloatKind.f64.format.order (b % SW) 9218868437227405311 == some Ordering.gt) = decide (pKind b = 1) := ord_max b hb
  obtain ⟨v, hv⟩ : ∃ v, v = decide (pKind b = 1) := ⟨_, rfl⟩
  rw [← hv] at h ⊢
  clear hv hb
  go_enter Try.func216, Try.ntmps216
  go_wp2_with (first | (go_at_call 164; ((with_reducible refine (mabs_bits b _ hb').mono ?_); rintro e w1 ⟨rfl, rfl⟩)))
  all_goals go_ret
  all_goals exact ⟨rfl, rfl⟩
set_option maxRecDepth 100000 in
theorem isnan_any (b : Nat) (w : World) (hb : b < 2 ^ 64) : Calls Try.prog 223 #[.float .f64 b] w (fun e w' => e = .returned (.bool (decide (pKind b = 2))) ∧ w = w') := by
  have h : (FloatKind.f64.format.order b b != some Ordering.eq) = decide (pKind b = 2) := (order_self b).trans (isNan_kind b hb)
  obtain ⟨v, hv⟩ : ∃ v, v = decide (pKind b = 2) := ⟨_, rfl⟩
  rw [← hv] at h ⊢
  clear hv hb
  go_enter Try.func223, Try.ntmps223
  go_wp2
  go_ret
  exact ⟨rfl, rfl⟩
set_option maxRecDepth 100000 in
theorem inf_any (s : Bool) (w : World) : Calls Try.prog 226 #[.int .i64 (if s then -1 else 1)] w (fun e w' => e = .returned (.float .f64 (D64.word s IR)) ∧ w = w') := by
  have hI : IR = 9218868437227405312 := by decide +kernel
  cases s
  · rw [word_false, hI]
    go_enter Try.func226, Try.ntmps226
    go_wp2
    go_ret
    exact ⟨rfl, rfl⟩
  · rw [word_true, hI]
    go_enter Try.func226, Try.ntmps226
    go_wp2
    go_ret
    exact ⟨rfl, rfl⟩
set_option maxRecDepth 100000 in
theorem copysign_any (b : Nat) (w : World) (hb : b < 2 ^ 64) : Calls Try.prog 225 #[.float .f64 0, .float .f64 b] w (fun e w' => e = .returned (.float .f64 (D64.word (pNeg b) 0)) ∧ w = w') := by
  have h := sign_bits b hb
  go_enter Try.func225, Try.ntmps225
  go_wp2
  go_ret
  exact ⟨by first | rfl | (simp only [Int.toNat_natCast]), rfl⟩
/-- Made normal. -/
def nrmF (x : Nat) : Nat := if expo x = 0 then fmul x 4841369599423283200 else x
def nrmE (x : Nat) : Int := if expo x = 0 then -52 else 0
set_option maxRecDepth 100000 in
theorem normalize_any (b : Nat) (w : World) (hb : b < 2 ^ 64) (hk : pKind b = 0) : Calls Try.prog 224 #[.float .f64 b] w (fun e w' => ∃ r, e = .returned (.tuple #[.float .f64 r, .int .i64 (nrmE b)]) ∧ IsF r (nrmF b) ∧ ∃ o n, w' = ext w o n) := by
  have hb' : b < 18446744073709551616 := hb
  have hs : IsF b b := by
    have := isF_self hb
    have hn : isNan b = false := by rw [isNan_kind b hb, hk]; decide
    rwa [canon_not hn] at this
  have hc : IsF 4841369599423283200 4841369599423283200 := by decide +kernel
  have h : (FloatKind.f64.format.order (b % SW) 4503599627370496 == some Ordering.lt) = decide (expo b = 0) := ord_min b hb hk
  by_cases he : expo b = 0
  · have hl : (FloatKind.f64.format.order (b % SW) 4503599627370496 == some Ordering.lt) = true := by rw [h]; simpa using he
    have e1 : nrmE b = -52 := by unfold nrmE; rw [if_pos he]
    have e2 : nrmF b = fmul b 4841369599423283200 := by unfold nrmF; rw [if_pos he]
    rw [e1, e2]
    clear h he e1 e2 hk
    go_enter Try.func224, Try.ntmps224
    go_wp2_with (first | (go_at_call 164; ((with_reducible refine (mabs_bits b _ hb').mono ?_); rintro e w1 ⟨rfl, rfl⟩)) | ((with_reducible refine upon_id ?_); refine upon_fop rfl (by assumption) (by assumption) ?_; intro rr nn hr))
    refine bodyPost_ret (v := .tuple #[.float .f64 rr, .int .i64 (-52)]) (by simp [results, Try.results224, go_sem, *]) rfl ?_
    exact ⟨_, rfl, hr, by (show Grew _ _; repeat (first | (with_reducible exact Grew.refl _) | (with_reducible assumption) | (with_reducible exact Grew.same_o) | (with_reducible exact Grew.app_o) | (with_reducible refine Grew.ext ?_ _ _) | (with_reducible refine Grew.alloc ?_ _) | ((with_reducible refine Grew.setCell ?_ ?_ _); rotate_left; (focus (dsimp only; first | omega | (simp only [size_ext, World.size_alloc, Array.size_append]; omega)))) | (with_reducible refine Grew.drewN ?_ _) | (with_reducible refine Grew.drew ?_)))⟩
  · have hl : (FloatKind.f64.format.order (b % SW) 4503599627370496 == some Ordering.lt) = false := by rw [h]; simpa using he
    have e1 : nrmE b = 0 := by unfold nrmE; rw [if_neg he]
    have e2 : nrmF b = b := by unfold nrmF; rw [if_neg he]
    rw [e1, e2]
    clear h he e1 e2 hk
    go_enter Try.func224, Try.ntmps224
    go_wp2_with (first | (go_at_call 164; ((with_reducible refine (mabs_bits b _ hb').mono ?_); rintro e w1 ⟨rfl, rfl⟩)))
    refine bodyPost_ret (v := .tuple #[.float .f64 b, .int .i64 0]) (by simp [results, Try.results224, go_sem, *]) rfl ?_
    exact ⟨_, rfl, hs, by (show Grew _ _; repeat (first | (with_reducible exact Grew.refl _) | (with_reducible assumption) | (with_reducible exact Grew.same_o) | (with_reducible exact Grew.app_o) | (with_reducible refine Grew.ext ?_ _ _) | (with_reducible refine Grew.alloc ?_ _) | ((with_reducible refine Grew.setCell ?_ ?_ _); rotate_left; (focus (dsimp only; first | omega | (simp only [size_ext, World.size_alloc, Array.size_append]; omega)))) | (with_reducible refine Grew.drewN ?_ _) | (with_reducible refine Grew.drew ?_)))⟩
end Go.Proofs.Ytcmggfpcbijcjaa
end
