/-
  Texts laid one behind the other (a claim has at most 60 files): Mem, Reg, Ref1, Own, Wr, View, Lists, Tabs.
-/
import Derived.OrdersHeld
import Derived.Test.YtcmggfpcbijcjaaProg
import Derived.KernelRfl
import Derived.Laws.BitsAllLaws
import Derived.OwnWalk
import Derived.Laws.AppendOwnNone
import Derived.Test.YtcmggfpcbijcjaaQGemmWhole1
section
/-
  What a slice of floats, a vector, a matrix reads as; that it stays so.
-/
set_option linter.unusedSimpArgs false
set_option linter.unusedVariables false
namespace Sedge
open Go Go.RowKit

/-- The world w, new blocks laid behind; n draws have been made in all. -/
def ext (w : World) (o : Array Obj) (n : Nat) : World := { w with heap := w.heap ++ o, drawn := n }

@[go_sem] theorem lt_add_r {a b c : Nat} (h : a < b) : (a < b + c) = True := by simp; omega

section
variable {w : World} {o : Array Obj} {n : Nat}
@[simp, go_sem] theorem size_ext : (ext w o n).heap.size = w.heap.size + o.size := by simp [ext]
theorem block_ext {k : Nat} (h : k < w.heap.size) : (ext w o n).heap[k]? = w.heap[k]? := by
  show (w.heap ++ o)[k]? = _
  rw [Array.getElem?_append_left h]
theorem cell_ext' {a : Addr} (h : a.block < w.heap.size) : (ext w o n).cell? a = w.cell? a := by
  unfold World.cell?; rw [block_ext h]
theorem frozen_ext' {a : Addr} (h : a.block < w.heap.size) : (ext w o n).frozen? a = w.frozen? a := by
  unfold World.frozen?; rw [block_ext h]
@[go_sem] theorem cell_ext {b i : Nat} (h : b < w.heap.size) : (ext w o n).cell? ⟨b, i, none⟩ = w.cell? ⟨b, i, none⟩ := cell_ext' h
theorem keep0 : ∀ b i, b < w.heap.size → w.cell? ⟨b, i, none⟩ = w.cell? ⟨b, i, none⟩ := fun _ _ _ => rfl
theorem keep0d : ∀ b i, b < w.heap.size → w.drew.cell? ⟨b, i, none⟩ = w.cell? ⟨b, i, none⟩ := fun _ _ _ => rfl
theorem keep0n {m : Nat} : ∀ b i, b < w.heap.size → (w.drewN m).cell? ⟨b, i, none⟩ = w.cell? ⟨b, i, none⟩ := fun _ _ _ => rfl
theorem keep1 : ∀ b i, b < w.heap.size → (ext w o n).cell? ⟨b, i, none⟩ = w.cell? ⟨b, i, none⟩ := fun _ _ h => cell_ext' h
theorem keep1d : ∀ b i, b < w.heap.size → (ext w o n).drew.cell? ⟨b, i, none⟩ = w.cell? ⟨b, i, none⟩ := fun _ _ h => cell_ext' (n := n + 1) h
theorem keep1n {m : Nat} : ∀ b i, b < w.heap.size → ((ext w o n).drewN m).cell? ⟨b, i, none⟩ = w.cell? ⟨b, i, none⟩ := fun _ _ h => cell_ext' (n := n + m) h
@[go_sem] theorem frozen_ext {b i : Nat} (h : b < w.heap.size) : (ext w o n).frozen? ⟨b, i, none⟩ = w.frozen? ⟨b, i, none⟩ := frozen_ext' h
@[simp, go_sem] theorem ext_ext {o' : Array Obj} {n' : Nat} : ext (ext w o n) o' n' = ext w (o ++ o') n' := by
  unfold ext; simp [Array.append_assoc]
@[simp, go_sem] theorem ext_drew : (ext w o n).drew = ext w o (n + 1) := rfl
@[simp, go_sem] theorem ext_drewN {m : Nat} : (ext w o n).drewN m = ext w o (n + m) := rfl
@[simp, go_sem] theorem drew_ext : ext w.drew o n = ext w o n := rfl
@[simp, go_sem] theorem drewN_ext {m : Nat} : ext (w.drewN m) o n = ext w o n := rfl
theorem setCell_ext' {a : Addr} (h : a.block < w.heap.size) (v : Value) : (ext w o n).setCell a v = ext (w.setCell a v) o n := by
  unfold ext World.setCell
  simp only [World.mk.injEq, true_and]
  refine ⟨?_, trivial⟩
  apply Array.ext_getElem?
  intro i
  by_cases hi : i < w.heap.size
  · rw [Array.getElem?_append_left (by simpa using hi), Array.getElem?_modify, Array.getElem?_modify, Array.getElem?_append_left hi]
  · rw [Array.getElem?_append_right (by simpa using hi), Array.getElem?_modify, if_neg (by omega), Array.getElem?_append_right (by omega)]
    simp
@[go_sem] theorem setCell_ext {b i : Nat} (h : b < w.heap.size) (v : Value) : (ext w o n).setCell ⟨b, i, none⟩ v = ext (w.setCell ⟨b, i, none⟩ v) o n := setCell_ext' h v
theorem ext_zero : ext w #[] w.drawn = w := by unfold ext; simp
theorem alloc_ext (x : Obj) : w.alloc x = ext w #[x] w.drawn := by
  unfold ext World.alloc; simp
theorem drewN_ext0 (m : Nat) : w.drewN m = ext w #[] (w.drawn + m) := by unfold ext World.drewN; simp
theorem drew_ext0 : w.drew = ext w #[] (w.drawn + 1) := by unfold ext World.drew; simp
theorem below_ext : Below w.heap.size w (ext w o n) := ⟨rfl, rfl, rfl, by simp, fun _ hk => block_ext hk⟩
end

/-- w' is w with new blocks and draws. -/
def Grew (w w' : World) : Prop := ∃ o n, w' = ext w o n
theorem Grew.refl (w : World) : Grew w w := ⟨#[], _, ext_zero.symm⟩
theorem Grew.trans {a b c : World} (h : Grew a b) (k : Grew b c) : Grew a c := by
  obtain ⟨o, n, rfl⟩ := h
  obtain ⟨o', n', rfl⟩ := k
  exact ⟨_, _, ext_ext⟩
theorem Grew.ext {a w : World} (h : Grew a w) (o : Array Obj) (n : Nat) : Grew a (ext w o n) := h.trans ⟨o, n, rfl⟩
theorem Grew.alloc {a w : World} (h : Grew a w) (o : Obj) : Grew a (w.alloc o) := h.trans ⟨_, _, alloc_ext o⟩
theorem Grew.drewN {a w : World} (h : Grew a w) (n : Nat) : Grew a (w.drewN n) := h.trans ⟨_, _, drewN_ext0 n⟩
theorem Grew.drew {a w : World} (h : Grew a w) : Grew a w.drew := h.trans ⟨_, _, drew_ext0⟩
theorem Grew.below {w w' : World} (h : Grew w w') : Below w.heap.size w w' := by obtain ⟨o, n, rfl⟩ := h; exact below_ext
theorem Grew.of_below {w w' : World} (h : Below w.heap.size w w') : Grew w w' := by
  refine ⟨w'.heap.extract w.heap.size w'.heap.size, w'.drawn, ?_⟩
  obtain ⟨h1, h2, h3, h4, h5⟩ := h
  cases w with | mk hp tp dr os' out => ?_
  cases w' with | mk hp' tp' dr' os'' out' => ?_
  simp only at *
  subst h1 h2 h3
  unfold Sedge.ext
  simp only [World.mk.injEq, true_and, and_true]
  apply Array.ext_getElem?
  intro i
  by_cases hi : i < hp.size
  · rw [h5 i hi, Array.getElem?_append_left hi]
  · rw [Array.getElem?_append_right (by omega), Array.getElem?_extract]
    split
    · congr 1; omega
    · rw [Array.getElem?_eq_none]; omega

def I64 (x : Int) : Prop := -9223372036854775808 ≤ x ∧ x ≤ 9223372036854775807

/-- The slice v reads, in w, as the floats ws. -/
def FS (w : World) (v : Value) (ws : List Nat) : Prop :=
  ws.length ≤ 9223372036854775807 ∧ ∃ a cap, v = .slice a ws.length cap ∧ (a = none → cap = 0) ∧
    ∀ i, i < ws.length → ∃ blk o b, a = some ⟨blk, o, none⟩ ∧ w.cell? ⟨blk, o + i, none⟩ = some (.float .f64 b) ∧ IsF b (ws.getD i 0)

theorem FS.len {w : World} {v : Value} {ws : List Nat} (h : FS w v ws) : ws.length ≤ 9223372036854775807 := h.1

/-- Opened: some address where there is a number. -/
theorem FS.shape {w : World} {v : Value} {ws : List Nat} (h : FS w v ws) : ∃ a cap, v = .slice a ws.length cap := by
  obtain ⟨_, a, cap, rfl, _⟩ := h; exact ⟨a, cap, rfl⟩
/-- The address, where there is a number. -/
theorem FS.at {w : World} {a : Option Addr} {n cap : Nat} {ws : List Nat} (h : FS w (.slice a n cap) ws) : n = ws.length ∧ (0 < ws.length → ∃ blk o, a = some ⟨blk, o, none⟩ ∧ blk < w.heap.size ∧
      ∀ i, i < ws.length → ∃ b, w.cell? ⟨blk, o + i, none⟩ = some (.float .f64 b) ∧ IsF b (ws.getD i 0)) := by
  obtain ⟨_, a', cap', e, _, hc⟩ := h
  cases e
  refine ⟨rfl, fun hn => ?_⟩
  obtain ⟨blk, o, b, rfl, h1, h2⟩ := hc 0 hn
  refine ⟨blk, o, rfl, World.block_lt_of_cell? w _ h1, fun i hi => ?_⟩
  obtain ⟨blk', o', b', he, h1', h2'⟩ := hc i hi
  cases he
  exact ⟨b', h1', h2'⟩
theorem FS.nilcap {w : World} {a : Option Addr} {n cap : Nat} {ws : List Nat} (h : FS w (.slice a n cap) ws) : a = none → cap = 0 := by
  obtain ⟨_, a', cap', e, h0, _⟩ := h
  cases e; exact h0
theorem FS.open {w : World} {v : Value} {ws : List Nat} (h : FS w v ws) (hn : 0 < ws.length) :
    ∃ blk o cap, v = .slice (some ⟨blk, o, none⟩) ws.length cap ∧ blk < w.heap.size ∧
      ∀ i, i < ws.length → ∃ b, w.cell? ⟨blk, o + i, none⟩ = some (.float .f64 b) ∧ IsF b (ws.getD i 0) := by
  obtain ⟨a, cap, rfl⟩ := h.shape
  obtain ⟨blk, o, rfl, h1, h2⟩ := h.at.2 hn
  exact ⟨blk, o, cap, rfl, h1, h2⟩
theorem FS.same {w w' : World} {v : Value} {ws : List Nat} (h : FS w v ws) (hs : ∀ a : Addr, a.block < w.heap.size → w'.cell? a = w.cell? a) : FS w' v ws := by
  obtain ⟨hl, a, cap, hv, h0, hc⟩ := h
  refine ⟨hl, a, cap, hv, h0, fun i hi => ?_⟩
  obtain ⟨blk, o, b, he, h1, h2⟩ := hc i hi
  exact ⟨blk, o, b, he, by rw [hs _ (World.block_lt_of_cell? w _ h1)]; exact h1, h2⟩
theorem FS.below {w w' : World} {v : Value} {ws : List Nat} (h : FS w v ws) (hb : Below w.heap.size w w') : FS w' v ws :=
  h.same fun _ ha => hb.cell ha
theorem FS.alloc {w : World} {v : Value} {ws : List Nat} (h : FS w v ws) (o : Obj) : FS (w.alloc o) v ws :=
  h.below ((Below.refl _ _).alloc (Nat.le_refl _) o)
theorem FS.drewN {w : World} {v : Value} {ws : List Nat} (h : FS w v ws) (n : Nat) : FS (w.drewN n) v ws :=
  h.same fun _ _ => rfl
theorem FS.drew {w : World} {v : Value} {ws : List Nat} (h : FS w v ws) : FS w.drew v ws :=
  h.same fun _ _ => rfl
theorem FS.ext {w : World} {v : Value} {ws : List Nat} (h : FS w v ws) (o : Array Obj) (n : Nat) : FS (ext w o n) v ws := h.below below_ext
theorem FS.grew {w w' : World} {v : Value} {ws : List Nat} (h : FS w v ws) (g : Grew w w') : FS w' v ws := h.below g.below
theorem FS.nil (w : World) : FS w (.slice none 0 0) [] := ⟨by simp, none, 0, rfl, fun _ => rfl, fun i hi => by simp at hi⟩

/-- A block of numbers written out. -/
theorem FS.lit {w : World} {t : TypeId} (l : List Nat) (hl : l.length ≤ 9223372036854775807) (h : ∀ x ∈ l, IsF x x) (cap n : Nat) (hn : n = w.heap.size) :
    FS (w.alloc (.cells (l.map (Value.float .f64)).toArray t)) (.slice (some ⟨n, 0, none⟩) l.length cap) l := by
  subst hn
  refine ⟨hl, _, cap, rfl, (fun h => by cases h), fun i hi => ⟨_, _, l.getD i 0, rfl, ?_, ?_⟩⟩
  · rw [World.cell?_alloc_new]
    simp [List.getD_eq_getElem?_getD, hi]
  · rw [List.getD_eq_getElem?_getD, List.getElem?_eq_getElem hi]
    exact h _ (List.getElem_mem hi)
theorem below_drewN {B : Nat} {a w : World} (h : Below B a w) (n : Nat) : Below B a (w.drewN n) := ⟨h.os, h.tape, h.output, h.size, h.block⟩

/-- What stood below reads as before, as two rules for the walk, and the size. -/
theorem bcell {W w1 : World} (hb : Below W.heap.size W w1) :
    (∀ b o, b < W.heap.size → w1.cell? ⟨b, o, none⟩ = W.cell? ⟨b, o, none⟩) ∧ (∀ b o, b < W.heap.size → w1.frozen? ⟨b, o, none⟩ = W.frozen? ⟨b, o, none⟩) ∧ W.heap.size ≤ w1.heap.size :=
  ⟨fun b o h => hb.cell (p := ⟨b, o, none⟩) h, fun b o h => hb.frozen (p := ⟨b, o, none⟩) h, hb.size⟩

/-- A vector (api.Vec). -/
structure VecM where
  ws : List Nat
  off : Int
  n : Int
  inc : Int
def VecM.agg (m : VecM) (D : Value) : Value := .agg #[D, .int .i64 m.off, .int .i64 m.n, .int .i64 m.inc]
def VecM.wf (m : VecM) : Prop := I64 m.off ∧ I64 m.n ∧ I64 m.inc
def fitsB (size off steps step more : Int) : Bool := decide (0 ≤ off ∧ off + steps * step + more < size)
def VecM.right (m : VecM) : Bool := decide (0 ≤ m.n ∧ 1 ≤ m.inc ∧ 0 ≤ m.off) && (decide (m.n = 0) || fitsB m.ws.length m.off (m.n - 1) m.inc 0)
def VecM.place (m : VecM) (i : Nat) : Nat := (m.off + i * m.inc).toNat
def VecM.num (m : VecM) (i : Nat) : Nat := m.ws.getD (m.place i) 0
def VecM.list (m : VecM) : List Nat := (List.range m.n.toNat).map m.num

theorem VecM.right_n {m : VecM} (h : m.right = true) : 0 ≤ m.n ∧ 1 ≤ m.inc ∧ 0 ≤ m.off := by
  simp [VecM.right] at h; omega
/-- A right vector's places lie in its list. -/
theorem VecM.right_place {m : VecM} (h : m.right = true) {i : Nat} (hi : (i : Int) < m.n) :
    0 ≤ m.off + i * m.inc ∧ m.off + i * m.inc < m.ws.length ∧ 0 ≤ (i : Int) * m.inc := by
  have h0 := VecM.right_n h
  simp [VecM.right, fitsB] at h
  have h1 : m.off + (m.n - 1) * m.inc < m.ws.length := by
    rcases h.2 with h2 | h2 <;> omega
  have h2 : (i : Int) * m.inc ≤ (m.n - 1) * m.inc := Int.mul_le_mul_of_nonneg_right (by omega) (by omega)
  have h3 : 0 ≤ (i : Int) * m.inc := Int.mul_nonneg (by omega) (by omega)
  omega

/-- A matrix (api.Mat). -/
structure MatM where
  ws : List Nat
  off : Int
  rows : Int
  cols : Int
  ld : Int
def MatM.agg (m : MatM) (D : Value) : Value := .agg #[D, .int .i64 m.off, .int .i64 m.rows, .int .i64 m.cols, .int .i64 m.ld]
def MatM.wf (m : MatM) : Prop := I64 m.off ∧ I64 m.rows ∧ I64 m.cols ∧ I64 m.ld
def MatM.good (m : MatM) : Bool := decide (0 ≤ m.rows ∧ 0 ≤ m.cols ∧ 0 ≤ m.off ∧ 1 ≤ m.ld ∧ m.rows ≤ m.ld) &&
  (decide (m.rows = 0) || decide (m.cols = 0) || fitsB m.ws.length m.off (m.cols - 1) m.ld (m.rows - 1))

end Sedge
end
section
/-
  A region that draws its order, walked in one order of our own: what is the same in every world of a class is taken first; what acts comes up alone.
-/
set_option linter.unusedSimpArgs false
set_option linter.unusedVariables false
namespace Sedge
open Go Go.RowKit

section
variable {P : Program} {ops : Array Oper} {Q : Exit → Act → World → Prop} {md : Region.Mode} {S : World → Prop} {tail : Nat → Bool}

/-- Whatever order is picked from here on; behind all that is not of the tail, S holds. -/
def AnyT (P : Program) (md : Region.Mode) (ops : Array Oper) (Q : Exit → Act → World → Prop) (S : World → Prop) (tail : Nat → Bool) : Nat → Array Bool → Act → World → Prop
  | 0, listed, a, w => Region.ready md ops listed = [] ∧ Q .normal a w
  | fuel + 1, listed, a, w =>
    (Region.ready md ops listed = [] → Q .normal a w) ∧
    ∀ i ∈ Region.ready md ops listed, wpOp P ops Q i (fun a' w' => (tail i = false → S w → S w') ∧ AnyT P md ops Q S tail fuel (listed.setIfInBounds i true) a' w') a w

theorem any_of_anyT : ∀ (fuel : Nat) (listed : Array Bool) (a : Act) (w : World), AnyT P md ops Q S tail fuel listed a w → wpAny P md ops Q fuel listed a w
  | 0, _, _, _, h => h
  | fuel + 1, _, _, _, h => ⟨h.1, fun i hi => wpOp_mono (fun a' w' h' => any_of_anyT fuel _ a' w' h'.2) (h.2 i hi)⟩

/-- What is the same in every world of the class may come first, where the tail waits for it. -/
theorem anyT_first {i : Nat} {oi : Oper} {v : Value} (hi : ops[i]? = some oi) (hsel : Region.noSelect ops = true)
    (hQ : ∀ c a d v w, Q (.panic c) (Act.put a d v) w → Q (.panic c) a w) (hti : tail i = false)
    (htl : ∀ j oj, ops[j]? = some oj → tail j = true → ∃ e ∈ oj.after, Region.binds md e = true ∧ e.on = i) :
    ∀ (fuel : Nat) (listed : Array Bool) (a : Act) (w : World),
      (∀ j oj, ops[j]? = some oj → j ≠ i → listed.getD j true = false → (∀ e ∈ oj.after, Region.binds md e = true → e.on ≠ i) → oi.apart ops oj = true) →
      i ∈ Region.ready md ops listed → YieldsIf P ops S oi v a → S w →
      AnyT P md ops Q S tail fuel (listed.setIfInBounds i true) (a.put oi.dst v) w → AnyT P md ops Q S tail (fuel + 1) listed a w := by
  intro fuel
  induction fuel with
  | zero =>
    intro listed a w _ hr hy hS H
    refine ⟨fun h => (by rw [h] at hr; cases hr), fun j hj => ?_⟩
    by_cases hji : j = i
    · subst hji; exact hy.wpOp hi hS ⟨fun _ h => h, H⟩
    · have := ready_mono hj hji
      rw [H.1] at this
      cases this
  | succ fuel ih =>
    intro listed a w hfree hr hy hS H
    refine ⟨fun h => (by rw [h] at hr; cases hr), fun j hj => ?_⟩
    by_cases hji : j = i
    · subst hji; exact hy.wpOp hi hS ⟨fun _ h => h, H⟩
    · have h1 := H.2 j (ready_mono hj hji)
      obtain ⟨hjun, oj, hoj, hall⟩ := mem_ready.1 hj
      have hnot : ∀ e ∈ oj.after, Region.binds md e = true → e.on ≠ i := fun e he hb heq => by
        have h1 := hall e he hb
        have h0 := (mem_ready.1 hr).1
        rw [heq] at h1
        rcases Nat.lt_or_ge i listed.size with h' | h'
        · simp [h'] at h0 h1; rw [h0] at h1; cases h1
        · simp [Array.getElem?_eq_none h'] at h1
      have htj : tail j = false := by
        cases hT : tail j
        · rfl
        · obtain ⟨e, he, hb, heq⟩ := htl j oj hoj hT
          exact absurd heq (hnot e he hb)
      have h2 := wpOp_putIf hoj (hfree j oj hoj hji hjun hnot) (fun cs b => Region.noSelect_spec hsel i oi cs b hi) (fun cs b => Region.noSelect_spec hsel j oj cs b hoj) (fun c a w => hQ c a _ _ w) hy h1
      have hfree' : ∀ k ok, ops[k]? = some ok → k ≠ i → (listed.setIfInBounds j true).getD k true = false →
          (∀ e ∈ ok.after, Region.binds md e = true → e.on ≠ i) → oi.apart ops ok = true := fun k ok hk hki hun hno => by
        refine hfree k ok hk hki ?_ hno
        by_cases hjk : j = k
        · subst hjk; exact hjun
        · rw [getD_set_ne true hjk] at hun; exact hun
      refine wpOp_mono (fun a' w' h3 => ?_) h2
      have hS' : S w' := h3.2.1 htj hS
      refine ⟨fun _ _ => hS', ih (listed.setIfInBounds j true) a' w' hfree' (ready_mono hr (Ne.symm hji)) h3.1 hS' ?_⟩
      rw [Array.setIfInBounds_comm _ _ hji]
      exact h3.2.2

/-- What is the same in every world may come first. -/
theorem anyT_pure {i : Nat} {oi : Oper} {v : Value} (hi : ops[i]? = some oi) (hsel : Region.noSelect ops = true)
    (hQ : ∀ c a d v w, Q (.panic c) (Act.put a d v) w → Q (.panic c) a w) :
    ∀ (fuel : Nat) (listed : Array Bool) (a : Act) (w : World),
      (∀ j oj, ops[j]? = some oj → j ≠ i → listed.getD j true = false → (∀ e ∈ oj.after, Region.binds md e = true → e.on ≠ i) → oi.apart ops oj = true) →
      i ∈ Region.ready md ops listed → YieldsIf P ops (fun _ => True) oi v a →
      AnyT P md ops Q S tail fuel (listed.setIfInBounds i true) (a.put oi.dst v) w → AnyT P md ops Q S tail (fuel + 1) listed a w := by
  intro fuel
  induction fuel with
  | zero =>
    intro listed a w _ hr hy H
    refine ⟨fun h => (by rw [h] at hr; cases hr), fun j hj => ?_⟩
    by_cases hji : j = i
    · subst hji; exact hy.wpOp hi trivial ⟨fun _ h => h, H⟩
    · have := ready_mono hj hji
      rw [H.1] at this
      cases this
  | succ fuel ih =>
    intro listed a w hfree hr hy H
    refine ⟨fun h => (by rw [h] at hr; cases hr), fun j hj => ?_⟩
    by_cases hji : j = i
    · subst hji; exact hy.wpOp hi trivial ⟨fun _ h => h, H⟩
    · have h1 := H.2 j (ready_mono hj hji)
      obtain ⟨hjun, oj, hoj, hall⟩ := mem_ready.1 hj
      have hnot : ∀ e ∈ oj.after, Region.binds md e = true → e.on ≠ i := fun e he hb heq => by
        have h1 := hall e he hb
        have h0 := (mem_ready.1 hr).1
        rw [heq] at h1
        rcases Nat.lt_or_ge i listed.size with h' | h'
        · simp [h'] at h0 h1; rw [h0] at h1; cases h1
        · simp [Array.getElem?_eq_none h'] at h1
      have h2 := wpOp_putIf hoj (hfree j oj hoj hji hjun hnot) (fun cs b => Region.noSelect_spec hsel i oi cs b hi) (fun cs b => Region.noSelect_spec hsel j oj cs b hoj) (fun c a w => hQ c a _ _ w) hy h1
      have hfree' : ∀ k ok, ops[k]? = some ok → k ≠ i → (listed.setIfInBounds j true).getD k true = false →
          (∀ e ∈ ok.after, Region.binds md e = true → e.on ≠ i) → oi.apart ops ok = true := fun k ok hk hki hun hno => by
        refine hfree k ok hk hki ?_ hno
        by_cases hjk : j = k
        · subst hjk; exact hjun
        · rw [getD_set_ne true hjk] at hun; exact hun
      refine wpOp_mono (fun a' w' h3 => ?_) h2
      refine ⟨h3.2.1, ih (listed.setIfInBounds j true) a' w' hfree' (ready_mono hr (Ne.symm hji)) h3.1 ?_⟩
      rw [Array.setIfInBounds_comm _ _ hji]
      exact h3.2.2

/-- One order: kinds 0 (the same in every world of the class), 1 (it acts; the class holds behind it), 2 (the tail). -/
def wpR (P : Program) (ops : Array Oper) (Q : Exit → Act → World → Prop) (S : World → Prop) : List (Nat × Nat) → Act → World → Prop
  | [], a, w => Q .normal a w
  | (k, i) :: r, a, w =>
    match ops[i]? with
    | none => False
    | some o =>
      if Region.wanted o (yielded ops a.tmps) = true then
        match k with
        | 0 => ∃ v, (∀ w', S w' → (execOp a.eval o).run P w' = .ok (.value v) w') ∧ wpR P ops Q S r (a.put o.dst v) w
        | 1 => o.wp P a w (fun a' w' => S w' ∧ wpR P ops Q S r a' w') Q ∨ (o.asks P a w ∧ LetsOut Q)
        | 3 => ∃ v, (∀ w', (execOp a.eval o).run P w' = .ok (.value v) w') ∧ wpR P ops Q S r (a.put o.dst v) w
        | _ => o.wp P a w (wpR P ops Q S r) Q ∨ (o.asks P a w ∧ LetsOut Q)
      else wpR P ops Q S r (a.put o.dst undef) w

def tailOf (l : List (Nat × Nat)) (i : Nat) : Bool := l.any fun x => x.1 == 2 && x.2 == i

/-- Does number j wait for number i? -/
def waits (ops : Array Oper) (j i : Nat) : Bool := match ops[j]? with
  | some oj => oj.after.any fun e => Region.binds .any e && e.on == i
  | none => false

def okR (ops : Array Oper) (tails : List Nat) : List (Nat × Nat) → Array Bool → Bool
  | [], listed => (Region.ready .any ops listed).isEmpty
  | (k, i) :: r, listed =>
    (match k with
      | 0 => (Region.ready .any ops listed).contains i && Region.free .any ops listed i && tails.all (waits ops · i) && !tails.contains i
      | 1 => Region.ready .any ops listed == [i] && !tails.contains i
      | 2 => Region.ready .any ops listed == [i] && tails.contains i && r.all (fun x => x.1 == 2 || x.1 == 3)
      | 3 => (Region.ready .any ops listed).contains i && Region.free .any ops listed i
      | _ => false) && okR ops tails r (listed.setIfInBounds i true)

theorem anyT_of_wpR {tails : List Nat} (hsel : Region.noSelect ops = true) (hQ : ∀ c a d v w, Q (.panic c) (Act.put a d v) w → Q (.panic c) a w) :
    ∀ (l : List (Nat × Nat)) (listed : Array Bool) (a : Act) (w : World), okR ops tails l listed = true → ((∃ x ∈ l, x.1 ≤ 1) → S w) → wpR P ops Q S l a w →
      AnyT P .any ops Q S (fun i => tails.contains i) l.length listed a w
  | [], listed, a, w, hok, _, h => ⟨by simpa [okR] using hok, h⟩
  | (k, i) :: r, listed, a, w, hok, hS, h => by
    simp only [okR, Bool.and_eq_true] at hok
    obtain ⟨hk, hr⟩ := hok
    unfold wpR at h
    cases ho : ops[i]? with
    | none => rw [ho] at h; exact h.elim
    | some o =>
      rw [ho] at h
      simp only at h
      match k, hk, h with
      | 0, hk, h =>
        simp only [Bool.and_eq_true, List.all_eq_true, Bool.not_eq_true'] at hk
        obtain ⟨⟨⟨h1, h2⟩, h3⟩, h4⟩ := hk
        have hSw : S w := hS ⟨_, List.mem_cons_self, by simp⟩
        have htl : ∀ j oj, ops[j]? = some oj → tails.contains j = true → ∃ e ∈ oj.after, Region.binds .any e = true ∧ e.on = i := fun j oj hj ht => by
          have := h3 j (by simpa using ht)
          unfold waits at this
          rw [hj] at this
          simp only [Array.any_eq_true] at this
          obtain ⟨n, hn, he⟩ := this
          simp only [Bool.and_eq_true, beq_iff_eq] at he
          exact ⟨oj.after[n], Array.getElem_mem hn, he.1, he.2⟩
        by_cases hw : Region.wanted o (yielded ops a.tmps) = true
        · rw [if_pos hw] at h
          obtain ⟨v, hv, hn⟩ := h
          exact anyT_first (tail := fun i => tails.contains i) ho hsel hQ h4 htl r.length listed a w (Region.free_spec ho h2) (by simpa using h1) (.inl ⟨hw, hv⟩) hSw
            (anyT_of_wpR hsel hQ r _ _ _ hr (fun ⟨x, hx, hx1⟩ => hS ⟨x, List.mem_cons_of_mem _ hx, hx1⟩) hn)
        · rw [if_neg hw] at h
          exact anyT_first (tail := fun i => tails.contains i) ho hsel hQ h4 htl r.length listed a w (Region.free_spec ho h2) (by simpa using h1) (.inr ⟨by simpa using hw, rfl⟩) hSw
            (anyT_of_wpR hsel hQ r _ _ _ hr (fun ⟨x, hx, hx1⟩ => hS ⟨x, List.mem_cons_of_mem _ hx, hx1⟩) h)
      | 1, hk, h =>
        simp only [Bool.and_eq_true, beq_iff_eq, Bool.not_eq_true'] at hk
        obtain ⟨h1, h4⟩ := hk
        show AnyT P .any ops Q S _ (r.length + 1) listed a w
        refine ⟨fun h0 => (by rw [h1] at h0; cases h0), fun j hj => ?_⟩
        rw [h1] at hj
        have hji : j = i := by simpa using hj
        subst hji
        unfold wpOp
        rw [ho]
        simp only
        by_cases hw : Region.wanted o (yielded ops a.tmps) = true
        · rw [if_pos hw] at h ⊢
          exact h.imp (Oper.wp_mono fun a' w' h' => ⟨fun _ _ => h'.1, anyT_of_wpR hsel hQ r _ _ _ hr (fun _ => h'.1) h'.2⟩) id
        · rw [if_neg hw] at h ⊢
          have hSw : S w := hS ⟨_, List.mem_cons_self, by simp⟩
          exact ⟨fun _ _ => hSw, anyT_of_wpR hsel hQ r _ _ _ hr (fun _ => hSw) h⟩
      | 2, hk, h =>
        simp only [Bool.and_eq_true, beq_iff_eq, List.all_eq_true] at hk
        obtain ⟨⟨h1, h4⟩, h5⟩ := hk
        have hno : ∀ w', (∃ x ∈ r, x.1 ≤ 1) → S w' := fun w' ⟨x, hx, hx1⟩ => by have := h5 x hx; simp at this; omega
        show AnyT P .any ops Q S _ (r.length + 1) listed a w
        refine ⟨fun h0 => (by rw [h1] at h0; cases h0), fun j hj => ?_⟩
        rw [h1] at hj
        have hji : j = i := by simpa using hj
        subst hji
        unfold wpOp
        rw [ho]
        simp only
        by_cases hw : Region.wanted o (yielded ops a.tmps) = true
        · rw [if_pos hw] at h ⊢
          exact h.imp (Oper.wp_mono fun a' w' h' => ⟨fun hf => (by rw [h4] at hf; cases hf), anyT_of_wpR hsel hQ r _ _ _ hr (hno w') h'⟩) id
        · rw [if_neg hw] at h ⊢
          exact ⟨fun hf => (by rw [h4] at hf; cases hf), anyT_of_wpR hsel hQ r _ _ _ hr (hno w) h⟩
      | 3, hk, h =>
        simp only [Bool.and_eq_true] at hk
        obtain ⟨h1, h2⟩ := hk
        by_cases hw : Region.wanted o (yielded ops a.tmps) = true
        · rw [if_pos hw] at h
          obtain ⟨v, hv, hn⟩ := h
          exact anyT_pure (tail := fun i => tails.contains i) ho hsel hQ r.length listed a w (Region.free_spec ho h2) (by simpa using h1) (.inl ⟨hw, fun w' _ => hv w'⟩)
            (anyT_of_wpR hsel hQ r _ _ _ hr (fun ⟨x, hx, hx1⟩ => hS ⟨x, List.mem_cons_of_mem _ hx, hx1⟩) hn)
        · rw [if_neg hw] at h
          exact anyT_pure (tail := fun i => tails.contains i) ho hsel hQ r.length listed a w (Region.free_spec ho h2) (by simpa using h1) (.inr ⟨by simpa using hw, rfl⟩)
            (anyT_of_wpR hsel hQ r _ _ _ hr (fun ⟨x, hx, hx1⟩ => hS ⟨x, List.mem_cons_of_mem _ hx, hx1⟩) h)
      | _ + 4, hk, _ => simp at hk

/-- THE BEGINNING: our order passes the look; the class holds behind the draw. -/
theorem wp_region_R {id : Nat} {a : Act} {w : World} {l : List Oper} (S : World → Prop) (tails : List Nat) (order : List (Nat × Nat)) (hm : P.follows .mixedOrders = true)
    (hB : (Region.noSelect l.toArray && okR l.toArray tails order (Array.replicate l.length false) && order.length == l.length) = true)
    (hQ : ∀ c t df w, Q (.panic c) ⟨t, df⟩ w → ∀ t', Q (.panic c) ⟨t', df⟩ w) (hS : S w.drew)
    (h : wpR P l.toArray Q S order a w.drew) : (Code.region id l.toArray true).wp P Q a w := by
  simp only [Bool.and_eq_true, beq_iff_eq] at hB
  refine wp_region_any hm (any_of_anyT (S := S) (tail := fun i => tails.contains i) _ _ _ _ ?_)
  have hQ' : ∀ c a d v w, Q (.panic c) (Act.put a d v) w → Q (.panic c) a w := fun c a d v w h => by
    cases d with
    | none => exact h
    | some d => exact hQ c _ _ w h _
  have := anyT_of_wpR (P := P) (Q := Q) (S := S) hB.1.1 hQ' order (Array.replicate l.length false) a w.drew hB.1.2 (fun _ => hS) h
  rw [hB.2] at this
  simpa using this

/-! The steps. (The operation is looked up by a plain recursion, so that it comes out written out.) -/
def nth {α : Type} : List α → Nat → Option α
  | [], _ => none
  | x :: _, 0 => some x
  | _ :: l, n + 1 => nth l n
theorem nth_eq {α : Type} : ∀ (l : List α) (i : Nat), nth l i = l.toArray[i]?
  | [], _ => by simp [nth]
  | x :: l, 0 => by simp [nth]
  | x :: l, n + 1 => by have := nth_eq l n; simp [nth] at this ⊢; exact this
variable {l : List Oper}
theorem wpR_id {r : List (Nat × Nat)} {a : Act} {w : World} (h : wpR P ops Q S r a w) : wpR P ops Q S r a w := h
theorem wpR_nil {a : Act} {w : World} (h : Q .normal a w) : wpR P ops Q S [] a w := h
def boolOf : Value → Option Bool
  | .bool b => some b
  | _ => none
theorem wanted_none {o : Oper} {y : Nat → Option Bool} (hg : o.guard = none) : Region.wanted o y = true := by
  unfold Region.wanted; rw [hg]
theorem wanted_some {o oj : Oper} {a : Act} {j d : Nat} {want : Bool} {v : Value} (hg : o.guard = some (j, want)) (hj : nth l j = some oj) (hd : oj.dst = some d)
    (hv : nth a.tmps.toList d = some v) : Region.wanted o (yielded l.toArray a.tmps) = (boolOf v == some want) := by
  unfold Region.wanted yielded
  rw [hg]
  simp only
  rw [nth_eq] at hj hv
  rw [hj]
  simp only [Option.bind_some, hd]
  simp only [Array.toArray_toList] at hv
  rw [hv]
  unfold boolOf
  cases v <;> rfl
/-- The same in every world of the class. -/
theorem wpR_take {i : Nat} {o : Oper} {r : List (Nat × Nat)} {a : Act} {w : World} {v : Value} (ho : nth l i = some o) (hg : o.guard = none)
    (hv : ∀ w', S w' → (execOp a.eval o).run P w' = .ok (.value v) w')
    (h : wpR P l.toArray Q S r (a.put o.dst v) w) : wpR P l.toArray Q S ((0, i) :: r) a w := by
  have hw := wanted_none (y := yielded l.toArray a.tmps) hg
  unfold wpR; rw [← nth_eq, ho]; simp only [hw, if_true]; exact ⟨v, hv, h⟩
theorem wpR_pure {i : Nat} {o : Oper} {r : List (Nat × Nat)} {a : Act} {w : World} {v : Value} (ho : nth l i = some o) (hg : o.guard = none)
    (hv : ∀ w', (execOp a.eval o).run P w' = .ok (.value v) w')
    (h : wpR P l.toArray Q S r (a.put o.dst v) w) : wpR P l.toArray Q S ((3, i) :: r) a w := by
  have hw := wanted_none (y := yielded l.toArray a.tmps) hg
  unfold wpR; rw [← nth_eq, ho]; simp only [hw, if_true]; exact ⟨v, hv, h⟩
theorem wpR_takeG {i j d : Nat} {want : Bool} {o oj : Oper} {r : List (Nat × Nat)} {a : Act} {w : World} {v : Value} (ho : nth l i = some o) (hg : o.guard = some (j, want))
    (hj : nth l j = some oj) (hd : oj.dst = some d) (hb : nth a.tmps.toList d = some (.bool want))
    (hv : ∀ w', S w' → (execOp a.eval o).run P w' = .ok (.value v) w')
    (h : wpR P l.toArray Q S r (a.put o.dst v) w) : wpR P l.toArray Q S ((0, i) :: r) a w := by
  have hw : Region.wanted o (yielded l.toArray a.tmps) = true := by rw [wanted_some hg hj hd hb]; simp [boolOf]
  unfold wpR; rw [← nth_eq, ho]; simp only [hw, if_true]; exact ⟨v, hv, h⟩
theorem wpR_skip {k i j d : Nat} {want b : Bool} {o oj : Oper} {r : List (Nat × Nat)} {a : Act} {w : World} (ho : nth l i = some o) (hg : o.guard = some (j, want))
    (hj : nth l j = some oj) (hd : oj.dst = some d) (hb : nth a.tmps.toList d = some (.bool b)) (hne : b = !want)
    (h : wpR P l.toArray Q S r (a.put o.dst undef) w) : wpR P l.toArray Q S ((k, i) :: r) a w := by
  have hw : Region.wanted o (yielded l.toArray a.tmps) = false := by subst hne; rw [wanted_some hg hj hd hb]; cases want <;> rfl
  unfold wpR; rw [← nth_eq, ho]; simp only [hw, Bool.false_eq_true, if_false]; exact h
theorem wpR_skipU {k i j d : Nat} {want : Bool} {o oj : Oper} {r : List (Nat × Nat)} {a : Act} {w : World} (ho : nth l i = some o) (hg : o.guard = some (j, want))
    (hj : nth l j = some oj) (hd : oj.dst = some d) (hb : nth a.tmps.toList d = some undef)
    (h : wpR P l.toArray Q S r (a.put o.dst undef) w) : wpR P l.toArray Q S ((k, i) :: r) a w := by
  have hw : Region.wanted o (yielded l.toArray a.tmps) = false := by rw [wanted_some hg hj hd hb]; rfl
  unfold wpR; rw [← nth_eq, ho]; simp only [hw, Bool.false_eq_true, if_false]; exact h
theorem wpR_do {i : Nat} {o : Oper} {r : List (Nat × Nat)} {a : Act} {w : World} (ho : nth l i = some o) (hg : o.guard = none)
    (h : ∀ K : Act → World → Prop, (∀ a w, S w ∧ wpR P l.toArray Q S r a w → K a w) → o.wp P a w K Q) : wpR P l.toArray Q S ((1, i) :: r) a w := by
  have hw := wanted_none (y := yielded l.toArray a.tmps) hg
  unfold wpR; rw [← nth_eq, ho]; simp only [hw, if_true]; exact .inl (h _ fun _ _ h => h)
theorem wpR_doG {i j d : Nat} {want : Bool} {o oj : Oper} {r : List (Nat × Nat)} {a : Act} {w : World} (ho : nth l i = some o) (hg : o.guard = some (j, want))
    (hj : nth l j = some oj) (hd : oj.dst = some d) (hb : nth a.tmps.toList d = some (.bool want))
    (h : ∀ K : Act → World → Prop, (∀ a w, S w ∧ wpR P l.toArray Q S r a w → K a w) → o.wp P a w K Q) : wpR P l.toArray Q S ((1, i) :: r) a w := by
  have hw : Region.wanted o (yielded l.toArray a.tmps) = true := by rw [wanted_some hg hj hd hb]; simp [boolOf]
  unfold wpR; rw [← nth_eq, ho]; simp only [hw, if_true]; exact .inl (h _ fun _ _ h => h)
theorem wpR_last {i : Nat} {o : Oper} {r : List (Nat × Nat)} {a : Act} {w : World} (ho : nth l i = some o) (hg : o.guard = none)
    (h : ∀ K : Act → World → Prop, (∀ a w, wpR P l.toArray Q S r a w → K a w) → o.wp P a w K Q) : wpR P l.toArray Q S ((2, i) :: r) a w := by
  have hw := wanted_none (y := yielded l.toArray a.tmps) hg
  unfold wpR; rw [← nth_eq, ho]; simp only [hw, if_true]; exact .inl (h _ fun _ _ h => h)
theorem wpR_go {r : List (Nat × Nat)} {a : Act} {w : World} (hS : S w) (h : wpR P ops Q S r a w) : S w ∧ wpR P ops Q S r a w := ⟨hS, h⟩

attribute [irreducible] wpR

end
end Sedge
end
section
/-
  Contracts: a float by its bits (layer 1's reference), math.Abs; lists that are the same; copies.
-/
set_option linter.unusedSimpArgs false
set_option linter.unusedVariables false
open Go Go.RowKit Sedge
namespace Go.Proofs.Ytcmggfpcbijcjaa
@[go_sem] theorem run_bits (b : Nat) (w : World) : Sem.run Try.prog (callFunc 129 #[.float .f64 b]) w = .ok (.value (.int .u64 b)) w := by kernel_rfl
@[go_sem] theorem run_frombits (n : Int) (w : World) : Sem.run Try.prog (callFunc 185 #[.int .u64 n]) w = .ok (.value (.float .f64 n.toNat)) w := by kernel_rfl
theorem ret_float {k : FloatKind} {a b : Nat} (h : a = b) : Ending.returned (.float k a) = .returned (.float k b) := by rw [h]
theorem ret_int {k : IntKind} {a b : Int} (h : a = b) : Ending.returned (.int k a) = .returned (.int k b) := by rw [h]
theorem ret_bool {a b : Bool} (h : a = b) : Ending.returned (.bool a) = .returned (.bool b) := by rw [h]

set_option maxRecDepth 100000 in
theorem abs_bits (b : Nat) (w : World) (hb : b < 18446744073709551616) :
   Calls Try.prog 110 #[.float .f64 b] w (fun e w' => e = .returned (.float .f64 (b % SW)) ∧ w = w') := by
  go_enter Try.func110, Try.ntmps110
  go_wp2
  go_ret
  exact ⟨rfl, rfl⟩
theorem andNot_top (b : Nat) (hb : b < 18446744073709551616) : (bits BinOp.andNot IntKind.u64 (b : Int) 9223372036854775808).toNat = b % SW := by
  have := u64_andNot_nat b 9223372036854775808 hb (by decide)
  rw [show ((9223372036854775808 : Int)) = ((9223372036854775808 : Nat) : Int) from rfl, this, Int.toNat_natCast]
  have e := Nat.and_two_pow_sub_one_eq_mod b 63
  show b &&& 9223372036854775807 = b % SW
  exact e
set_option maxRecDepth 100000 in
theorem mabs_bits (b : Nat) (w : World) (hb : b < 18446744073709551616) :
   Calls Try.prog 164 #[.float .f64 b] w (fun e w' => e = .returned (.float .f64 (b % SW)) ∧ w = w') := by
  have h := andNot_top b hb
  go_enter Try.func164, Try.ntmps164
  go_wp2
  go_ret
  exact ⟨rfl, rfl⟩
theorem abs_any (b x : Nat) (w : World) (h : IsF b x) :
   Calls Try.prog 110 #[.float .f64 b] w (fun e w' => ∃ r, e = .returned (.float .f64 r) ∧ IsF r (fabs x) ∧ w = w') :=
  (abs_bits b w h.1).mono fun _ _ ⟨he, hw⟩ => ⟨_, he, h.abs, hw⟩
theorem mabs_any (b x : Nat) (w : World) (h : IsF b x) :
   Calls Try.prog 164 #[.float .f64 b] w (fun e w' => ∃ r, e = .returned (.float .f64 r) ∧ IsF r (fabs x) ∧ w = w') :=
  (mabs_bits b w h.1).mono fun _ _ ⟨he, hw⟩ => ⟨_, he, h.abs, hw⟩

theorem parts_inf (b : Nat) (h1 : (b : Int) / 4503599627370496 % 2048 = 2047) (h2 : ((b : Int) % 4503599627370496 == 0) = true) : pMag b = 0 ∧ pExp b = 0 ∧ pKind b = 1 := by
  have e1 : expo b = 2047 := by unfold expo BN; omega
  have e2 : frac b = 0 := by have : (b : Int) % 4503599627370496 = 0 := by simpa using h2
                             unfold frac BN; omega
  simp [pMag, pExp, pKind, e1, e2]
theorem parts_nan (b : Nat) (h1 : (b : Int) / 4503599627370496 % 2048 = 2047) (h2 : ((b : Int) % 4503599627370496 == 0) = false) : pMag b = 0 ∧ pExp b = 0 ∧ pKind b = 2 := by
  have e1 : expo b = 2047 := by unfold expo BN; omega
  have e2 : frac b ≠ 0 := by have : ¬ (b : Int) % 4503599627370496 = 0 := by simpa using h2
                             unfold frac BN; omega
  simp [pMag, pExp, pKind, e1, e2]
theorem parts_sub (b : Nat) (h2 : ((b : Int) / 4503599627370496 % 2048 == 0) = true) : (pMag b : Int) = (b : Int) % 4503599627370496 ∧ pExp b = -1074 ∧ pKind b = 0 := by
  have e1 : expo b = 0 := by have : (b : Int) / 4503599627370496 % 2048 = 0 := by simpa using h2
                             unfold expo BN; omega
  simp [pMag, pExp, pKind, e1, frac, BN]
theorem parts_nor (b : Nat) (h1 : ¬ (b : Int) / 4503599627370496 % 2048 = 2047) (h2 : ((b : Int) / 4503599627370496 % 2048 == 0) = false) :
    (pMag b : Int) = (b : Int) % 4503599627370496 + 4503599627370496 ∧ pExp b = (b : Int) / 4503599627370496 % 2048 - 1075 ∧ pKind b = 0 := by
  have e1 : expo b ≠ 0 := by have : ¬ (b : Int) / 4503599627370496 % 2048 = 0 := by simpa using h2
                             unfold expo BN; omega
  have e2 : expo b ≠ 2047 := by unfold expo BN; omega
  have m1 : pMag b = frac b + BN := by simp [pMag, e1, e2]
  have m2 : pExp b = (expo b : Int) - 1075 := by simp [pExp, e1, e2]
  have m3 : pKind b = 0 := by simp [pKind, e2]
  rw [m1, m2, m3]
  refine ⟨?_, ?_, rfl⟩
  · unfold frac BN; omega
  · unfold expo BN; omega
theorem parts_neg (b : Nat) : ((b : Int) / 9223372036854775808 == 1) = pNeg b := by
  unfold pNeg SW
  rw [Bool.eq_iff_iff]
  simp only [beq_iff_eq, decide_eq_true_eq]; omega

abbrev partsV (b : Nat) : Value := .tuple #[.bool (pNeg b), .int .u64 (pMag b), .int .i64 (pExp b), .int .i64 (pKind b)]
set_option maxRecDepth 100000 in
set_option maxHeartbeats 400000 in
theorem parts_any (b : Nat) (w : World) (hb : b < 18446744073709551616) :
   Calls Try.prog 116 #[.float .f64 b] w (fun e w' => e = .returned (.tuple #[.bool (pNeg b), .int .u64 (pMag b), .int .i64 (pExp b), .int .i64 (pKind b)]) ∧ w = w') := by
  go_enter Try.func116, Try.ntmps116
  go_wp2
  · have h1 : (b : Int) / 4503599627370496 % 2048 = 2047 := by assumption
    have h2 : ((b : Int) % 4503599627370496 == 0) = true := by assumption
    obtain ⟨p1, p2, p3⟩ := parts_inf b h1 h2
    exact bodyPost_ret (v := partsV b) (by simp [results, Try.results116, go_sem, partsV, parts_neg, p1, p2, p3]) rfl ⟨rfl, rfl⟩
  · have h1 : (b : Int) / 4503599627370496 % 2048 = 2047 := by assumption
    have h2 : ((b : Int) % 4503599627370496 == 0) = false := by assumption
    obtain ⟨p1, p2, p3⟩ := parts_nan b h1 h2
    exact bodyPost_ret (v := partsV b) (by simp [results, Try.results116, go_sem, partsV, parts_neg, p1, p2, p3]) rfl ⟨rfl, rfl⟩
  · have h2 : ((b : Int) / 4503599627370496 % 2048 == 0) = true := by assumption
    obtain ⟨p1, p2, p3⟩ := parts_sub b h2
    exact bodyPost_ret (v := partsV b) (by simp [results, Try.results116, go_sem, partsV, parts_neg, p1, p2, p3]) rfl ⟨rfl, rfl⟩
  · have h1 : ¬ (b : Int) / 4503599627370496 % 2048 = 2047 := by assumption
    have h2 : ((b : Int) / 4503599627370496 % 2048 == 0) = false := by assumption
    obtain ⟨p1, p2, p3⟩ := parts_nor b h1 h2
    exact bodyPost_ret (v := partsV b) (by simp [results, Try.results116, go_sem, partsV, parts_neg, p1, p2, p3]) rfl ⟨rfl, rfl⟩

theorem kind_le (b : Nat) : pKind b = 0 ∨ pKind b = 1 ∨ pKind b = 2 := by unfold pKind; split <;> (try split) <;> simp
set_option maxRecDepth 100000 in
set_option maxHeartbeats 1000000 in
theorem same_any (a b x y : Nat) (w : World) (hx : IsF a x) (hy : IsF b y) :
   Calls Try.prog 37 #[.float .f64 a, .float .f64 b] w (fun e w' => e = .returned (.bool (decide (x = y))) ∧ w = w') := by
  have h := same_iff hx.1 hy.1
  rw [hx.2, hy.2] at h
  have H := hid h
  have ha := hx.1
  have hb := hy.1
  clear h
  by_cases e1 : a = b
  · subst e1
    have e : decide (x = y) = true := by simpa using H.out.1 (.inl rfl)
    go_enter Try.func37, Try.ntmps37
    go_wp2_with (first | (go_at_call 116; ((with_reducible refine (parts_any _ _ ha).mono ?_); rintro e w1 ⟨rfl, rfl⟩)))
    go_ret
    exact ⟨ret_bool (by rw [e]), rfl⟩
  · have e1' : ((a : Int) == (b : Int)) = false := by simp; omega
    by_cases e2 : pKind a = 2
    · have k2 : ((pKind a : Int) == 2) = true := by simp [e2]
      have hq : ((pKind b : Int) == 2) = decide (x = y) := by
        rw [Bool.eq_iff_iff]; simp only [beq_iff_eq, decide_eq_true_eq]
        constructor
        · intro h; exact H.out.1 (.inr ⟨e2, by omega⟩)
        · intro h; rcases H.out.2 h with h | h
          · exact absurd h e1
          · omega
      have Hq := hid hq
      clear hq
      have Hk := hid e2
      clear e2
      go_enter Try.func37, Try.ntmps37
      go_wp2_with (first | (go_at_call 116; ((with_reducible refine (parts_any a _ ha).mono ?_); rintro e w1 ⟨rfl, rfl⟩)) | (go_at_call 116; ((with_reducible refine (parts_any b _ hb).mono ?_); rintro e w1 ⟨rfl, rfl⟩)))
      go_ret
      exact ⟨ret_bool Hq.out, rfl⟩
    · have k2 : ((pKind a : Int) == 2) = false := by simp; omega
      have hq : decide (x = y) = false := by
        simp only [decide_eq_false_iff_not]
        intro h; rcases H.out.2 h with h | h
        · exact e1 h
        · exact e2 h.1
      have Hq := hid hq
      clear hq
      have Hk := hid e2
      clear e2
      go_enter Try.func37, Try.ntmps37
      go_wp2_with (first | (go_at_call 116; ((with_reducible refine (parts_any a _ ha).mono ?_); rintro e w1 ⟨rfl, rfl⟩)) | (go_at_call 116; ((with_reducible refine (parts_any b _ hb).mono ?_); rintro e w1 ⟨rfl, rfl⟩)))
      go_ret
      exact ⟨ret_bool Hq.out.symm, rfl⟩

/-- Are all finite? -/
def finL (l : List Nat) : Bool := l.all finB
theorem finL_take (l : List Nat) (k : Nat) (h : k < l.length) : finL (l.take (k + 1)) = (finL (l.take k) && finB (l.getD k 0)) := by
  unfold finL
  rw [List.take_succ_eq_append_getElem h, List.all_append]
  simp [List.getD_eq_getElem?_getD, h]
set_option maxRecDepth 100000 in
set_option maxHeartbeats 1000000 in
theorem finite_any (D : Value) (ws : List Nat) (w : World) (hD : FS w D ws) :
   Calls Try.prog 25 #[D] w (fun e w' => e = .returned (.bool (finL ws)) ∧ w = w') := by
  obtain ⟨a, cap, rfl⟩ := hD.shape
  have hl := hD.len
  have HD := hD.at.2
  clear hD
  have hl' : (ws.length : Int) ≤ 9223372036854775807 := by omega
  go_enter Try.func25, Try.ntmps25
  go_wp2
  go_loop [3] (fun c => ∃ k : Nat, k ≤ ws.length ∧ c = .int .i64 k ∧ finL (ws.take k) = true) (fun c => ws.length - (intOf c).toNat)
  case atStart => exact ⟨0, Nat.zero_le _, rfl, rfl⟩
  case round =>
    obtain ⟨k, hk, rfl, hf⟩ := hrel
    have Hf := hid hf
    clear hf
    by_cases hlt : k < ws.length
    · obtain ⟨blk, o, rfl, hblk, hc⟩ := HD (by omega)
      obtain ⟨b, hb, hx⟩ := hc k hlt
      clear hc
      have hb1 := hx.1
      have hkd := hx.kind
      have e0 := finL_take ws k hlt
      by_cases hf2 : pKind b = 0
      · have q : ((pKind b : Int) != 0) = false := by simp [hf2]
        have Hq := hid hf2
        have Hkd := hid hkd
        have He0 := hid e0
        clear hf2 hkd e0
        go_wp2_with (first | (go_at_call 116; ((with_reducible refine (parts_any _ _ hb1).mono ?_); rintro e w1 ⟨rfl, rfl⟩)))
        go_round
        case rel => exact ⟨k + 1, by omega, by go_num, by rw [He0.out, Hf.out, finB, ← Hkd.out, Hq.out]; rfl⟩
        case measure => simp [intOf]; omega
      · have q : ((pKind b : Int) != 0) = true := by simp [hf2]
        have Hq := hid hf2
        have Hkd := hid hkd
        have He0 := hid e0
        clear hf2 hkd e0
        go_wp2_with (first | (go_at_call 116; ((with_reducible refine (parts_any _ _ hb1).mono ?_); rintro e w1 ⟨rfl, rfl⟩)))
        go_ret
        refine ⟨ret_bool ?_, rfl⟩
        have : finB (ws.getD k 0) = false := by unfold finB; rw [← Hkd.out]; simpa using Hq.out
        unfold finL
        have hm : ws.getD k 0 ∈ ws := by rw [List.getD_eq_getElem?_getD, List.getElem?_eq_getElem hlt]; exact List.getElem_mem hlt
        symm
        rw [List.all_eq_false]
        exact ⟨_, hm, by simpa using this⟩
    · go_wp2
      go_ret
      refine ⟨ret_bool ?_, rfl⟩
      rw [← Hf.out, List.take_of_length_le (by omega)]

theorem take_snoc_eq {xs ys : List Nat} {k : Nat} (h : xs.length = ys.length) (hk : k < xs.length) (ht : xs.take k = ys.take k) :
    (xs.take (k + 1) = ys.take (k + 1)) ↔ xs.getD k 0 = ys.getD k 0 := by
  have hk' : k < ys.length := by omega
  have e1 : xs.take (k + 1) = xs.take k ++ [xs[k]] := List.take_succ_eq_append_getElem hk
  have e2 : ys.take (k + 1) = ys.take k ++ [ys[k]] := List.take_succ_eq_append_getElem hk'
  rw [e1, e2, ht, List.append_cancel_left_eq]
  simp [List.getD_eq_getElem?_getD, hk, hk']
set_option maxRecDepth 100000 in
set_option maxHeartbeats 1000000 in
theorem all_any (D E : Value) (xs ys : List Nat) (w : World) (hD : FS w D xs) (hE : FS w E ys) :
   Calls Try.prog 47 #[D, E] w (fun e w' => e = .returned (.bool (decide (xs = ys))) ∧ ∃ o n, w' = ext w o n) := by
  obtain ⟨a, cap, rfl⟩ := hD.shape
  obtain ⟨a', cap', rfl⟩ := hE.shape
  have hl := hD.len
  have hl2 := hE.len
  have HD := hD.at.2
  have HE := hE.at.2
  clear hD hE
  have hl' : (xs.length : Int) ≤ 9223372036854775807 := by omega
  by_cases hne : xs.length = ys.length
  · have hb0 : ((xs.length : Int) != (ys.length : Int)) = false := by simp; omega
    have Hne := hid hne
    have hn1 : xs.length ≤ ys.length := by omega
    clear hne
    go_enter Try.func47, Try.ntmps47
    go_wp2
    go_loopw [5] (fun c wr => ∃ k : Nat, k ≤ xs.length ∧ c = .int .i64 k ∧ xs.take k = ys.take k ∧ ∃ o n, wr = ext w o n) (fun c _ => xs.length - (intOf c).toNat)
    case atStart => exact ⟨0, Nat.zero_le _, rfl, rfl, _, _, ext_zero.symm⟩
    case round =>
      obtain ⟨k, hk, rfl, hf, oo, nn, hwr⟩ := hrel
      subst hwr
      have Hf := hid hf
      clear hf
      by_cases hlt : k < xs.length
      · obtain ⟨blk, o, rfl, hblk, hc⟩ := HD (by omega)
        obtain ⟨b, hb, hx⟩ := hc k hlt
        obtain ⟨blk', o', rfl, hblk', hc'⟩ := HE (by omega)
        obtain ⟨b', hb', hx'⟩ := hc' k (by omega)
        clear hc hc' HD HE
        obtain ⟨p, hp⟩ : ∃ p, p = xs.getD k 0 := ⟨_, rfl⟩
        obtain ⟨q, hq⟩ : ∃ q, q = ys.getD k 0 := ⟨_, rfl⟩
        rw [← hp] at hx
        rw [← hq] at hx'
        have Hp := hid hp
        have Hq := hid hq
        clear hp hq
        have hi1 : (k : Int) < (xs.length : Int) := by omega
        have hi2 : (k : Int) < (ys.length : Int) := by omega
        have hi0 : (0 : Int) ≤ (k : Int) := by omega
        go_wp2
        refine wp_region_R (Grew w) [] [(0,0), (0,1), (0,2), (0,3), (0,4), (0,5), (0,6), (0,7), (1,8), (0,9)] (by kernel_rfl) (by kernel_rfl) (fun _ _ _ _ h _ => h) (by first | exact ⟨_, _, ext_drew⟩ | exact ⟨_, _, drew_ext0⟩ | (show Grew _ _; repeat (first | (with_reducible exact Grew.refl _) | (with_reducible assumption) | (with_reducible exact Grew.same_o) | (with_reducible exact Grew.app_o) | (with_reducible refine Grew.ext ?_ _ _) | (with_reducible refine Grew.alloc ?_ _) | ((with_reducible refine Grew.setCell ?_ ?_ _); rotate_left; (focus (dsimp only; first | omega | (simp only [size_ext, World.size_alloc, Array.size_append]; omega)))) | (with_reducible refine Grew.drewN ?_ _) | (with_reducible refine Grew.drew ?_)))) ?_
        by_cases hpq : p = q
        · have hd : decide (p = q) = true := by simpa using hpq
          have Hpq := hid hpq
          clear hpq
          go_wp2_with (first | ((with_reducible refine wpR_id ?_); first | (refine wpR_take (v := ?_) rfl rfl ?_ ?_; rotate_left; (focus (rintro w' ⟨o', n', rfl⟩; go_simp; try with_reducible rfl)); simp only [Act.put, List.setIfInBounds_toArray, List.set_cons_zero, List.set_cons_succ]) | (refine wpR_pure (v := ?_) rfl rfl ?_ ?_; rotate_left; (focus (intro w'; go_simp; try with_reducible rfl)); simp only [Act.put, List.setIfInBounds_toArray, List.set_cons_zero, List.set_cons_succ]) | (refine wpR_takeG (v := ?_) rfl rfl rfl rfl rfl ?_ ?_; rotate_left; (focus (rintro w' ⟨o', n', rfl⟩; go_simp; try with_reducible rfl)); simp only [Act.put, List.setIfInBounds_toArray, List.set_cons_zero, List.set_cons_succ]) | (refine wpR_skip rfl rfl rfl rfl rfl rfl ?_; simp only [Act.put, List.setIfInBounds_toArray, List.set_cons_zero, List.set_cons_succ]) | (refine wpR_skipU rfl rfl rfl rfl rfl ?_; simp only [Act.put, List.setIfInBounds_toArray, List.set_cons_zero, List.set_cons_succ]) | (refine wpR_do rfl rfl (fun K hK => ?_)) | (refine wpR_doG rfl rfl rfl rfl rfl (fun K hK => ?_)) | (refine wpR_last rfl rfl (fun K hK => ?_)) | (refine wpR_nil ?_)) | ((with_reducible refine wpR_go ?_ ?_); (focus exact ⟨_, _, rfl⟩)) | ((with_reducible refine upon_id ?_); refine upon_fop rfl (by assumption) (by assumption) ?_; intro rr nn hr) | (go_at_call 37; ((with_reducible refine (same_any _ _ _ _ _ hx hx').mono ?_); rintro e w1 ⟨rfl, rfl⟩)))
          go_roundw
          case rel => exact ⟨k + 1, by omega, by go_num, (take_snoc_eq Hne.out hlt Hf.out).2 (by rw [← Hp.out, ← Hq.out]; exact Hpq.out), _, _, rfl⟩
          case measure => simp [intOf]; omega
        · have hd : decide (p = q) = false := by simpa using hpq
          have Hpq := hid hpq
          clear hpq
          go_wp2_with (first | ((with_reducible refine wpR_id ?_); first | (refine wpR_take (v := ?_) rfl rfl ?_ ?_; rotate_left; (focus (rintro w' ⟨o', n', rfl⟩; go_simp; try with_reducible rfl)); simp only [Act.put, List.setIfInBounds_toArray, List.set_cons_zero, List.set_cons_succ]) | (refine wpR_pure (v := ?_) rfl rfl ?_ ?_; rotate_left; (focus (intro w'; go_simp; try with_reducible rfl)); simp only [Act.put, List.setIfInBounds_toArray, List.set_cons_zero, List.set_cons_succ]) | (refine wpR_takeG (v := ?_) rfl rfl rfl rfl rfl ?_ ?_; rotate_left; (focus (rintro w' ⟨o', n', rfl⟩; go_simp; try with_reducible rfl)); simp only [Act.put, List.setIfInBounds_toArray, List.set_cons_zero, List.set_cons_succ]) | (refine wpR_skip rfl rfl rfl rfl rfl rfl ?_; simp only [Act.put, List.setIfInBounds_toArray, List.set_cons_zero, List.set_cons_succ]) | (refine wpR_skipU rfl rfl rfl rfl rfl ?_; simp only [Act.put, List.setIfInBounds_toArray, List.set_cons_zero, List.set_cons_succ]) | (refine wpR_do rfl rfl (fun K hK => ?_)) | (refine wpR_doG rfl rfl rfl rfl rfl (fun K hK => ?_)) | (refine wpR_last rfl rfl (fun K hK => ?_)) | (refine wpR_nil ?_)) | ((with_reducible refine wpR_go ?_ ?_); (focus exact ⟨_, _, rfl⟩)) | ((with_reducible refine upon_id ?_); refine upon_fop rfl (by assumption) (by assumption) ?_; intro rr nn hr) | (go_at_call 37; ((with_reducible refine (same_any _ _ _ _ _ hx hx').mono ?_); rintro e w1 ⟨rfl, rfl⟩)))
          go_ret
          refine ⟨ret_bool ?_, _, _, rfl⟩
          symm
          rw [decide_eq_false_iff_not]
          intro h
          exact Hpq.out (by rw [Hp.out, Hq.out, h])
      · go_wp2
        go_ret
        refine ⟨ret_bool ?_, _, _, rfl⟩
        symm
        rw [decide_eq_true_iff]
        have e := Hf.out
        have hn := Hne.out
        rwa [List.take_of_length_le (by omega), List.take_of_length_le (by omega)] at e
  · have hb0 : ((xs.length : Int) != (ys.length : Int)) = true := by simp; omega
    have Hne := hid hne
    clear hne
    go_enter Try.func47, Try.ntmps47
    go_wp2
    go_ret
    refine ⟨ret_bool ?_, _, _, ext_zero.symm⟩
    symm
    rw [decide_eq_false_iff_not]
    intro h
    exact Hne.out (by rw [h])
end Go.Proofs.Ytcmggfpcbijcjaa
end
section
/-
  Slices of floats that a call makes itself: appends; lists that may be written, and what a write does.
-/
set_option linter.unusedSimpArgs false
set_option linter.unusedVariables false
namespace Sedge
open Go Go.RowKit

/-- The slice v of ours owns the floats xs, in blocks from B on. -/
def OwnF (e : TypeId) (w : World) (B : Nat) (v : Value) (xs : List Nat) : Prop :=
  ∃ bs : List Nat, w.ownsRow B e 1 v bs.length (bs.map (Value.float .f64)) ∧ bs.map canon = xs ∧ ∀ b ∈ bs, b < 2 ^ 64

theorem OwnF.nil (e : TypeId) (w : World) (B : Nat) : OwnF e w B (.slice none 0 0) [] := ⟨[], ⟨by simp, .inl ⟨rfl, rfl⟩⟩, rfl, by simp⟩
theorem OwnF.length {e : TypeId} {w : World} {B : Nat} {v : Value} {xs : List Nat} (h : OwnF e w B v xs) : ∃ a cap, v = .slice a xs.length cap := by
  obtain ⟨bs, ⟨_, h1⟩, rfl, _⟩ := h
  rcases h1 with ⟨rfl, h1⟩ | ⟨g, cap, cur, rfl, _⟩
  · exact ⟨none, 0, by simp [h1]⟩
  · exact ⟨some ⟨g, 0, none⟩, cap, by simp⟩
theorem take_getElem? {α : Type} {l m : List α} {k i : Nat} (h : l.take k = m) (hi : i < m.length) : l[i]? = m[i]? := by
  subst h
  rw [List.getElem?_take_of_lt (by simp at hi; omega)]
theorem OwnF.fs {e : TypeId} {w : World} {B : Nat} {v : Value} {xs : List Nat} (h : OwnF e w B v xs) (hl : xs.length ≤ 9223372036854775807) : FS w v xs := by
  obtain ⟨bs, ⟨_, h1⟩, rfl, hb⟩ := h
  rcases h1 with ⟨rfl, h1⟩ | ⟨g, cap, cur, rfl, _, hh, hn, hm, hsz, ht⟩
  · have : bs = [] := List.length_eq_zero_iff.1 h1
    subst this; exact FS.nil w
  · refine ⟨hl, some ⟨g, 0, none⟩, cap, by simp, (fun h => by cases h), fun i hi => ⟨g, 0, bs.getD i 0, rfl, ?_, ?_⟩⟩
    · have hi' : i < bs.length := by simpa using hi
      rw [Nat.mul_one] at ht
      have := take_getElem? (i := i) ht (by simpa using hi')
      simp only [World.cell?, hh, Nat.zero_add, Option.isSome_none, Bool.false_eq_true, if_false]
      rw [← Array.getElem?_toList, this]
      simp [List.getD_eq_getElem?_getD, hi']
    · have hi' : i < bs.length := by simpa using hi
      have hm : bs.getD i 0 ∈ bs := by rw [List.getD_eq_getElem?_getD, List.getElem?_eq_getElem hi']; exact List.getElem_mem hi'
      refine ⟨hb _ hm, ?_⟩
      simp [List.getD_eq_getElem?_getD, hi']
theorem OwnF.grew {e : TypeId} {w w' : World} {B : Nat} {v : Value} {xs : List Nat} (h : OwnF e w B v xs) (g : Grew w w') : OwnF e w' B v xs := by
  obtain ⟨bs, ⟨h0, h1⟩, h2, h3⟩ := h
  refine ⟨bs, ⟨h0, ?_⟩, h2, h3⟩
  rcases h1 with h1 | ⟨gg, cap, cur, hv, hB, hh, r⟩
  · exact .inl h1
  · have hlt : gg < w.heap.size := by
      rcases Nat.lt_or_ge gg w.heap.size with h | h
      · exact h
      · rw [Array.getElem?_eq_none h] at hh; cases hh
    exact .inr ⟨gg, cap, cur, hv, hB, by rw [g.below.block gg hlt]; exact hh, r⟩
theorem OwnF.ext {e : TypeId} {w : World} {B : Nat} {v : Value} {xs : List Nat} (h : OwnF e w B v xs) (o : Array Obj) (n : Nat) : OwnF e (ext w o n) B v xs := h.grew ⟨_, _, rfl⟩
theorem OwnF.alloc {e : TypeId} {w : World} {B : Nat} {v : Value} {xs : List Nat} (h : OwnF e w B v xs) (o : Obj) : OwnF e (w.alloc o) B v xs := h.grew ((Grew.refl _).alloc o)
/-- A new block without cells. -/
theorem OwnF.empty {e : TypeId} {w : World} {B n : Nat} (hn : n = w.heap.size) (hB : B ≤ n) : OwnF e (w.alloc (.cells #[] e)) B (.slice (some ⟨n, 0, none⟩) 0 0) [] := by
  subst hn
  refine ⟨[], ⟨by simp, .inr ⟨_, 0, #[], rfl, hB, ?_, by simp, by simp, by simp, by simp⟩⟩, rfl, by simp⟩
  show (w.heap.push _)[w.heap.size]? = _
  simp

theorem grew_grown {W w w' : World} {row : Option Nat} (hW : Grew W w) (hg : w.grownBy w' row) (hr : ∀ k, row = some k → W.heap.size ≤ k) : Grew W w' := by
  refine Grew.of_below ?_
  have hb := hW.below
  exact hb.grown hg hb.size hr
theorem OwnF.block {e : TypeId} {w : World} {B : Nat} {v : Value} {xs : List Nat} (h : OwnF e w B v xs) : ∀ k, v.ownBlock = some k → B ≤ k := by
  obtain ⟨bs, ⟨_, h1⟩, _, _⟩ := h
  intro k hk
  rcases h1 with ⟨rfl, _⟩ | ⟨g, cap, cur, rfl, hB, _⟩
  · simp [Value.ownBlock] at hk
  · simp [Value.ownBlock] at hk; omega

/-- What the program's table says of a type of slices of floats. -/
structure ElemF (P : Program) (t e : TypeId) : Prop where
  und : P.underlying t = some (.slice e)
  info : (P.info? e).map (fun i => (i.zero, i.size, i.bytes)) = some (some (.float .f64 0), 1, 8)

section
variable {P : Program} {ops : Array Oper} {rest : List Oper} {o : Oper} {a : Act} {Q : Exit → Act → World → Prop}
/-- 'append(s, x)' of one float. -/
theorem append1_f {t e e' : TypeId} (T : ElemF P t e) {W w : World} (hW : Grew W w) {v : Value} {xs : List Nat} (hown : OwnF e w W.heap.size v xs) {b y : Nat} (hy : IsF b y)
    (hlen : xs.length < 17592186044415) (s x : Operand) (hg : o.guard = none)
    (ho : o.op = .call { callee := .builtin .append, args := #[s, x], argTypes := #[t, t] }) (hs : a.eval s = v) {k : Nat} (hk : k = w.heap.size) (hx : a.eval x = .slice (some ⟨k, 0, none⟩) 1 1)
    (h : ∀ v' oo nn, OwnF e (ext W oo nn) W.heap.size v' (xs ++ [y]) → v' ≠ .slice none 0 0 → wpList P ops Q rest (a.put o.dst v') (ext W oo nn)) :
    wpList P ops Q (o :: rest) a (w.alloc (.cells #[.float .f64 b] e')) := by
  subst hk
  obtain ⟨i0, hi, hz0, hz1, hz2⟩ := info_parts T.info
  have hblk := hown.block
  have h' := hown.alloc (.cells #[.float .f64 b] e')
  obtain ⟨bs, ho1, rfl, hb⟩ := h'
  have hl : bs.length < 17592186044415 := by simpa using hlen
  refine wpList_append_own _ hg s x t ho W.heap.size e i0 (.float .f64 0) 1 8 T.und hi hz0 hz1 hz2 rfl (by decide) v bs.length _ hs ho1 ⟨w.heap.size, 0, none⟩ 1 1 [.float .f64 b] hx rfl ?_ ?_ ?_ ?_ ?_ ?_
  · intro j u hj
    match j, hj with
    | 0, hj =>
      simp at hj; subst hj
      have e1 : (⟨w.heap.size, 0, none⟩ : Addr).add 0 = ⟨w.heap.size, 0, none⟩ := by simp [Addr.add]
      rw [e1, World.cell?_alloc_new]; rfl
  · intro u hu; simp at hu; subst hu; rfl
  · simp [maxLen]; omega
  · omega
  · have := hW.below.size; simp; omega
  · intro v' w' ho2 hgr hnn
    obtain ⟨oo, nn, rfl⟩ := grew_grown (hW.alloc (.cells #[.float .f64 b] e')) hgr hblk
    refine h v' oo nn ⟨bs ++ [b], by simpa using ho2, by simp [hy.2], fun z hz => ?_⟩ (fun h0 => by have := (hnn.1 h0).2; cases this)
    rcases List.mem_append.1 hz with hz | hz
    · exact hb z hz
    · simp at hz; subst hz; exact hy.1
/-- 'append(s, src...)'. -/
theorem appendN_f {t e : TypeId} (T : ElemF P t e) {W w : World} (hW : Grew W w) {v : Value} {xs : List Nat} (hown : OwnF e w W.heap.size v xs) {D : Value} {ws : List Nat} (hD : FS w D ws)
    (hlen : xs.length + ws.length < 17592186044415) (s x : Operand) (hg : o.guard = none)
    (ho : o.op = .call { callee := .builtin .append, args := #[s, x], argTypes := #[t, t] }) (hs : a.eval s = v) (hx : a.eval x = D)
    (h : ∀ v' oo nn, OwnF e (ext W oo nn) W.heap.size v' (xs ++ ws) → (v ≠ .slice none 0 0 → v' ≠ .slice none 0 0) → wpList P ops Q rest (a.put o.dst v') (ext W oo nn)) :
    wpList P ops Q (o :: rest) a w := by
  obtain ⟨i0, hi, hz0, hz1, hz2⟩ := info_parts T.info
  have hblk := hown.block
  obtain ⟨bs, ho1, rfl, hb⟩ := hown
  obtain ⟨ad, cap, rfl⟩ := hD.shape
  have hat := hD.at.2
  have hl : bs.length + ws.length < 17592186044415 := by simpa using hlen
  cases ad with
  | none =>
    have hw0 : ws = [] := by
      rcases Nat.eq_zero_or_pos ws.length with h0 | h0
      · exact List.length_eq_zero_iff.1 h0
      · obtain ⟨_, _, hh, _⟩ := hat h0; cases hh
    subst hw0
    have hcap := hD.nilcap rfl
    subst hcap
    · refine wpList_append_own_none hg s x t ho W.heap.size e i0 1 T.und hi v bs.length _ hs ho1 hx ?_
      obtain ⟨oo, nn, rfl⟩ := hW
      exact h v oo nn ⟨bs, ho1, by simp, hb⟩ id
  | some ad =>
    let f : Nat → Nat := fun i => match w.cell? (ad.add i) with | some (.float _ b) => b | _ => 0
    have each : ∀ i, i < ws.length → w.cell? (ad.add i) = some (.float .f64 (f i)) ∧ IsF (f i) (ws.getD i 0) := by
      intro i hi
      obtain ⟨blk, o, he, _, hc⟩ := hat (by omega)
      cases he
      obtain ⟨b, h1, h2⟩ := hc i hi
      have e1 : (⟨blk, o, none⟩ : Addr).add i = ⟨blk, o + i, none⟩ := by
        unfold Addr.add; split
        · rename_i h0; subst h0; rfl
        · rfl
      have : f i = b := by simp only [f]; rw [e1, h1]
      rw [this, e1]
      exact ⟨h1, h2⟩
    have hmap : ((List.range ws.length).map f).map canon = ws := by
      apply List.ext_getElem (by simp)
      intro i h1 h2
      simp only [List.getElem_map, List.getElem_range]
      have := (each i (by simpa using h2)).2.2
      rw [this, List.getD_eq_getElem?_getD, List.getElem?_eq_getElem h2]; rfl
    refine wpList_append_own _ hg s x t ho W.heap.size e i0 (.float .f64 0) 1 8 T.und hi hz0 hz1 hz2 rfl (by decide) v bs.length _ hs ho1 ad ws.length cap (((List.range ws.length).map f).map (Value.float .f64)) hx (by simp) ?_ ?_ ?_ ?_ ?_ ?_
    · intro j u hj
      have hj' : j < ws.length := by have := (List.getElem?_eq_some_iff.1 hj).1; simpa using this
      simp [hj'] at hj
      subst hj
      exact (each j hj').1
    · intro u hu; simp at hu; obtain ⟨_, _, rfl⟩ := hu; rfl
    · simp [maxLen]; omega
    · omega
    · exact hW.below.size
    · intro v' w' ho2 hgr hnn
      obtain ⟨oo, nn, rfl⟩ := grew_grown hW hgr hblk
      refine h v' oo nn ⟨bs ++ (List.range ws.length).map f, by simpa using ho2, by rw [List.map_append, hmap], fun z hz => ?_⟩ (fun h1 h2 => h1 (hnn.1 h2).1)
      rcases List.mem_append.1 hz with hz | hz
      · exact hb z hz
      · obtain ⟨i, hi, rfl⟩ := List.mem_map.1 hz
        exact (each i (by simpa using hi)).2.1
/-- 'make([]float64, n)'. -/
theorem make_f {t e : TypeId} (T : ElemF P t e) {W w : World} (hW : Grew W w) (l c : Operand) (hg : o.guard = none) (hop : o.op = Op.makeSlice t l c) (n : Nat) {L : Int} (hL : L = n) (hl : a.eval l = .int .i64 L) (hc : a.eval c = .int .i64 L)
    (hn : n ≤ 17592186044415)
    (h : ∀ oo nn k, W.heap.size ≤ k → OwnF e (ext W oo nn) W.heap.size (.slice (some ⟨k, 0, none⟩) n n) (List.replicate n 0) → wpList P ops Q rest (a.put o.dst (.slice (some ⟨k, 0, none⟩) n n)) (ext W oo nn)) :
    wpList P ops Q (o :: rest) a w := by
  obtain ⟨i0, hi, hz0, hz1, hz2⟩ := info_parts T.info
  refine wpList_make_full w hg l c t hop W.heap.size e i0 (.float .f64 0) 1 T.und hi hz0 hz1 .i64 .i64 L L n hl hc hL hL (by rw [hz2]; omega) (by simp [maxLen]; omega) hW.below.size ?_
  intro w' ho hgr
  obtain ⟨oo, nn, rfl⟩ := grew_grown hW hgr (fun k hk => by cases hk)
  refine h oo nn _ hW.below.size ⟨List.replicate n 0, ?_, by simp; right; decide +kernel, fun b hb => by rw [List.eq_of_mem_replicate hb]; decide⟩
  have e1 : (madeCells (Value.float .f64 0).cells (n * 1)).toList = List.map (Value.float .f64) (List.replicate n 0) := by
    apply List.ext_getElem?
    intro k
    simp [madeCells, Value.cells, Nat.mod_one]
    by_cases hk : k < n <;> simp [hk]
  rw [← e1]; simpa using ho
end
end Sedge
end
section
/-
  Lists of floats that are written: the block's cells as they stand; the rest of the world as it was.
-/
set_option linter.unusedSimpArgs false
set_option linter.unusedVariables false
namespace Sedge
open Go Go.RowKit

/-- The world w with the cells of block b replaced. -/
def upd (w : World) (b : Nat) (cs : Array Value) : World := { w with heap := w.heap.modify b fun | .cells _ e f => .cells cs e f | o => o }

section
variable {w : World} {b : Nat} {cs : Array Value}
@[simp, go_sem] theorem size_upd : (upd w b cs).heap.size = w.heap.size := by simp [upd]
theorem block_upd_ne {k : Nat} (h : k ≠ b) : (upd w b cs).heap[k]? = w.heap[k]? := by
  show (w.heap.modify b _)[k]? = _
  rw [Array.getElem?_modify, if_neg (by omega)]
theorem block_upd {c : Array Value} {e : TypeId} {f : Nat × Nat} (h : w.heap[b]? = some (.cells c e f)) : (upd w b cs).heap[b]? = some (.cells cs e f) := by
  show (w.heap.modify b _)[b]? = _
  rw [Array.getElem?_modify, if_pos rfl, h]; rfl
@[go_sem] theorem cell_upd_ne {k i : Nat} (h : k ≠ b) : (upd w b cs).cell? ⟨k, i, none⟩ = w.cell? ⟨k, i, none⟩ := by
  unfold World.cell?; rw [block_upd_ne (by exact h)]
theorem cell_upd_ne' {a : Addr} (h : a.block ≠ b) : (upd w b cs).cell? a = w.cell? a := by
  unfold World.cell?; rw [block_upd_ne h]
@[simp, go_sem] theorem frozen_upd {a : Addr} : (upd w b cs).frozen? a = w.frozen? a := by
  unfold World.frozen?
  by_cases h : a.block = b
  · subst h
    show (match (w.heap.modify a.block _)[a.block]? with | some (.cells _ _ (lo, hi)) => _ | _ => _) = _
    rw [Array.getElem?_modify, if_pos rfl]
    cases w.heap[a.block]? with
    | none => rfl
    | some x => cases x <;> rfl
  · rw [block_upd_ne h]
@[simp, go_sem] theorem upd_upd {cs' : Array Value} : upd (upd w b cs) b cs' = upd w b cs' := by
  unfold upd
  simp only [World.mk.injEq, true_and, and_true]
  apply Array.ext_getElem?
  intro i
  simp only [Array.getElem?_modify]
  split
  · cases w.heap[i]? with
    | none => rfl
    | some x => cases x <;> rfl
  · rfl
@[go_sem] theorem upd_ext {o : Array Obj} {n : Nat} (h : b < w.heap.size) : upd (ext w o n) b cs = ext (upd w b cs) o n := by
  unfold ext upd
  simp only [World.mk.injEq, true_and, and_true]
  apply Array.ext_getElem?
  intro i
  by_cases hi : i < w.heap.size
  · rw [Array.getElem?_append_left (by simpa using hi), Array.getElem?_modify, Array.getElem?_modify, Array.getElem?_append_left hi]
  · rw [Array.getElem?_append_right (by simpa using hi), Array.getElem?_modify, if_neg (by omega), Array.getElem?_append_right (by omega)]
    simp
@[go_sem] theorem setCell_upd {i : Nat} {v : Value} : (upd w b cs).setCell ⟨b, i, none⟩ v = upd w b (cs.setIfInBounds i v) := by
  unfold upd World.setCell
  simp only [World.mk.injEq, true_and, and_true]
  apply Array.ext_getElem?
  intro k
  simp only [Array.getElem?_modify]
  split
  · cases w.heap[k]? with
    | none => rfl
    | some x => cases x <;> rfl
  · rfl
end

/-- The first cells are the floats ws. -/
def CF (cs : Array Value) (ws : List Nat) : Prop := ws.length ≤ cs.size ∧ ∀ i, i < ws.length → ∃ r, cs[i]? = some (.float .f64 r) ∧ IsF r (ws.getD i 0)
theorem CF.set {cs : Array Value} {ws : List Nat} (h : CF cs ws) {i r x : Nat} (hr : IsF r x) : CF (cs.setIfInBounds i (.float .f64 r)) (ws.set i x) := by
  obtain ⟨h1, h2⟩ := h
  refine ⟨by simpa using h1, fun k hk => ?_⟩
  have hk' : k < ws.length := by simpa using hk
  by_cases hik : i = k
  · subst hik
    refine ⟨r, ?_, ?_⟩
    · rw [Array.getElem?_setIfInBounds, if_pos rfl, if_pos (by omega)]
    · simpa [List.getD_eq_getElem?_getD, hk'] using hr
  · obtain ⟨s, h3, h4⟩ := h2 k hk'
    refine ⟨s, ?_, ?_⟩
    · rw [Array.getElem?_setIfInBounds, if_neg hik]; exact h3
    · rw [List.getD_eq_getElem?_getD, List.getElem?_set_ne hik, ← List.getD_eq_getElem?_getD]; exact h4

/-- Block b is a row of cells that may be written; its first ones are ws. -/
def FW (w : World) (b : Nat) (ws : List Nat) : Prop := ∃ c e, w.heap[b]? = some (.cells c e (0, 0)) ∧ CF c ws

section
variable {w : World} {b : Nat} {ws : List Nat}
theorem FW.lt (h : FW w b ws) : b < w.heap.size := by
  obtain ⟨c, e, h1, _⟩ := h
  exact (Array.getElem?_eq_some_iff.1 h1).1
theorem FW.notFrozen (h : FW w b ws) (i : Nat) : w.frozen? ⟨b, i, none⟩ = false := by
  obtain ⟨c, e, h1, _⟩ := h
  unfold World.frozen?
  simp only [h1]
  simp
/-- As it stands. -/
theorem FW.self (h : FW w b ws) : ∃ cs, upd w b cs = w ∧ CF cs ws := by
  obtain ⟨c, e, h1, h2⟩ := h
  refine ⟨c, ?_, h2⟩
  unfold upd
  cases w with | mk hp tp dr os' out => ?_
  simp only [World.mk.injEq, true_and, and_true] at *
  apply Array.ext_getElem?
  intro i
  rw [Array.getElem?_modify]
  split
  · rename_i he; subst he; rw [h1]; rfl
  · rfl
theorem FW.cells (h : FW w b ws) (cs : Array Value) (i : Nat) : (upd w b cs).cell? ⟨b, i, none⟩ = cs[i]? := by
  obtain ⟨c, e, h1, _⟩ := h
  unfold World.cell?
  simp only [block_upd h1]
  simp
theorem FW.mk' (h : FW w b ws) {cs : Array Value} {ws' : List Nat} (hc : CF cs ws') (o : Array Obj) (n : Nat) : FW (ext (upd w b cs) o n) b ws' := by
  have hlt := h.lt
  obtain ⟨c, e, h1, _⟩ := h
  exact ⟨cs, e, by rw [block_ext (by simpa using hlt), block_upd h1], hc⟩
theorem FW.fs (h : FW w b ws) (hl : ws.length ≤ 9223372036854775807) (cap : Nat) : FS w (.slice (some ⟨b, 0, none⟩) ws.length cap) ws := by
  obtain ⟨c, e, h1, h2⟩ := h
  refine ⟨hl, _, cap, rfl, (fun h => by cases h), fun i hi => ?_⟩
  obtain ⟨r, h3, h4⟩ := h2.2 i hi
  refine ⟨b, 0, r, rfl, ?_, h4⟩
  unfold World.cell?
  simp only [h1, Nat.zero_add]
  simpa using h3
theorem FW.same {w' : World} (h : FW w b ws) (hs : w'.heap[b]? = w.heap[b]?) : FW w' b ws := by
  obtain ⟨c, e, h1, h2⟩ := h
  exact ⟨c, e, hs.trans h1, h2⟩
theorem FW.grew {w' : World} (h : FW w b ws) (g : Grew w w') : FW w' b ws := h.same (g.below.block b h.lt)
theorem FW.ext (h : FW w b ws) (o : Array Obj) (n : Nat) : FW (ext w o n) b ws := h.grew ⟨_, _, rfl⟩
theorem FW.alloc (h : FW w b ws) (o : Obj) : FW (w.alloc o) b ws := h.grew ((Grew.refl _).alloc o)
theorem FW.upd_ne (h : FW w b ws) {k : Nat} (hk : b ≠ k) (cs : Array Value) : FW (upd w k cs) b ws := h.same (block_upd_ne hk)
end

/-- v does not lie in block b. -/
def NotIn (b : Nat) (v : Value) : Prop := ∀ a l c, v = .slice (some a) l c → a.block ≠ b
theorem FS.upd_ne {w : World} {v : Value} {ws : List Nat} (h : FS w v ws) {b : Nat} (hn : NotIn b v) (cs : Array Value) : FS (upd w b cs) v ws := by
  obtain ⟨hl, a, cap, hv, h0, hc⟩ := h
  refine ⟨hl, a, cap, hv, h0, fun i hi => ?_⟩
  obtain ⟨blk, o, r, he, h1, h2⟩ := hc i hi
  refine ⟨blk, o, r, he, ?_, h2⟩
  rw [cell_upd_ne (by exact hn ⟨blk, o, none⟩ _ _ (by rw [hv, he]))]
  exact h1
theorem OwnF.fw {e : TypeId} {w : World} {B : Nat} {v : Value} {xs : List Nat} (h : OwnF e w B v xs) (hn : v ≠ .slice none 0 0) :
    ∃ g cap, v = .slice (some ⟨g, 0, none⟩) xs.length cap ∧ B ≤ g ∧ FW w g xs := by
  obtain ⟨bs, ⟨_, h1⟩, rfl, hb⟩ := h
  rcases h1 with ⟨h1, _⟩ | ⟨g, cap, cur, rfl, hB, hh, hn, hm, hsz, ht⟩
  · exact absurd h1 hn
  · refine ⟨g, cap, by simp, hB, cur, e, hh, by simp; omega, fun i hi => ?_⟩
    have hi' : i < bs.length := by simpa using hi
    rw [Nat.mul_one] at ht
    have h2 := take_getElem? (i := i) ht (by simpa using hi')
    have hm : bs.getD i 0 ∈ bs := by rw [List.getD_eq_getElem?_getD, List.getElem?_eq_getElem hi']; exact List.getElem_mem hi'
    refine ⟨bs.getD i 0, ?_, hb _ hm, ?_⟩
    · rw [← Array.getElem?_toList, h2]; simp [List.getD_eq_getElem?_getD, hi']
    · simp [List.getD_eq_getElem?_getD, hi']
/-- A slice of our own that may be written: its block lies at B or behind; it reads as ws. -/
def WS (w : World) (B : Nat) (v : Value) (ws : List Nat) : Prop := ∃ g cap, v = .slice (some ⟨g, 0, none⟩) ws.length cap ∧ B ≤ g ∧ FW w g ws ∧ ws.length ≤ 9223372036854775807
theorem OwnF.ws {e : TypeId} {w : World} {B : Nat} {v : Value} {xs : List Nat} (h : OwnF e w B v xs) (hn : v ≠ .slice none 0 0) (hl : xs.length ≤ 9223372036854775807) : WS w B v xs := by
  obtain ⟨g, cap, h1, h2, h3⟩ := h.fw hn
  exact ⟨g, cap, h1, h2, h3, hl⟩
theorem WS.fs {w : World} {B : Nat} {v : Value} {xs : List Nat} (h : WS w B v xs) : FS w v xs := by
  obtain ⟨g, cap, rfl, _, h3, h4⟩ := h
  exact h3.fs h4 cap
theorem WS.grew {w w' : World} {B : Nat} {v : Value} {xs : List Nat} (h : WS w B v xs) (g : Grew w w') : WS w' B v xs := by
  obtain ⟨k, cap, h1, h2, h3, h4⟩ := h
  exact ⟨k, cap, h1, h2, h3.grew g, h4⟩
theorem WS.ext {w : World} {B : Nat} {v : Value} {xs : List Nat} (h : WS w B v xs) (o : Array Obj) (n : Nat) : WS (ext w o n) B v xs := h.grew ⟨_, _, rfl⟩
theorem WS.alloc {w : World} {B : Nat} {v : Value} {xs : List Nat} (h : WS w B v xs) (o : Obj) : WS (w.alloc o) B v xs := h.grew ((Grew.refl _).alloc o)
theorem WS.mono {w : World} {B C : Nat} {v : Value} {xs : List Nat} (h : WS w B v xs) (hc : C ≤ B) : WS w C v xs := by
  obtain ⟨k, cap, h1, h2, h3, h4⟩ := h
  exact ⟨k, cap, h1, Nat.le_trans hc h2, h3, h4⟩
theorem Grew.upd {W w : World} {b : Nat} (h : Grew W w) (hb : W.heap.size ≤ b) (cs : Array Value) : Grew W (upd w b cs) := by
  refine Grew.of_below ?_
  have := h.below
  exact ⟨this.os, this.tape, this.output, by simpa using this.size, fun k hk => by rw [block_upd_ne (by omega)]; exact this.block k hk⟩
theorem Grew.setCell {W w : World} {a : Addr} (h : Grew W w) (hb : W.heap.size ≤ a.block) (v : Value) : Grew W (w.setCell a v) := by
  refine Grew.of_below ?_
  have := h.below
  refine ⟨this.os, this.tape, this.output, by simpa [World.setCell] using this.size, fun k hk => ?_⟩
  rw [← this.block k hk]
  show (w.heap.modify _ _)[k]? = _
  rw [Array.getElem?_modify, if_neg (by omega)]
/-- A write elsewhere. -/
theorem FW.setCell_ne {w : World} {b : Nat} {ws : List Nat} (h : FW w b ws) {a : Addr} (hb : a.block ≠ b) (v : Value) : FW (w.setCell a v) b ws := h.same (by
  show (w.heap.modify _ _)[b]? = _
  rw [Array.getElem?_modify, if_neg hb])
theorem WS.setCell {w : World} {B : Nat} {v : Value} {xs : List Nat} (h : WS w B v xs) {a : Addr} (hb : a.block < B) (u : Value) : WS (w.setCell a u) B v xs := by
  obtain ⟨k, cap, h1, h2, h3, h4⟩ := h
  exact ⟨k, cap, h1, h2, h3.setCell_ne (by omega) u, h4⟩
theorem OwnF.made {e : TypeId} {w : World} {B k n c : Nat} {xs : List Nat} (h : OwnF e w B (.slice (some ⟨k, 0, none⟩) n c) xs) : FW w k xs := by
  obtain ⟨g, cap, he, hB, hF⟩ := h.fw (by intro h; cases h)
  have := (Value.slice.inj he).1
  have e2 : k = g := congrArg (fun o : Option Addr => match o with | some a => a.block | none => 0) this
  rw [e2]; exact hF
theorem size_setCell' {w : World} {a : Addr} {v : Value} : (w.setCell a v).heap.size = w.heap.size := by simp [World.setCell]
theorem FW.ext_set {w : World} {b : Nat} {ws : List Nat} {o : Array Obj} {n : Nat} (h : FW (Sedge.ext w o n) b ws) {a : Addr} (h1 : a.block < w.heap.size) (h2 : a.block ≠ b) (v : Value) : FW (Sedge.ext (w.setCell a v) o n) b ws := by
  rw [← setCell_ext' h1]
  exact h.setCell_ne h2 v
/-- From w to w' the list in block g was written, and new blocks laid. -/
def Wrote (w w' : World) (g : Nat) (ws : List Nat) : Prop := ∃ cs o n, w' = Sedge.ext (upd w g cs) o n ∧ CF cs ws
theorem Wrote.refl {w : World} {g : Nat} {ws : List Nat} (h : FW w g ws) : Wrote w w g ws := by
  obtain ⟨cs, h1, h2⟩ := h.self
  exact ⟨cs, #[], _, by rw [h1]; exact ext_zero.symm, h2⟩
theorem Wrote.fw {w w' : World} {g : Nat} {ws ws' : List Nat} (h : Wrote w w' g ws') (hF : FW w g ws) : FW w' g ws' := by
  obtain ⟨cs, o, n, rfl, h2⟩ := h
  exact hF.mk' h2 o n
theorem Wrote.grew_r {w w' w'' : World} {g : Nat} {ws : List Nat} (h : Wrote w w' g ws) (k : Grew w' w'') : Wrote w w'' g ws := by
  obtain ⟨cs, o, n, rfl, h2⟩ := h
  obtain ⟨o', n', rfl⟩ := k
  exact ⟨cs, _, _, ext_ext, h2⟩
theorem Wrote.grew_l {w w' w'' : World} {g : Nat} {ws : List Nat} (k : Grew w w') (hg : g < w.heap.size) (h : Wrote w' w'' g ws) : Wrote w w'' g ws := by
  obtain ⟨o', n', rfl⟩ := k
  obtain ⟨cs, o, n, rfl, h2⟩ := h
  exact ⟨cs, _, _, by rw [upd_ext hg, ext_ext], h2⟩
theorem Wrote.trans {w w' w'' : World} {g : Nat} {ws ws' : List Nat} (h : Wrote w w' g ws) (hg : g < w.heap.size) (k : Wrote w' w'' g ws') : Wrote w w'' g ws' := by
  obtain ⟨cs, o, n, rfl, h2⟩ := h
  obtain ⟨cs', o', n', rfl, h2'⟩ := k
  exact ⟨cs', _, _, by rw [upd_ext (by simpa using hg), upd_upd, ext_ext], h2'⟩
theorem Wrote.grew {W w w' : World} {g : Nat} {ws : List Nat} (h : Wrote w w' g ws) (hW : Grew W w) (hg : W.heap.size ≤ g) : Grew W w' := by
  obtain ⟨cs, o, n, rfl, h2⟩ := h
  exact (hW.upd hg cs).ext _ _
theorem Wrote.fs {w w' : World} {g : Nat} {ws : List Nat} (h : Wrote w w' g ws) {v : Value} {us : List Nat} (hv : FS w v us) (hn : NotIn g v) : FS w' v us := by
  obtain ⟨cs, o, n, rfl, h2⟩ := h
  exact (hv.upd_ne hn cs).ext o n
theorem Wrote.fw_ne {w w' : World} {g : Nat} {ws : List Nat} (h : Wrote w w' g ws) {k : Nat} {us : List Nat} (hv : FW w k us) (hn : k ≠ g) : FW w' k us := by
  obtain ⟨cs, o, n, rfl, h2⟩ := h
  exact (hv.upd_ne hn cs).ext o n
theorem FW.get {w : World} {g : Nat} {ws : List Nat} (h : FW w g ws) {i : Nat} (hi : i < ws.length) : ∃ r, w.cell? ⟨g, i, none⟩ = some (.float .f64 r) ∧ IsF r (ws.getD i 0) := by
  obtain ⟨c, e, h1, h2⟩ := h
  obtain ⟨r, h3, h4⟩ := h2.2 i hi
  exact ⟨r, by unfold World.cell?; simp only [h1]; simpa using h3, h4⟩
/-- The store of a float. -/
@[go_sem] theorem run_store_float {P : Program} {w : World} {a : Addr} {m : Mode} (k : FloatKind) (b : Nat) : (store a (.float k b) m).run P w = stored P w a (.float k b) m := run_store P w a _ m rfl
theorem Grew.cell {W V : World} (h : Grew W V) {b i : Nat} (hb : b < W.heap.size) : V.cell? ⟨b, i, none⟩ = W.cell? ⟨b, i, none⟩ := h.below.cell (p := ⟨b, i, none⟩) hb
theorem Grew.frozen {W V : World} (h : Grew W V) {b i : Nat} (hb : b < W.heap.size) : V.frozen? ⟨b, i, none⟩ = W.frozen? ⟨b, i, none⟩ := h.below.frozen (p := ⟨b, i, none⟩) hb
/-- w is V with block g written, and new blocks. -/
def Over (V : World) (g : Nat) (w : World) : Prop := ∃ cs o n, w = Sedge.ext (upd V g cs) o n
/-- One write. -/
theorem FW.set {w : World} {g : Nat} {ws : List Nat} (h : FW w g ws) {k r x : Nat} (hr : IsF r x) : ∃ cs, w.setCell ⟨g, k, none⟩ (.float .f64 r) = upd w g cs ∧ CF cs (ws.set k x) := by
  obtain ⟨cs, h1, h2⟩ := h.self
  exact ⟨cs.setIfInBounds k (.float .f64 r), by rw [← setCell_upd, h1], h2.set hr⟩
theorem FW.wrote {w : World} {g : Nat} {ws : List Nat} (h : FW w g ws) {k r x : Nat} (hr : IsF r x) : Wrote w (w.setCell ⟨g, k, none⟩ (.float .f64 r)) g (ws.set k x) := by
  obtain ⟨cs, h1, h2⟩ := h.set (k := k) hr
  exact ⟨cs, #[], _, by rw [h1]; exact ext_zero.symm, h2⟩
/-- Writes, one behind the other: at p k the number f k. -/
def writes (l : List Nat) (p f : Nat → Nat) : Nat → List Nat
  | 0 => l
  | k + 1 => (writes l p f k).set (p k) (f k)
@[simp] theorem writes_length (l : List Nat) (p f : Nat → Nat) : ∀ k, (writes l p f k).length = l.length
  | 0 => rfl
  | k + 1 => by unfold writes; rw [List.length_set, writes_length l p f k]
/-- The world of the goal, named. -/
theorem name_any {p : World → Prop} {w : World} (h : ∀ W, w = W → p W) : p w := h w rfl
theorem name_call {P : Program} {f : FuncId} {args : Array Value} {post : Ending → World → Prop} {w : World} (h : ∀ W, w = W → Calls P f args W post) : Calls P f args w post := h w rfl
end Sedge
end
section
/-
  Contracts: whether vectors and matrices are right (layer 3 and its reference).
-/
set_option linter.unusedSimpArgs false
set_option linter.unusedVariables false
open Go Go.RowKit Sedge
namespace Go.Proofs.Ytcmggfpcbijcjaa

theorem fitsB_eq (size off steps step more : Int) (h1 : 0 ≤ off) (h5 : 1 ≤ step) :
   decide (steps ≤ (size - 1 - off - more) / step) = fitsB size off steps step more := by
  unfold fitsB
  have : steps ≤ (size - 1 - off - more) / step ↔ steps * step ≤ size - 1 - off - more := Int.le_ediv_iff_mul_le (by omega)
  simp only [this]
  congr 1
  simp only [eq_iff_iff]
  constructor
  · intro h; exact ⟨h1, by omega⟩
  · intro h; omega
theorem fitsB_no (size off steps step more : Int) (h4 : 0 ≤ steps) (h5 : 1 ≤ step) (h6 : 0 ≤ more) (h : size ≤ off + more) : fitsB size off steps step more = false := by
  unfold fitsB
  have : 0 ≤ steps * step := Int.mul_nonneg h4 (by omega)
  simp; omega
theorem fitsB_swap (size off steps step more : Int) (h1 : 0 ≤ off) (h4 : 1 ≤ steps) :
   decide (step ≤ (size - off - more - 1) / steps) = fitsB size off steps step more := by
  unfold fitsB
  have : step ≤ (size - off - more - 1) / steps ↔ step * steps ≤ size - off - more - 1 := Int.le_ediv_iff_mul_le (by omega)
  simp only [this]
  congr 1
  simp only [eq_iff_iff]
  rw [Int.mul_comm step steps]
  constructor
  · intro h; exact ⟨h1, by omega⟩
  · intro h; omega

set_option maxHeartbeats 400000 in
theorem fits_any (size off steps step more : Int) (w : World) (h0 : 0 ≤ size) (h0' : size ≤ 9223372036854775807) (h1 : 0 ≤ off) (h1' : off ≤ 9223372036854775807) (h4 : 0 ≤ steps) (h5 : 1 ≤ step) (h6 : 0 ≤ more) (h6' : more ≤ 9223372036854775807) :
   Calls Try.prog 193 #[.int .i64 size, .int .i64 off, .int .i64 steps, .int .i64 step, .int .i64 more] w (fun e w' => e = .returned (.bool (fitsB size off steps step more)) ∧ w = w') := by
  by_cases h2 : off < size
  · by_cases h3 : more < size - off
    · go_enter Try.func193, Try.ntmps193
      go_wp2
      go_ret
      exact ⟨by simp [fitsB_eq, *], rfl⟩
    · go_enter Try.func193, Try.ntmps193
      go_wp2
      go_ret
      exact ⟨by rw [fitsB_no] <;> first | rfl | omega, rfl⟩
  · go_enter Try.func193, Try.ntmps193
    go_wp2
    go_ret
    exact ⟨by rw [fitsB_no] <;> first | rfl | omega, rfl⟩

/-- straightedgeref03.within (a is the number of steps, b a step). -/
theorem within_any (size off steps step more : Int) (w : World) (h0 : 0 ≤ size) (h0' : size ≤ 9223372036854775807) (h1 : 0 ≤ off) (h1' : off ≤ 9223372036854775807) (h4 : 0 ≤ steps) (h5 : 1 ≤ step) (h6 : 0 ≤ more) (h6' : more ≤ 9223372036854775807) (h7 : steps ≤ 9223372036854775807) :
   Calls Try.prog 133 #[.int .i64 size, .int .i64 off, .int .i64 steps, .int .i64 step, .int .i64 more] w (fun e w' => e = .returned (.bool (fitsB size off steps step more)) ∧ w = w') := by
  by_cases h2 : off < size
  · by_cases h3 : more < size - off
    · by_cases h8 : steps = 0
      · subst h8
        go_enter Try.func133, Try.ntmps133
        go_wp2
        go_ret
        exact ⟨by simp [fitsB]; omega, rfl⟩
      · have h8' : (steps == 0) = false := by simpa using h8
        go_enter Try.func133, Try.ntmps133
        go_wp2
        go_ret
        exact ⟨by rw [fitsB_swap] <;> first | rfl | omega, rfl⟩
    · go_enter Try.func133, Try.ntmps133
      go_wp2
      go_ret
      exact ⟨by rw [fitsB_no] <;> first | rfl | omega, rfl⟩
  · go_enter Try.func133, Try.ntmps133
    go_wp2
    go_ret
    exact ⟨by rw [fitsB_no] <;> first | rfl | omega, rfl⟩

set_option maxHeartbeats 400000 in
theorem right_any (x : VecM) (D : Value) (w : World) (hD : FS w D x.ws) (hwf : x.wf) :
   Calls Try.prog 135 #[.agg #[D, .int .i64 x.off, .int .i64 x.n, .int .i64 x.inc]] w (fun e w' => e = .returned (.bool x.right) ∧ ∃ o n, w' = ext w o n) := by
  obtain ⟨ws, off, n, inc⟩ := x
  obtain ⟨a, cap, rfl⟩ := hD.shape
  have hl := hD.len
  simp only [VecM.wf, I64] at hwf hD hl ⊢
  obtain ⟨⟨_, _⟩, ⟨_, _⟩, ⟨_, _⟩⟩ := hwf
  by_cases k1 : n < 0
  · go_enter Try.func135, Try.ntmps135
    go_wp2
    go_ret
    exact ⟨by simp [VecM.right]; omega, (Grew.refl _).alloc _⟩
  by_cases k2 : inc < 1
  · go_enter Try.func135, Try.ntmps135
    go_wp2
    go_ret
    exact ⟨by simp [VecM.right]; omega, (Grew.refl _).alloc _⟩
  by_cases k3 : off < 0
  · go_enter Try.func135, Try.ntmps135
    go_wp2
    go_ret
    exact ⟨by simp [VecM.right]; omega, (Grew.refl _).alloc _⟩
  by_cases k4 : n = 0
  · subst k4
    go_enter Try.func135, Try.ntmps135
    go_wp2
    go_ret
    exact ⟨by simp [VecM.right]; omega, (Grew.refl _).alloc _⟩
  · have k4' : (n == 0) = false := by simpa using k4
    go_enter Try.func135, Try.ntmps135
    go_wp2_with (go_at_call 193; refine (fits_any _ _ _ _ _ _ (by omega) (by omega) (by omega) (by omega) (by omega) (by omega) (by omega) (by omega)).mono ?_; rintro e w' ⟨rfl, rfl⟩)
    go_ret
    exact ⟨by simp [VecM.right, k4]; omega, (Grew.refl _).alloc _⟩

set_option maxHeartbeats 400000 in
theorem rright_any (x : VecM) (D : Value) (w : World) (hD : FS w D x.ws) (hwf : x.wf) :
   Calls Try.prog 56 #[.agg #[D, .int .i64 x.off, .int .i64 x.n, .int .i64 x.inc]] w (fun e w' => e = .returned (.bool x.right) ∧ ∃ o n, w' = ext w o n) := by
  obtain ⟨ws, off, n, inc⟩ := x
  obtain ⟨a, cap, rfl⟩ := hD.shape
  have hl := hD.len
  simp only [VecM.wf, I64] at hwf hD hl ⊢
  obtain ⟨⟨_, _⟩, ⟨_, _⟩, ⟨_, _⟩⟩ := hwf
  by_cases k1 : n < 0
  · go_enter Try.func56, Try.ntmps56
    go_wp2
    go_ret
    exact ⟨by simp [VecM.right]; omega, (Grew.refl _).alloc _⟩
  by_cases k2 : inc < 1
  · go_enter Try.func56, Try.ntmps56
    go_wp2
    go_ret
    exact ⟨by simp [VecM.right]; omega, (Grew.refl _).alloc _⟩
  by_cases k3 : off < 0
  · go_enter Try.func56, Try.ntmps56
    go_wp2
    go_ret
    exact ⟨by simp [VecM.right]; omega, (Grew.refl _).alloc _⟩
  by_cases k4 : n = 0
  · subst k4
    go_enter Try.func56, Try.ntmps56
    go_wp2
    go_ret
    exact ⟨by simp [VecM.right]; omega, (Grew.refl _).alloc _⟩
  · have k4' : (n == 0) = false := by simpa using k4
    go_enter Try.func56, Try.ntmps56
    go_wp2_with (go_at_call 133; refine (within_any _ _ _ _ _ _ (by omega) (by omega) (by omega) (by omega) (by omega) (by omega) (by omega) (by omega) (by omega)).mono ?_; rintro e w' ⟨rfl, rfl⟩)
    go_ret
    exact ⟨by simp [VecM.right, k4]; omega, (Grew.refl _).alloc _⟩

set_option maxHeartbeats 1000000 in
theorem good_any (x : MatM) (D : Value) (w : World) (hD : FS w D x.ws) (hwf : x.wf) :
   Calls Try.prog 130 #[.agg #[D, .int .i64 x.off, .int .i64 x.rows, .int .i64 x.cols, .int .i64 x.ld]] w (fun e w' => e = .returned (.bool x.good) ∧ ∃ o n, w' = ext w o n) := by
  obtain ⟨ws, off, rows, cols, ld⟩ := x
  obtain ⟨a, cap, rfl⟩ := hD.shape
  have hl := hD.len
  simp only [MatM.wf, I64] at hwf hD hl ⊢
  obtain ⟨⟨_, _⟩, ⟨_, _⟩, ⟨_, _⟩, ⟨_, _⟩⟩ := hwf
  by_cases k1 : rows < 0
  · go_enter Try.func130, Try.ntmps130
    go_wp2
    go_ret
    exact ⟨by simp [MatM.good]; omega, (Grew.refl _).alloc _⟩
  by_cases k2 : cols < 0
  · go_enter Try.func130, Try.ntmps130
    go_wp2
    go_ret
    exact ⟨by simp [MatM.good]; omega, (Grew.refl _).alloc _⟩
  by_cases k3 : off < 0
  · go_enter Try.func130, Try.ntmps130
    go_wp2
    go_ret
    exact ⟨by simp [MatM.good]; omega, (Grew.refl _).alloc _⟩
  by_cases k4 : ld < 1
  · go_enter Try.func130, Try.ntmps130
    go_wp2
    go_ret
    exact ⟨by simp [MatM.good]; omega, (Grew.refl _).alloc _⟩
  by_cases k5 : ld < rows
  · go_enter Try.func130, Try.ntmps130
    go_wp2
    go_ret
    exact ⟨by simp [MatM.good]; omega, (Grew.refl _).alloc _⟩
  by_cases k6 : rows = 0
  · subst k6
    go_enter Try.func130, Try.ntmps130
    go_wp2
    go_ret
    exact ⟨by simp [MatM.good]; omega, (Grew.refl _).alloc _⟩
  have k6' : (rows == 0) = false := by simpa using k6
  by_cases k7 : cols = 0
  · subst k7
    go_enter Try.func130, Try.ntmps130
    go_wp2
    go_ret
    exact ⟨by simp [MatM.good]; omega, (Grew.refl _).alloc _⟩
  · have k7' : (cols == 0) = false := by simpa using k7
    go_enter Try.func130, Try.ntmps130
    go_wp2_with (go_at_call 193; refine (fits_any _ _ _ _ _ _ (by omega) (by omega) (by omega) (by omega) (by omega) (by omega) (by omega) (by omega)).mono ?_; rintro e w' ⟨rfl, rfl⟩)
    go_ret
    exact ⟨by simp [MatM.good, k6, k7]; omega, (Grew.refl _).alloc _⟩

set_option maxHeartbeats 1000000 in
theorem rgood_any (x : MatM) (D : Value) (w : World) (hD : FS w D x.ws) (hwf : x.wf) :
   Calls Try.prog 46 #[.agg #[D, .int .i64 x.off, .int .i64 x.rows, .int .i64 x.cols, .int .i64 x.ld]] w (fun e w' => e = .returned (.bool x.good) ∧ ∃ o n, w' = ext w o n) := by
  obtain ⟨ws, off, rows, cols, ld⟩ := x
  obtain ⟨a, cap, rfl⟩ := hD.shape
  have hl := hD.len
  simp only [MatM.wf, I64] at hwf hD hl ⊢
  obtain ⟨⟨_, _⟩, ⟨_, _⟩, ⟨_, _⟩, ⟨_, _⟩⟩ := hwf
  by_cases k1 : rows < 0
  · go_enter Try.func46, Try.ntmps46
    go_wp2
    go_ret
    exact ⟨by simp [MatM.good]; omega, (Grew.refl _).alloc _⟩
  by_cases k2 : cols < 0
  · go_enter Try.func46, Try.ntmps46
    go_wp2
    go_ret
    exact ⟨by simp [MatM.good]; omega, (Grew.refl _).alloc _⟩
  by_cases k4 : ld < 1
  · go_enter Try.func46, Try.ntmps46
    go_wp2
    go_ret
    exact ⟨by simp [MatM.good]; omega, (Grew.refl _).alloc _⟩
  by_cases k5 : ld < rows
  · go_enter Try.func46, Try.ntmps46
    go_wp2
    go_ret
    exact ⟨by simp [MatM.good]; omega, (Grew.refl _).alloc _⟩
  by_cases k3 : off < 0
  · go_enter Try.func46, Try.ntmps46
    go_wp2
    go_ret
    exact ⟨by simp [MatM.good]; omega, (Grew.refl _).alloc _⟩
  by_cases k6 : rows = 0
  · subst k6
    go_enter Try.func46, Try.ntmps46
    go_wp2
    go_ret
    exact ⟨by simp [MatM.good]; omega, (Grew.refl _).alloc _⟩
  have k6' : (rows == 0) = false := by simpa using k6
  by_cases k7 : cols = 0
  · subst k7
    go_enter Try.func46, Try.ntmps46
    go_wp2
    go_ret
    exact ⟨by simp [MatM.good]; omega, (Grew.refl _).alloc _⟩
  · have k7' : (cols == 0) = false := by simpa using k7
    go_enter Try.func46, Try.ntmps46
    go_wp2_with (go_at_call 133; refine (within_any _ _ _ _ _ _ (by omega) (by omega) (by omega) (by omega) (by omega) (by omega) (by omega) (by omega) (by omega)).mono ?_; rintro e w' ⟨rfl, rfl⟩)
    go_ret
    exact ⟨by simp [MatM.good, k6, k7]; omega, (Grew.refl _).alloc _⟩

/-- straightedgeref03.Great. -/
def MatM.great (m : MatM) : Bool := decide (1000 < (m.ws.length : Int)) || decide (20 < m.rows) || decide (20 < m.cols)
theorem great_any (x : MatM) (D : Value) (w : World) (hD : FS w D x.ws) :
   Calls Try.prog 42 #[.agg #[D, .int .i64 x.off, .int .i64 x.rows, .int .i64 x.cols, .int .i64 x.ld]] w (fun e w' => e = .returned (.bool (MatM.great x)) ∧ ∃ o n, w' = ext w o n) := by
  obtain ⟨ws, off, rows, cols, ld⟩ := x
  obtain ⟨a, cap, rfl⟩ := hD.shape
  have hl := hD.len
  simp only [] at hD hl ⊢
  by_cases k1 : (1000 : Int) < ws.length
  · go_enter Try.func42, Try.ntmps42
    go_wp2
    go_ret
    exact ⟨by simp [MatM.great]; omega, (Grew.refl _).alloc _⟩
  by_cases k2 : 20 < rows
  · go_enter Try.func42, Try.ntmps42
    go_wp2
    go_ret
    exact ⟨by simp [MatM.great]; omega, (Grew.refl _).alloc _⟩
  · go_enter Try.func42, Try.ntmps42
    go_wp2
    go_ret
    exact ⟨by simp [MatM.great]; omega, (Grew.refl _).alloc _⟩
/-- straightedgeref03.Long. -/
def VecM.long (m : VecM) : Bool := decide (1000 < (m.ws.length : Int)) || decide (60 < m.n)
theorem long_any (x : VecM) (D : Value) (w : World) (hD : FS w D x.ws) :
   Calls Try.prog 53 #[.agg #[D, .int .i64 x.off, .int .i64 x.n, .int .i64 x.inc]] w (fun e w' => e = .returned (.bool (VecM.long x)) ∧ ∃ o n, w' = ext w o n) := by
  obtain ⟨ws, off, n, inc⟩ := x
  obtain ⟨a, cap, rfl⟩ := hD.shape
  have hl := hD.len
  simp only [] at hD hl ⊢
  by_cases k1 : (1000 : Int) < ws.length
  · go_enter Try.func53, Try.ntmps53
    go_wp2
    go_ret
    exact ⟨by simp [VecM.long]; omega, (Grew.refl _).alloc _⟩
  · go_enter Try.func53, Try.ntmps53
    go_wp2
    go_ret
    exact ⟨by simp [VecM.long]; omega, (Grew.refl _).alloc _⟩
end Go.Proofs.Ytcmggfpcbijcjaa
end
section
/-
  Contracts: lists of one's own (reference of layers 1 and 3): copies, tables of noughts.
-/
set_option linter.unusedSimpArgs false
set_option linter.unusedVariables false
open Go Go.RowKit Sedge
namespace Go.Proofs.Ytcmggfpcbijcjaa
theorem finfo : ElemF Try.prog 24 22 := ⟨by kernel_rfl, by kernel_rfl⟩
theorem notnil {b c n : Nat} {o} : Value.slice (some ⟨b, o, none⟩) n c ≠ .slice none 0 0 := by intro h; cases h
/-- straightedgeref03.Apart. -/
theorem apart_any (x : MatM) (D : Value) (w : World) (hD : FS w D x.ws) (hl : x.ws.length ≤ 1000000) :
   Calls Try.prog 43 #[.agg #[D, .int .i64 x.off, .int .i64 x.rows, .int .i64 x.cols, .int .i64 x.ld]] w
    (fun e w' => ∃ v, e = .returned (.agg #[v, .int .i64 x.off, .int .i64 x.rows, .int .i64 x.cols, .int .i64 x.ld]) ∧ WS w' w.heap.size v x.ws ∧ ∃ o n, w' = ext w o n) := by
  go_enter Try.func43, Try.ntmps43
  refine seq_stop ?_
  go_wp2
  refine stop_go (fun W hW => ?_)
  have s1 : w.heap.size < W.heap.size := by rw [hW]; simp only [World.size_alloc]; omega
  have b1 : ∀ i, W.cell? ⟨w.heap.size, i, none⟩ = (#[D, .int .i64 x.off, .int .i64 x.rows, .int .i64 x.cols, .int .i64 x.ld] : Array Value)[i]? := by intro i; rw [hW]; go_simp
  have f1 : ∀ i, W.frozen? ⟨w.heap.size, i, none⟩ = false := by intro i; rw [hW]; go_simp
  have s2 : w.heap.size + 1 < W.heap.size := by rw [hW]; simp only [World.size_alloc]; omega
  have b2 : ∀ i, W.cell? ⟨w.heap.size + 1, i, none⟩ = (#[.slice none 0 0, .int .i64 0, .int .i64 0, .int .i64 0, .int .i64 0] : Array Value)[i]? := by intro i; rw [hW]; go_simp
  have f2 : ∀ i, W.frozen? ⟨w.heap.size + 1, i, none⟩ = false := by intro i; rw [hW]; go_simp
  have g0 : Grew w W := by rw [hW]; exact ((Grew.refl _).alloc _).alloc _
  clear hW
  have hDW : FS W D x.ws := hD.grew g0
  go_wp2_with (at_builtin; refine appendN_f finfo (Grew.refl W |>.alloc _) (OwnF.empty rfl (Nat.le_refl _)) (FS.alloc hDW _) (by simp; omega) _ _ rfl rfl rfl rfl ?_; intro v oo nn ho hn; obtain ⟨g, cap, rfl, hg, hF, hL⟩ := ho.ws (hn notnil) (by simp; omega); simp only [List.nil_append] at hF hL)
  refine bodyPost_ret (v := .agg #[.slice (some ⟨g, 0, none⟩) x.ws.length cap, .int .i64 x.off, .int .i64 x.rows, .int .i64 x.cols, .int .i64 x.ld]) (by simp [results, Try.results43, go_sem, *]) rfl ?_
  exact ⟨_, rfl, ⟨g, cap, rfl, by omega, by (repeat (first | (with_reducible assumption) | ((with_reducible refine FW.ext_set ?_ ?_ ?_ _); rotate_left; (focus (simp only [size_setCell', World.size_alloc, size_ext, size_upd]; omega)); (focus (dsimp only; omega))) | ((with_reducible refine FW.setCell_ne ?_ ?_ _); rotate_left; (focus (dsimp only; omega))) | (with_reducible refine FW.ext ?_ _ _) | (with_reducible refine FW.alloc ?_ _))), hL⟩, by (show Grew _ _; repeat (first | (with_reducible exact Grew.refl _) | (with_reducible assumption) | (with_reducible exact Grew.same_o) | (with_reducible exact Grew.app_o) | (with_reducible refine Grew.ext ?_ _ _) | (with_reducible refine Grew.alloc ?_ _) | ((with_reducible refine Grew.setCell ?_ ?_ _); rotate_left; (focus (dsimp only; first | omega | (simp only [size_ext, World.size_alloc, Array.size_append]; omega)))) | (with_reducible refine Grew.drewN ?_ _) | (with_reducible refine Grew.drew ?_)))⟩
/-- straightedgeref03.Alone. -/
theorem alone_any (x : VecM) (D : Value) (w : World) (hD : FS w D x.ws) (hl : x.ws.length ≤ 1000000) :
   Calls Try.prog 54 #[.agg #[D, .int .i64 x.off, .int .i64 x.n, .int .i64 x.inc]] w
    (fun e w' => ∃ v, e = .returned (.agg #[v, .int .i64 x.off, .int .i64 x.n, .int .i64 x.inc]) ∧ WS w' w.heap.size v x.ws ∧ ∃ o n, w' = ext w o n) := by
  go_enter Try.func54, Try.ntmps54
  refine seq_stop ?_
  go_wp2
  refine stop_go (fun W hW => ?_)
  have s1 : w.heap.size < W.heap.size := by rw [hW]; simp only [World.size_alloc]; omega
  have b1 : ∀ i, W.cell? ⟨w.heap.size, i, none⟩ = (#[D, .int .i64 x.off, .int .i64 x.n, .int .i64 x.inc] : Array Value)[i]? := by intro i; rw [hW]; go_simp
  have f1 : ∀ i, W.frozen? ⟨w.heap.size, i, none⟩ = false := by intro i; rw [hW]; go_simp
  have s2 : w.heap.size + 1 < W.heap.size := by rw [hW]; simp only [World.size_alloc]; omega
  have b2 : ∀ i, W.cell? ⟨w.heap.size + 1, i, none⟩ = (#[.slice none 0 0, .int .i64 0, .int .i64 0, .int .i64 0] : Array Value)[i]? := by intro i; rw [hW]; go_simp
  have f2 : ∀ i, W.frozen? ⟨w.heap.size + 1, i, none⟩ = false := by intro i; rw [hW]; go_simp
  have g0 : Grew w W := by rw [hW]; exact ((Grew.refl _).alloc _).alloc _
  clear hW
  have hDW : FS W D x.ws := hD.grew g0
  go_wp2_with (at_builtin; refine appendN_f finfo (Grew.refl W |>.alloc _) (OwnF.empty rfl (Nat.le_refl _)) (FS.alloc hDW _) (by simp; omega) _ _ rfl rfl rfl rfl ?_; intro v oo nn ho hn; obtain ⟨g, cap, rfl, hg, hF, hL⟩ := ho.ws (hn notnil) (by simp; omega); simp only [List.nil_append] at hF hL)
  refine bodyPost_ret (v := .agg #[.slice (some ⟨g, 0, none⟩) x.ws.length cap, .int .i64 x.off, .int .i64 x.n, .int .i64 x.inc]) (by simp [results, Try.results54, go_sem, *]) rfl ?_
  exact ⟨_, rfl, ⟨g, cap, rfl, by omega, by (repeat (first | (with_reducible assumption) | ((with_reducible refine FW.ext_set ?_ ?_ ?_ _); rotate_left; (focus (simp only [size_setCell', World.size_alloc, size_ext, size_upd]; omega)); (focus (dsimp only; omega))) | ((with_reducible refine FW.setCell_ne ?_ ?_ _); rotate_left; (focus (dsimp only; omega))) | (with_reducible refine FW.ext ?_ _ _) | (with_reducible refine FW.alloc ?_ _))), hL⟩, by (show Grew _ _; repeat (first | (with_reducible exact Grew.refl _) | (with_reducible assumption) | (with_reducible exact Grew.same_o) | (with_reducible exact Grew.app_o) | (with_reducible refine Grew.ext ?_ _ _) | (with_reducible refine Grew.alloc ?_ _) | ((with_reducible refine Grew.setCell ?_ ?_ _); rotate_left; (focus (dsimp only; first | omega | (simp only [size_ext, World.size_alloc, Array.size_append]; omega)))) | (with_reducible refine Grew.drewN ?_ _) | (with_reducible refine Grew.drew ?_)))⟩
/-- straightedgeref01.Copy. -/
theorem copy1_any (D : Value) (ws : List Nat) (w : World) (hD : FS w D ws) (hl : ws.length ≤ 1000000) :
   Calls Try.prog 70 #[D] w (fun e w' => ∃ v, e = .returned v ∧ WS w' w.heap.size v ws ∧ ∃ o n, w' = ext w o n) := by
  go_enter Try.func70, Try.ntmps70
  go_wp2_with (at_builtin; refine appendN_f finfo (Grew.refl w |>.alloc _) (OwnF.empty rfl (Nat.le_refl _)) (FS.alloc hD _) (by simp; omega) _ _ rfl rfl rfl rfl ?_; intro v oo nn ho hn; obtain ⟨g, cap, rfl, hg, hF, hL⟩ := ho.ws (hn notnil) (by simp; omega); simp only [List.nil_append] at hF hL)
  go_ret
  exact ⟨_, rfl, ⟨g, cap, rfl, by omega, by (repeat (first | (with_reducible assumption) | ((with_reducible refine FW.ext_set ?_ ?_ ?_ _); rotate_left; (focus (simp only [size_setCell', World.size_alloc, size_ext, size_upd]; omega)); (focus (dsimp only; omega))) | ((with_reducible refine FW.setCell_ne ?_ ?_ _); rotate_left; (focus (dsimp only; omega))) | (with_reducible refine FW.ext ?_ _ _) | (with_reducible refine FW.alloc ?_ _))), hL⟩, by (show Grew _ _; repeat (first | (with_reducible exact Grew.refl _) | (with_reducible assumption) | (with_reducible exact Grew.same_o) | (with_reducible exact Grew.app_o) | (with_reducible refine Grew.ext ?_ _ _) | (with_reducible refine Grew.alloc ?_ _) | ((with_reducible refine Grew.setCell ?_ ?_ _); rotate_left; (focus (dsimp only; first | omega | (simp only [size_ext, World.size_alloc, Array.size_append]; omega)))) | (with_reducible refine Grew.drewN ?_ _) | (with_reducible refine Grew.drew ?_)))⟩
set_option maxRecDepth 100000 in
/-- straightedgeref03.New. -/
theorem rnew_any (r c : Nat) (w : World) (hr : r ≤ 1000) (hc : c ≤ 1000) :
   Calls Try.prog 68 #[.int .i64 r, .int .i64 c] w (fun e w' => ∃ v, e = .returned (.agg #[.int .i64 r, .int .i64 c, v]) ∧ WS w' w.heap.size v (List.replicate (r * c) 0) ∧ ∃ o n, w' = ext w o n) := by
  have hm : r * c ≤ 1000 * 1000 := Nat.mul_le_mul hr hc
  have h2 : IntKind.i64.wrap ((r : Int) * c) = (r : Int) * c := IntWalk.i64_in _ (by rw [← Int.natCast_mul]; omega)
  go_enter Try.func68, Try.ntmps68
  refine seq_stop ?_
  go_wp2
  refine stop_go (fun W hW => ?_)
  have s1 : w.heap.size < W.heap.size := by rw [hW]; simp only [World.size_alloc]; omega
  have b1 : ∀ i, W.cell? ⟨w.heap.size, i, none⟩ = (#[.int .i64 0, .int .i64 0, .slice none 0 0] : Array Value)[i]? := by intro i; rw [hW]; go_simp
  have f1 : ∀ i, W.frozen? ⟨w.heap.size, i, none⟩ = false := by intro i; rw [hW]; go_simp
  have g0 : Grew w W := by rw [hW]; exact (Grew.refl _).alloc _
  clear hW
  go_wp2_with (at_make; refine make_f (L := (r : Int) * (c : Int)) finfo (Grew.refl W) _ _ rfl rfl (r * c) (Int.natCast_mul r c).symm rfl rfl (by omega) ?_; intro oo nn k hk ho; have hF := ho.made)
  refine bodyPost_ret (v := .agg #[.int .i64 r, .int .i64 c, .slice (some ⟨k, 0, none⟩) (r * c) (r * c)]) (by simp [results, Try.results68, go_sem, *]) rfl ?_
  exact ⟨_, rfl, ⟨k, _, by rw [List.length_replicate], by omega, by (repeat (first | (with_reducible assumption) | ((with_reducible refine FW.ext_set ?_ ?_ ?_ _); rotate_left; (focus (simp only [size_setCell', World.size_alloc, size_ext, size_upd]; omega)); (focus (dsimp only; omega))) | ((with_reducible refine FW.setCell_ne ?_ ?_ _); rotate_left; (focus (dsimp only; omega))) | (with_reducible refine FW.ext ?_ _ _) | (with_reducible refine FW.alloc ?_ _))), by rw [List.length_replicate]; omega⟩, by (show Grew _ _; repeat (first | (with_reducible exact Grew.refl _) | (with_reducible assumption) | (with_reducible exact Grew.same_o) | (with_reducible exact Grew.app_o) | (with_reducible refine Grew.ext ?_ _ _) | (with_reducible refine Grew.alloc ?_ _) | ((with_reducible refine Grew.setCell ?_ ?_ _); rotate_left; (focus (dsimp only; first | omega | (simp only [size_ext, World.size_alloc, Array.size_append]; omega)))) | (with_reducible refine Grew.drewN ?_ _) | (with_reducible refine Grew.drew ?_)))⟩
end Go.Proofs.Ytcmggfpcbijcjaa
end
section
/-
  Contracts: the reference's tables (layer 3): a number, of a matrix, into a list; lists of a vector.
-/
set_option linter.unusedSimpArgs false
set_option linter.unusedVariables false
open Go Go.RowKit
namespace Sedge
def MatM.place (m : MatM) (i j : Nat) : Nat := (m.off + i + j * m.ld).toNat
def MatM.num (m : MatM) (i j : Nat) : Nat := m.ws.getD (m.place i j) 0
theorem MatM.good_n {m : MatM} (h : m.good = true) : 0 ≤ m.rows ∧ 0 ≤ m.cols ∧ 0 ≤ m.off ∧ 1 ≤ m.ld ∧ m.rows ≤ m.ld := by
  simp [MatM.good] at h; omega
/-- A good matrix' places lie in its list. -/
theorem MatM.good_place {m : MatM} (h : m.good = true) {i j : Nat} (hi : (i : Int) < m.rows) (hj : (j : Int) < m.cols) :
    0 ≤ m.off + i + j * m.ld ∧ m.off + i + j * m.ld < m.ws.length ∧ 0 ≤ (j : Int) * m.ld := by
  have h0 := MatM.good_n h
  simp [MatM.good, fitsB] at h
  have h1 : m.off + (m.cols - 1) * m.ld + (m.rows - 1) < m.ws.length := by
    rcases h.2 with h2 | h2 <;> omega
  have h2 : (j : Int) * m.ld ≤ (m.cols - 1) * m.ld := Int.mul_le_mul_of_nonneg_right (by omega) (by omega)
  have h3 : 0 ≤ (j : Int) * m.ld := Int.mul_nonneg (by omega) (by omega)
  omega
/-- A matrix' numbers, row by row. -/
def MatM.tabTo (m : MatM) (k : Nat) : List Nat := writes (List.replicate (m.rows.toNat * m.cols.toNat) 0) id (fun t => m.num (t / m.cols.toNat) (t % m.cols.toNat)) k
def MatM.tab (m : MatM) : List Nat := m.tabTo (m.rows.toNat * m.cols.toNat)
/-- The list as it is when a table's numbers are in it. -/
def MatM.intoTo (m : MatM) (R C : Nat) (t : List Nat) (k : Nat) : List Nat := writes m.ws (fun t => m.place (t / C) (t % C)) (fun k => t.getD k 0) k
def MatM.into (m : MatM) (R C : Nat) (t : List Nat) : List Nat := m.intoTo R C t (R * C)
theorem at_div {i j C : Nat} (h : j < C) : (i * C + j) / C = i ∧ (i * C + j) % C = j := by
  constructor
  · rw [Nat.mul_comm, Nat.mul_add_div (by omega), Nat.div_eq_of_lt h]; omega
  · rw [Nat.mul_comm, Nat.mul_add_mod, Nat.mod_eq_of_lt h]
theorem at_lt {i j R C : Nat} (hi : i < R) (hj : j < C) : i * C + j < R * C := by
  have : (i + 1) * C ≤ R * C := Nat.mul_le_mul_right C hi
  rw [Nat.succ_mul] at this; omega
end Sedge
open Sedge
namespace Go.Proofs.Ytcmggfpcbijcjaa
/-- (M).At of the reference. -/
theorem rat_any (R C i j : Nat) (A : Value) (ws : List Nat) (w : World) (hA : FS w A ws) (hR : R ≤ 1000) (hC : C ≤ 1000) (hi : i ≤ 1000) (hj : j ≤ 1000) (hl : i * C + j < ws.length) :
   Calls Try.prog 72 #[.agg #[.int .i64 R, .int .i64 C, A], .int .i64 i, .int .i64 j] w (fun e w' => ∃ b, e = .returned (.float .f64 b) ∧ IsF b (ws.getD (i * C + j) 0) ∧ ∃ o n, w' = ext w o n) := by
  obtain ⟨blk, o, cap, rfl, hlt, hc⟩ := hA.open (by omega)
  obtain ⟨b, hb, hf⟩ := hc (i * C + j) hl
  have hm : i * C ≤ 1000 * 1000 := Nat.mul_le_mul hi hC
  have e0 : ((i : Int) * (C : Int)).toNat = i * C := by rw [← Int.natCast_mul]; rfl
  have e1 : ((i : Int) * (C : Int) + (j : Int)).toNat = i * C + j := by rw [← Int.natCast_mul]; omega
  have h0 : 0 ≤ (i : Int) * C := by rw [← Int.natCast_mul]; omega
  have h1 : (i : Int) * C ≤ 1000000 := by rw [← Int.natCast_mul]; omega
  have h4 : (i : Int) * C + j < ws.length := by rw [← Int.natCast_mul]; omega
  have h2 : IntKind.i64.wrap ((i : Int) * C) = (i : Int) * C := IntWalk.i64_in _ (by omega)
  have h3 : IntKind.i64.wrap ((i : Int) * C + j) = (i : Int) * C + j := IntWalk.i64_in _ (by omega)
  clear hc e0 hm
  go_enter Try.func72, Try.ntmps72
  go_wp2
  go_ret
  exact ⟨b, rfl, hf, (Grew.refl _).alloc _⟩
/-- (M).Set of the reference. -/
theorem rset_any (R C i j g cap len r x : Nat) (ws : List Nat) (w : World) (hF : FW w g ws) (hr : IsF r x) (hlen : len = ws.length) (hR : R ≤ 1000) (hC : C ≤ 1000) (hi : i ≤ 1000) (hj : j ≤ 1000) (hl : i * C + j < ws.length) :
   Calls Try.prog 134 #[.agg #[.int .i64 R, .int .i64 C, .slice (some ⟨g, 0, none⟩) len cap], .int .i64 i, .int .i64 j, .float .f64 r] w
     (fun e w' => e = .returned (.tuple #[]) ∧ Wrote w w' g (ws.set (i * C + j) x)) := by
  have hm : i * C ≤ 1000 * 1000 := Nat.mul_le_mul hi hC
  have e1 : ((i : Int) * (C : Int) + (j : Int)).toNat = i * C + j := by rw [← Int.natCast_mul]; omega
  have h0 : 0 ≤ (i : Int) * C := by rw [← Int.natCast_mul]; omega
  have h1 : (i : Int) * C ≤ 1000000 := by rw [← Int.natCast_mul]; omega
  have h4 : (i : Int) * C + j < len := by rw [← Int.natCast_mul]; omega
  have h2 : IntKind.i64.wrap ((i : Int) * C) = (i : Int) * C := IntWalk.i64_in _ (by omega)
  have h3 : IntKind.i64.wrap ((i : Int) * C + j) = (i : Int) * C + j := IntWalk.i64_in _ (by omega)
  have hlt := hF.lt
  clear hm
  go_enter Try.func134, Try.ntmps134
  refine seq_stop ?_
  go_wp2
  refine stop_go (fun W hW => ?_)
  have s1 : w.heap.size < W.heap.size := by rw [hW]; simp only [World.size_alloc]; omega
  have b1 : ∀ i, W.cell? ⟨w.heap.size, i, none⟩ = (#[.int .i64 R, .int .i64 C, .slice (some ⟨g, 0, none⟩) len cap] : Array Value)[i]? := by intro i; rw [hW]; go_simp
  have g0 : Grew w W := by rw [hW]; exact (Grew.refl _).alloc _
  clear hW
  have hFW := hF.grew g0
  have fz := hFW.notFrozen
  obtain ⟨cs, hs, hcs⟩ := hFW.set (k := i * C + j) hr
  obtain ⟨r0, hr0, _⟩ := hFW.get hl
  have hlW := hFW.lt
  go_wp2
  go_end0
  exact ⟨rfl, Wrote.grew_l g0 hlt (⟨cs, #[], _, ext_zero.symm, hcs⟩)⟩
set_option maxRecDepth 100000 in
set_option maxHeartbeats 1000000 in
/-- straightedgeref03.Of. -/
theorem rof_any (x : MatM) (D : Value) (w : World) (hD : FS w D x.ws) (hx : x.good = true) (hr : x.rows ≤ 1000) (hc : x.cols ≤ 1000) (hl : x.ws.length ≤ 1000000) (hwf : x.wf) :
   Calls Try.prog 48 #[.agg #[D, .int .i64 x.off, .int .i64 x.rows, .int .i64 x.cols, .int .i64 x.ld]] w
     (fun e w' => ∃ v, e = .returned (.agg #[.int .i64 x.rows, .int .i64 x.cols, v]) ∧ WS w' w.heap.size v x.tab ∧ ∃ o n, w' = ext w o n) := by
  have hn := MatM.good_n hx
  obtain ⟨R, hR⟩ : ∃ R : Nat, x.rows = R := ⟨x.rows.toNat, by omega⟩
  obtain ⟨C, hC⟩ : ∃ C : Nat, x.cols = C := ⟨x.cols.toNat, by omega⟩
  rw [hR, hC]
  have hRn : R ≤ 1000 := by omega
  have hCn : C ≤ 1000 := by omega
  have hm : R * C ≤ 1000 * 1000 := Nat.mul_le_mul hRn hCn
  have htab : ∀ k, x.tabTo k = writes (List.replicate (R * C) 0) id (fun t => x.num (t / C) (t % C)) k := by
    intro k; unfold MatM.tabTo; rw [show x.rows.toNat = R by omega, show x.cols.toNat = C by omega]
  have hRC : x.rows.toNat * x.cols.toNat = R * C := by rw [show x.rows.toNat = R by omega, show x.cols.toNat = C by omega]
  have Hx := hid hx
  have Hn := hid hn
  have Hm := hid hm
  have HR := hid hR
  have HC := hid hC
  have HT := hid htab
  have HRC := hid hRC
  clear hx hn hm hr hc hwf htab hRC hR hC
  go_enter Try.func48, Try.ntmps48
  refine seq_stop ?_
  go_wp2
  refine stop_go (fun W hW => ?_)
  have s1 : w.heap.size < W.heap.size := by rw [hW]; simp only [World.size_alloc]; omega
  have b1 : ∀ i, W.cell? ⟨w.heap.size, i, none⟩ = (#[D, .int .i64 x.off, .int .i64 R, .int .i64 C, .int .i64 x.ld] : Array Value)[i]? := by intro i; rw [hW]; go_simp
  have f1 : ∀ i, W.frozen? ⟨w.heap.size, i, none⟩ = false := by intro i; rw [hW]; go_simp
  have s2 : w.heap.size + 1 < W.heap.size := by rw [hW]; simp only [World.size_alloc]; omega
  have b2 : ∀ i, W.cell? ⟨w.heap.size + 1, i, none⟩ = (#[.int .i64 0, .int .i64 0, .slice none 0 0] : Array Value)[i]? := by intro i; rw [hW]; go_simp
  have f2 : ∀ i, W.frozen? ⟨w.heap.size + 1, i, none⟩ = false := by intro i; rw [hW]; go_simp
  have g0 : Grew w W := by rw [hW]; exact ((Grew.refl _).alloc _).alloc _
  clear hW
  have hDW : FS W D x.ws := hD.grew g0
  go_wp2_with (first | (go_at_call 68; ((with_reducible refine (rnew_any R C _ hRn hCn).mono ?_); rintro e w1 ⟨v, rfl, ⟨g, cap, rfl, hg, hF, hgl⟩, o1, n1, rfl⟩)))
  refine name_any (fun V hV => ?_)
  have gV : Grew W V := by rw [← hV]; (show Grew _ _; repeat (first | (with_reducible exact Grew.refl _) | (with_reducible assumption) | (with_reducible exact Grew.same_o) | (with_reducible exact Grew.app_o) | (with_reducible refine Grew.ext ?_ _ _) | (with_reducible refine Grew.alloc ?_ _) | ((with_reducible refine Grew.setCell ?_ ?_ _); rotate_left; (focus (dsimp only; first | omega | (simp only [size_ext, World.size_alloc, Array.size_append]; omega)))) | (with_reducible refine Grew.drewN ?_ _) | (with_reducible refine Grew.drew ?_)))
  have sV := gV.below.size
  have k1 : w.heap.size < V.heap.size := by omega
  have k2 : w.heap.size + 1 < V.heap.size := by omega
  have k3 : W.heap.size + o1.size < V.heap.size := by rw [← hV]; simp only [World.size_alloc, size_ext]; omega
  have c1 : ∀ i, V.cell? ⟨w.heap.size, i, none⟩ = (#[D, .int .i64 x.off, .int .i64 R, .int .i64 C, .int .i64 x.ld] : Array Value)[i]? := fun i => (gV.cell s1).trans (b1 i)
  have c2 : ∀ i, V.cell? ⟨w.heap.size + 1, i, none⟩ = (#[.int .i64 0, .int .i64 0, .slice none 0 0] : Array Value)[i]? := fun i => (gV.cell s2).trans (b2 i)
  have z2 : ∀ i, V.frozen? ⟨w.heap.size + 1, i, none⟩ = false := fun i => (gV.frozen s2).trans (f2 i)
  have c3 : ∀ i, V.cell? ⟨W.heap.size + o1.size, i, none⟩ = (#[.int .i64 R, .int .i64 C, .slice (some ⟨g, 0, none⟩) (R * C) cap] : Array Value)[i]? := by subst hV; intro i; go_simp
  have hFV : FW V g (List.replicate (R * C) 0) := by rw [← hV]; (repeat (first | (with_reducible assumption) | ((with_reducible refine FW.ext_set ?_ ?_ ?_ _); rotate_left; (focus (simp only [size_setCell', World.size_alloc, size_ext, size_upd]; omega)); (focus (dsimp only; omega))) | ((with_reducible refine FW.setCell_ne ?_ ?_ _); rotate_left; (focus (dsimp only; omega))) | (with_reducible refine FW.ext ?_ _ _) | (with_reducible refine FW.alloc ?_ _)))
  have gl := hFV.lt
  have q1 : w.heap.size ≠ g := by omega
  have q2 : w.heap.size + 1 ≠ g := by omega
  have q3 : W.heap.size + o1.size ≠ g := by have := hF.lt; simp only [size_ext] at this; omega
  clear hV b1 f1 b2 f2 hD
  go_loopw [4] (fun c wr => ∃ (i : Nat) (cs : Array Value) (o : Array Obj) (n : Nat), i ≤ R ∧ c = .int .i64 i ∧ wr = ext (upd V g cs) o n ∧ CF cs (writes (List.replicate (R * C) 0) id (fun t => x.num (t / C) (t % C)) (i * C))) (fun c _ => R - (intOf c).toNat)
  case atStart =>
    obtain ⟨cs, h1, h2⟩ := hFV.self
    exact ⟨0, cs, #[], _, Nat.zero_le _, rfl, by rw [h1]; exact ext_zero.symm, by simpa [writes] using h2⟩
  case round =>
    obtain ⟨i, cs, o2, n2, hi, rfl, hwr, hcs⟩ := hrel
    subst hwr
    by_cases hlt : i < R
    · go_wp2
      go_loopw [5] (fun c wr => ∃ (j : Nat) (cs : Array Value) (o : Array Obj) (n : Nat), j ≤ C ∧ c = .int .i64 j ∧ wr = ext (upd V g cs) o n ∧ CF cs (writes (List.replicate (R * C) 0) id (fun t => x.num (t / C) (t % C)) (i * C + j))) (fun c _ => C - (intOf c).toNat)
      case atStart => exact ⟨0, cs, o2, n2, Nat.zero_le _, rfl, rfl, hcs⟩
      case round =>
        obtain ⟨j, cs, o3, n3, hj, rfl, hwr, hcs⟩ := hrel
        subst hwr
        by_cases hltj : j < C
        · have hp := MatM.good_place Hx.out (i := i) (j := j) (by have := HR.out; omega) (by have := HC.out; omega)
          have hn := Hn.out
          obtain ⟨blk, o, cap', rfl, hblk, hc⟩ := hDW.open (by omega)
          obtain ⟨b, hb0, hf⟩ := hc (x.place i j) (by unfold MatM.place; omega)
          have hb := (gV.cell hblk).trans hb0
          unfold MatM.place at hb
          have qb : blk ≠ g := by omega
          have kb : blk < V.heap.size := by omega
          have hf' : IsF b (x.num i j) := hf
          clear hb0
          have h2 : IntKind.i64.wrap (j * x.ld) = j * x.ld := IntWalk.i64_in _ (by omega)
          have h3 : IntKind.i64.wrap (x.off + i) = x.off + i := IntWalk.i64_in _ (by omega)
          have h4 : IntKind.i64.wrap (x.off + i + j * x.ld) = x.off + i + j * x.ld := IntWalk.i64_in _ (by omega)
          clear hc
          have hat := at_lt hlt hltj
          have hfw : FW (ext (upd V g cs) o3 n3) g (writes (List.replicate (R * C) 0) id (fun t => x.num (t / C) (t % C)) (i * C + j)) := hFV.mk' hcs _ _
          have hlen : (writes (List.replicate (R * C) 0) id (fun t => x.num (t / C) (t % C)) (i * C + j)).length = R * C := by simp
          go_wp2
          refine wp_region_R (Over V g) [] [(0,0), (0,1), (0,2), (0,3), (0,4), (0,5), (0,6), (0,7), (0,8), (0,9), (0,10), (0,11), (0,12), (0,13), (0,14), (0,15), (1,16)] (by kernel_rfl) (by kernel_rfl) (fun _ _ _ _ h _ => h) ⟨_, _, _, ext_drew⟩ ?_
          go_wp2_with (first | ((with_reducible refine wpR_id ?_); first | (refine wpR_take (v := ?_) rfl rfl ?_ ?_; rotate_left; (focus (rintro w' ⟨cs', o', n', rfl⟩; go_simp; try with_reducible rfl)); simp only [Act.put, List.setIfInBounds_toArray, List.set_cons_zero, List.set_cons_succ]) | (refine wpR_pure (v := ?_) rfl rfl ?_ ?_; rotate_left; (focus (intro w'; go_simp; try with_reducible rfl)); simp only [Act.put, List.setIfInBounds_toArray, List.set_cons_zero, List.set_cons_succ]) | (refine wpR_takeG (v := ?_) rfl rfl rfl rfl rfl ?_ ?_; rotate_left; (focus (rintro w' ⟨cs', o', n', rfl⟩; go_simp; try with_reducible rfl)); simp only [Act.put, List.setIfInBounds_toArray, List.set_cons_zero, List.set_cons_succ]) | (refine wpR_skip rfl rfl rfl rfl rfl rfl ?_; simp only [Act.put, List.setIfInBounds_toArray, List.set_cons_zero, List.set_cons_succ]) | (refine wpR_skipU rfl rfl rfl rfl rfl ?_; simp only [Act.put, List.setIfInBounds_toArray, List.set_cons_zero, List.set_cons_succ]) | (refine wpR_do rfl rfl (fun K hK => ?_)) | (refine wpR_doG rfl rfl rfl rfl rfl (fun K hK => ?_)) | (refine wpR_last rfl rfl (fun K hK => ?_)) | (refine wpR_nil ?_)) | ((with_reducible refine wpR_go ?_ ?_); (focus exact ⟨_, _, _, rfl⟩)) | ((with_reducible refine upon_id ?_); refine upon_fop rfl (by assumption) (by assumption) ?_; intro rr nn hr) | (go_at_call 134; ((with_reducible refine (rset_any R C i j g cap (R * C) b (x.num i j) _ _ (hFV.mk' hcs _ _) hf' hlen.symm hRn hCn (by omega) (by omega) (by rw [hlen]; exact hat)).mono ?_); rintro e w1 ⟨rfl, hw⟩; obtain ⟨cs2, o4, n4, rfl, hcs2⟩ := Wrote.trans ⟨cs, _, _, rfl, hcs⟩ gl hw)))
          go_roundw
          case rel =>
            refine ⟨j + 1, cs2, o4, n4, by omega, by go_num, rfl, ?_⟩
            have e : i * C + (j + 1) = i * C + j + 1 := by omega
            rw [e]; unfold writes
            rw [(at_div hltj).1, (at_div hltj).2]; exact hcs2
          case measure => simp [intOf]; omega
        · have e : C = j := by omega
          go_wp2
          go_roundw
          case rel => exact ⟨i + 1, cs, _, _, by omega, by go_num, rfl, by rw [Nat.succ_mul, e]; rw [e] at hcs; exact hcs⟩
          case measure => simp [intOf]; omega
    · have e : R = i := by omega
      have ht : x.tab = writes (List.replicate (R * C) 0) id (fun t => x.num (t / C) (t % C)) (R * C) := by unfold MatM.tab; rw [HRC.out]; exact HT.out _
      subst e
      have hlen : x.tab.length = R * C := by rw [ht]; simp
      have hfw : FW (ext (upd V g cs) o2 n2) g x.tab := by rw [ht]; exact hFV.mk' hcs _ _
      have gu : Grew w (upd V g cs) := (g0.trans gV).upd (by omega) cs
      go_wp2
      refine bodyPost_ret (v := .agg #[.int .i64 R, .int .i64 C, .slice (some ⟨g, 0, none⟩) (R * C) cap]) (by simp [results, Try.results48, go_sem, *]) rfl ?_
      exact ⟨_, rfl, ⟨g, cap, by rw [hlen], by omega, by (repeat (first | (with_reducible assumption) | ((with_reducible refine FW.ext_set ?_ ?_ ?_ _); rotate_left; (focus (simp only [size_setCell', World.size_alloc, size_ext, size_upd]; omega)); (focus (dsimp only; omega))) | ((with_reducible refine FW.setCell_ne ?_ ?_ _); rotate_left; (focus (dsimp only; omega))) | (with_reducible refine FW.ext ?_ _ _) | (with_reducible refine FW.alloc ?_ _))), by have := Hm.out; omega⟩, by (show Grew _ _; repeat (first | (with_reducible exact Grew.refl _) | (with_reducible assumption) | (with_reducible exact Grew.same_o) | (with_reducible exact Grew.app_o) | (with_reducible refine Grew.ext ?_ _ _) | (with_reducible refine Grew.alloc ?_ _) | ((with_reducible refine Grew.setCell ?_ ?_ _); rotate_left; (focus (dsimp only; first | omega | (simp only [size_ext, World.size_alloc, Array.size_append]; omega)))) | (with_reducible refine Grew.drewN ?_ _) | (with_reducible refine Grew.drew ?_)))⟩
end Go.Proofs.Ytcmggfpcbijcjaa
end
