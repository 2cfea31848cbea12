/-
  What a slice of floats, a vector, a matrix reads as; that it stays so.
-/
import Derived.Test.YtcmggfpcbijcjaaWalk
set_option linter.unusedSimpArgs false
set_option linter.unusedVariables false
namespace Sedge
open Go Go.RowKit

/-- The world w, new blocks laid behind; n draws have been made in all. -/
def ext (w : World) (o : Array Obj) (n : Nat) : World := { w with heap := w.heap ++ o, drawn := n }

@[go_sem] theorem lt_add_r {a b c : Nat} (h : a < b) : (a < b + c) = True := by simp; omega

section
variable {w : World} {o : Array Obj} {n : Nat}
@[simp, go_sem] theorem size_ext : (ext w o n).heap.size = w.heap.size + o.size := by simp [ext]
theorem block_ext {k : Nat} (h : k < w.heap.size) : (ext w o n).heap[k]? = w.heap[k]? := by
  show (w.heap ++ o)[k]? = _
  rw [Array.getElem?_append_left h]
theorem cell_ext' {a : Addr} (h : a.block < w.heap.size) : (ext w o n).cell? a = w.cell? a := by
  unfold World.cell?; rw [block_ext h]
theorem frozen_ext' {a : Addr} (h : a.block < w.heap.size) : (ext w o n).frozen? a = w.frozen? a := by
  unfold World.frozen?; rw [block_ext h]
@[go_sem] theorem cell_ext {b i : Nat} (h : b < w.heap.size) : (ext w o n).cell? ⟨b, i, none⟩ = w.cell? ⟨b, i, none⟩ := cell_ext' h
theorem keep0 : ∀ b i, b < w.heap.size → w.cell? ⟨b, i, none⟩ = w.cell? ⟨b, i, none⟩ := fun _ _ _ => rfl
theorem keep0d : ∀ b i, b < w.heap.size → w.drew.cell? ⟨b, i, none⟩ = w.cell? ⟨b, i, none⟩ := fun _ _ _ => rfl
theorem keep0n {m : Nat} : ∀ b i, b < w.heap.size → (w.drewN m).cell? ⟨b, i, none⟩ = w.cell? ⟨b, i, none⟩ := fun _ _ _ => rfl
theorem keep1 : ∀ b i, b < w.heap.size → (ext w o n).cell? ⟨b, i, none⟩ = w.cell? ⟨b, i, none⟩ := fun _ _ h => cell_ext' h
theorem keep1d : ∀ b i, b < w.heap.size → (ext w o n).drew.cell? ⟨b, i, none⟩ = w.cell? ⟨b, i, none⟩ := fun _ _ h => cell_ext' (n := n + 1) h
theorem keep1n {m : Nat} : ∀ b i, b < w.heap.size → ((ext w o n).drewN m).cell? ⟨b, i, none⟩ = w.cell? ⟨b, i, none⟩ := fun _ _ h => cell_ext' (n := n + m) h
@[go_sem] theorem frozen_ext {b i : Nat} (h : b < w.heap.size) : (ext w o n).frozen? ⟨b, i, none⟩ = w.frozen? ⟨b, i, none⟩ := frozen_ext' h
@[simp, go_sem] theorem ext_ext {o' : Array Obj} {n' : Nat} : ext (ext w o n) o' n' = ext w (o ++ o') n' := by
  unfold ext; simp [Array.append_assoc]
@[simp, go_sem] theorem ext_drew : (ext w o n).drew = ext w o (n + 1) := rfl
@[simp, go_sem] theorem ext_drewN {m : Nat} : (ext w o n).drewN m = ext w o (n + m) := rfl
@[simp, go_sem] theorem drew_ext : ext w.drew o n = ext w o n := rfl
@[simp, go_sem] theorem drewN_ext {m : Nat} : ext (w.drewN m) o n = ext w o n := rfl
theorem setCell_ext' {a : Addr} (h : a.block < w.heap.size) (v : Value) : (ext w o n).setCell a v = ext (w.setCell a v) o n := by
  unfold ext World.setCell
  simp only [World.mk.injEq, true_and]
  refine ⟨?_, trivial⟩
  apply Array.ext_getElem?
  intro i
  by_cases hi : i < w.heap.size
  · rw [Array.getElem?_append_left (by simpa using hi), Array.getElem?_modify, Array.getElem?_modify, Array.getElem?_append_left hi]
  · rw [Array.getElem?_append_right (by simpa using hi), Array.getElem?_modify, if_neg (by omega), Array.getElem?_append_right (by omega)]
    simp
@[go_sem] theorem setCell_ext {b i : Nat} (h : b < w.heap.size) (v : Value) : (ext w o n).setCell ⟨b, i, none⟩ v = ext (w.setCell ⟨b, i, none⟩ v) o n := setCell_ext' h v
theorem ext_zero : ext w #[] w.drawn = w := by unfold ext; simp
theorem alloc_ext (x : Obj) : w.alloc x = ext w #[x] w.drawn := by
  unfold ext World.alloc; simp
theorem drewN_ext0 (m : Nat) : w.drewN m = ext w #[] (w.drawn + m) := by unfold ext World.drewN; simp
theorem drew_ext0 : w.drew = ext w #[] (w.drawn + 1) := by unfold ext World.drew; simp
theorem below_ext : Below w.heap.size w (ext w o n) := ⟨rfl, rfl, rfl, by simp, fun _ hk => block_ext hk⟩
end

/-- w' is w with new blocks and draws. -/
def Grew (w w' : World) : Prop := ∃ o n, w' = ext w o n
theorem Grew.refl (w : World) : Grew w w := ⟨#[], _, ext_zero.symm⟩
theorem Grew.trans {a b c : World} (h : Grew a b) (k : Grew b c) : Grew a c := by
  obtain ⟨o, n, rfl⟩ := h
  obtain ⟨o', n', rfl⟩ := k
  exact ⟨_, _, ext_ext⟩
theorem Grew.ext {a w : World} (h : Grew a w) (o : Array Obj) (n : Nat) : Grew a (ext w o n) := h.trans ⟨o, n, rfl⟩
theorem Grew.alloc {a w : World} (h : Grew a w) (o : Obj) : Grew a (w.alloc o) := h.trans ⟨_, _, alloc_ext o⟩
theorem Grew.drewN {a w : World} (h : Grew a w) (n : Nat) : Grew a (w.drewN n) := h.trans ⟨_, _, drewN_ext0 n⟩
theorem Grew.drew {a w : World} (h : Grew a w) : Grew a w.drew := h.trans ⟨_, _, drew_ext0⟩
theorem Grew.below {w w' : World} (h : Grew w w') : Below w.heap.size w w' := by obtain ⟨o, n, rfl⟩ := h; exact below_ext
theorem Grew.of_below {w w' : World} (h : Below w.heap.size w w') : Grew w w' := by
  refine ⟨w'.heap.extract w.heap.size w'.heap.size, w'.drawn, ?_⟩
  obtain ⟨h1, h2, h3, h4, h5⟩ := h
  cases w with | mk hp tp dr os' out => ?_
  cases w' with | mk hp' tp' dr' os'' out' => ?_
  simp only at *
  subst h1 h2 h3
  unfold Sedge.ext
  simp only [World.mk.injEq, true_and, and_true]
  apply Array.ext_getElem?
  intro i
  by_cases hi : i < hp.size
  · rw [h5 i hi, Array.getElem?_append_left hi]
  · rw [Array.getElem?_append_right (by omega), Array.getElem?_extract]
    split
    · congr 1; omega
    · rw [Array.getElem?_eq_none]; omega

def I64 (x : Int) : Prop := -9223372036854775808 ≤ x ∧ x ≤ 9223372036854775807

/-- The slice v reads, in w, as the floats ws. -/
def FS (w : World) (v : Value) (ws : List Nat) : Prop :=
  ws.length ≤ 9223372036854775807 ∧ ∃ a cap, v = .slice a ws.length cap ∧ (a = none → cap = 0) ∧
    ∀ i, i < ws.length → ∃ blk o b, a = some ⟨blk, o, none⟩ ∧ w.cell? ⟨blk, o + i, none⟩ = some (.float .f64 b) ∧ IsF b (ws.getD i 0)

theorem FS.len {w : World} {v : Value} {ws : List Nat} (h : FS w v ws) : ws.length ≤ 9223372036854775807 := h.1

/-- Opened: some address where there is a number. -/
theorem FS.shape {w : World} {v : Value} {ws : List Nat} (h : FS w v ws) : ∃ a cap, v = .slice a ws.length cap := by
  obtain ⟨_, a, cap, rfl, _⟩ := h; exact ⟨a, cap, rfl⟩
/-- The address, where there is a number. -/
theorem FS.at {w : World} {a : Option Addr} {n cap : Nat} {ws : List Nat} (h : FS w (.slice a n cap) ws) : n = ws.length ∧ (0 < ws.length → ∃ blk o, a = some ⟨blk, o, none⟩ ∧ blk < w.heap.size ∧
      ∀ i, i < ws.length → ∃ b, w.cell? ⟨blk, o + i, none⟩ = some (.float .f64 b) ∧ IsF b (ws.getD i 0)) := by
  obtain ⟨_, a', cap', e, _, hc⟩ := h
  cases e
  refine ⟨rfl, fun hn => ?_⟩
  obtain ⟨blk, o, b, rfl, h1, h2⟩ := hc 0 hn
  refine ⟨blk, o, rfl, World.block_lt_of_cell? w _ h1, fun i hi => ?_⟩
  obtain ⟨blk', o', b', he, h1', h2'⟩ := hc i hi
  cases he
  exact ⟨b', h1', h2'⟩
theorem FS.nilcap {w : World} {a : Option Addr} {n cap : Nat} {ws : List Nat} (h : FS w (.slice a n cap) ws) : a = none → cap = 0 := by
  obtain ⟨_, a', cap', e, h0, _⟩ := h
  cases e; exact h0
theorem FS.open {w : World} {v : Value} {ws : List Nat} (h : FS w v ws) (hn : 0 < ws.length) :
    ∃ blk o cap, v = .slice (some ⟨blk, o, none⟩) ws.length cap ∧ blk < w.heap.size ∧
      ∀ i, i < ws.length → ∃ b, w.cell? ⟨blk, o + i, none⟩ = some (.float .f64 b) ∧ IsF b (ws.getD i 0) := by
  obtain ⟨a, cap, rfl⟩ := h.shape
  obtain ⟨blk, o, rfl, h1, h2⟩ := h.at.2 hn
  exact ⟨blk, o, cap, rfl, h1, h2⟩
theorem FS.same {w w' : World} {v : Value} {ws : List Nat} (h : FS w v ws) (hs : ∀ a : Addr, a.block < w.heap.size → w'.cell? a = w.cell? a) : FS w' v ws := by
  obtain ⟨hl, a, cap, hv, h0, hc⟩ := h
  refine ⟨hl, a, cap, hv, h0, fun i hi => ?_⟩
  obtain ⟨blk, o, b, he, h1, h2⟩ := hc i hi
  exact ⟨blk, o, b, he, by rw [hs _ (World.block_lt_of_cell? w _ h1)]; exact h1, h2⟩
theorem FS.below {w w' : World} {v : Value} {ws : List Nat} (h : FS w v ws) (hb : Below w.heap.size w w') : FS w' v ws :=
  h.same fun _ ha => hb.cell ha
theorem FS.alloc {w : World} {v : Value} {ws : List Nat} (h : FS w v ws) (o : Obj) : FS (w.alloc o) v ws :=
  h.below ((Below.refl _ _).alloc (Nat.le_refl _) o)
theorem FS.drewN {w : World} {v : Value} {ws : List Nat} (h : FS w v ws) (n : Nat) : FS (w.drewN n) v ws :=
  h.same fun _ _ => rfl
theorem FS.drew {w : World} {v : Value} {ws : List Nat} (h : FS w v ws) : FS w.drew v ws :=
  h.same fun _ _ => rfl
theorem FS.ext {w : World} {v : Value} {ws : List Nat} (h : FS w v ws) (o : Array Obj) (n : Nat) : FS (ext w o n) v ws := h.below below_ext
theorem FS.grew {w w' : World} {v : Value} {ws : List Nat} (h : FS w v ws) (g : Grew w w') : FS w' v ws := h.below g.below
theorem FS.nil (w : World) : FS w (.slice none 0 0) [] := ⟨by simp, none, 0, rfl, fun _ => rfl, fun i hi => by simp at hi⟩

/-- A block of numbers written out. -/
theorem FS.lit {w : World} {t : TypeId} (l : List Nat) (hl : l.length ≤ 9223372036854775807) (h : ∀ x ∈ l, IsF x x) (cap n : Nat) (hn : n = w.heap.size) :
    FS (w.alloc (.cells (l.map (Value.float .f64)).toArray t)) (.slice (some ⟨n, 0, none⟩) l.length cap) l := by
  subst hn
  refine ⟨hl, _, cap, rfl, (fun h => by cases h), fun i hi => ⟨_, _, l.getD i 0, rfl, ?_, ?_⟩⟩
  · rw [World.cell?_alloc_new]
    simp [List.getD_eq_getElem?_getD, hi]
  · rw [List.getD_eq_getElem?_getD, List.getElem?_eq_getElem hi]
    exact h _ (List.getElem_mem hi)
theorem below_drewN {B : Nat} {a w : World} (h : Below B a w) (n : Nat) : Below B a (w.drewN n) := ⟨h.os, h.tape, h.output, h.size, h.block⟩

/-- What stood below reads as before, as two rules for the walk, and the size. -/
theorem bcell {W w1 : World} (hb : Below W.heap.size W w1) :
    (∀ b o, b < W.heap.size → w1.cell? ⟨b, o, none⟩ = W.cell? ⟨b, o, none⟩) ∧ (∀ b o, b < W.heap.size → w1.frozen? ⟨b, o, none⟩ = W.frozen? ⟨b, o, none⟩) ∧ W.heap.size ≤ w1.heap.size :=
  ⟨fun b o h => hb.cell (p := ⟨b, o, none⟩) h, fun b o h => hb.frozen (p := ⟨b, o, none⟩) h, hb.size⟩

/-- A vector (api.Vec). -/
structure VecM where
  ws : List Nat
  off : Int
  n : Int
  inc : Int
def VecM.agg (m : VecM) (D : Value) : Value := .agg #[D, .int .i64 m.off, .int .i64 m.n, .int .i64 m.inc]
def VecM.wf (m : VecM) : Prop := I64 m.off ∧ I64 m.n ∧ I64 m.inc
def fitsB (size off steps step more : Int) : Bool := decide (0 ≤ off ∧ off + steps * step + more < size)
def VecM.right (m : VecM) : Bool := decide (0 ≤ m.n ∧ 1 ≤ m.inc ∧ 0 ≤ m.off) && (decide (m.n = 0) || fitsB m.ws.length m.off (m.n - 1) m.inc 0)
def VecM.place (m : VecM) (i : Nat) : Nat := (m.off + i * m.inc).toNat
def VecM.num (m : VecM) (i : Nat) : Nat := m.ws.getD (m.place i) 0
def VecM.list (m : VecM) : List Nat := (List.range m.n.toNat).map m.num

theorem VecM.right_n {m : VecM} (h : m.right = true) : 0 ≤ m.n ∧ 1 ≤ m.inc ∧ 0 ≤ m.off := by
  simp [VecM.right] at h; omega
/-- A right vector's places lie in its list. -/
theorem VecM.right_place {m : VecM} (h : m.right = true) {i : Nat} (hi : (i : Int) < m.n) :
    0 ≤ m.off + i * m.inc ∧ m.off + i * m.inc < m.ws.length ∧ 0 ≤ (i : Int) * m.inc := by
  have h0 := VecM.right_n h
  simp [VecM.right, fitsB] at h
  have h1 : m.off + (m.n - 1) * m.inc < m.ws.length := by
    rcases h.2 with h2 | h2 <;> omega
  have h2 : (i : Int) * m.inc ≤ (m.n - 1) * m.inc := Int.mul_le_mul_of_nonneg_right (by omega) (by omega)
  have h3 : 0 ≤ (i : Int) * m.inc := Int.mul_nonneg (by omega) (by omega)
  omega

/-- A matrix (api.Mat). -/
structure MatM where
  ws : List Nat
  off : Int
  rows : Int
  cols : Int
  ld : Int
def MatM.agg (m : MatM) (D : Value) : Value := .agg #[D, .int .i64 m.off, .int .i64 m.rows, .int .i64 m.cols, .int .i64 m.ld]
def MatM.wf (m : MatM) : Prop := I64 m.off ∧ I64 m.rows ∧ I64 m.cols ∧ I64 m.ld
def MatM.good (m : MatM) : Bool := decide (0 ≤ m.rows ∧ 0 ≤ m.cols ∧ 0 ≤ m.off ∧ 1 ≤ m.ld ∧ m.rows ≤ m.ld) &&
  (decide (m.rows = 0) || decide (m.cols = 0) || fitsB m.ws.length m.off (m.cols - 1) m.ld (m.rows - 1))

end Sedge
