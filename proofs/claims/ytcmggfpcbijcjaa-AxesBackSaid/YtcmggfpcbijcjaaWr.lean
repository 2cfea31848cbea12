/-
  Lists of floats that are written: the block's cells as they stand; the rest of the world as it was.
-/
import Derived.Test.YtcmggfpcbijcjaaOwn
set_option linter.unusedSimpArgs false
set_option linter.unusedVariables false
namespace Sedge
open Go Go.RowKit

/-- The world w with the cells of block b replaced. -/
def upd (w : World) (b : Nat) (cs : Array Value) : World := { w with heap := w.heap.modify b fun | .cells _ e f => .cells cs e f | o => o }

section
variable {w : World} {b : Nat} {cs : Array Value}
@[simp, go_sem] theorem size_upd : (upd w b cs).heap.size = w.heap.size := by simp [upd]
theorem block_upd_ne {k : Nat} (h : k ≠ b) : (upd w b cs).heap[k]? = w.heap[k]? := by
  show (w.heap.modify b _)[k]? = _
  rw [Array.getElem?_modify, if_neg (by omega)]
theorem block_upd {c : Array Value} {e : TypeId} {f : Nat × Nat} (h : w.heap[b]? = some (.cells c e f)) : (upd w b cs).heap[b]? = some (.cells cs e f) := by
  show (w.heap.modify b _)[b]? = _
  rw [Array.getElem?_modify, if_pos rfl, h]; rfl
@[go_sem] theorem cell_upd_ne {k i : Nat} (h : k ≠ b) : (upd w b cs).cell? ⟨k, i, none⟩ = w.cell? ⟨k, i, none⟩ := by
  unfold World.cell?; rw [block_upd_ne (by exact h)]
theorem cell_upd_ne' {a : Addr} (h : a.block ≠ b) : (upd w b cs).cell? a = w.cell? a := by
  unfold World.cell?; rw [block_upd_ne h]
@[simp, go_sem] theorem frozen_upd {a : Addr} : (upd w b cs).frozen? a = w.frozen? a := by
  unfold World.frozen?
  by_cases h : a.block = b
  · subst h
    show (match (w.heap.modify a.block _)[a.block]? with | some (.cells _ _ (lo, hi)) => _ | _ => _) = _
    rw [Array.getElem?_modify, if_pos rfl]
    cases w.heap[a.block]? with
    | none => rfl
    | some x => cases x <;> rfl
  · rw [block_upd_ne h]
@[simp, go_sem] theorem upd_upd {cs' : Array Value} : upd (upd w b cs) b cs' = upd w b cs' := by
  unfold upd
  simp only [World.mk.injEq, true_and, and_true]
  apply Array.ext_getElem?
  intro i
  simp only [Array.getElem?_modify]
  split
  · cases w.heap[i]? with
    | none => rfl
    | some x => cases x <;> rfl
  · rfl
@[go_sem] theorem upd_ext {o : Array Obj} {n : Nat} (h : b < w.heap.size) : upd (ext w o n) b cs = ext (upd w b cs) o n := by
  unfold ext upd
  simp only [World.mk.injEq, true_and, and_true]
  apply Array.ext_getElem?
  intro i
  by_cases hi : i < w.heap.size
  · rw [Array.getElem?_append_left (by simpa using hi), Array.getElem?_modify, Array.getElem?_modify, Array.getElem?_append_left hi]
  · rw [Array.getElem?_append_right (by simpa using hi), Array.getElem?_modify, if_neg (by omega), Array.getElem?_append_right (by omega)]
    simp
@[go_sem] theorem setCell_upd {i : Nat} {v : Value} : (upd w b cs).setCell ⟨b, i, none⟩ v = upd w b (cs.setIfInBounds i v) := by
  unfold upd World.setCell
  simp only [World.mk.injEq, true_and, and_true]
  apply Array.ext_getElem?
  intro k
  simp only [Array.getElem?_modify]
  split
  · cases w.heap[k]? with
    | none => rfl
    | some x => cases x <;> rfl
  · rfl
end

/-- The first cells are the floats ws. -/
def CF (cs : Array Value) (ws : List Nat) : Prop := ws.length ≤ cs.size ∧ ∀ i, i < ws.length → ∃ r, cs[i]? = some (.float .f64 r) ∧ IsF r (ws.getD i 0)
theorem CF.set {cs : Array Value} {ws : List Nat} (h : CF cs ws) {i r x : Nat} (hr : IsF r x) : CF (cs.setIfInBounds i (.float .f64 r)) (ws.set i x) := by
  obtain ⟨h1, h2⟩ := h
  refine ⟨by simpa using h1, fun k hk => ?_⟩
  have hk' : k < ws.length := by simpa using hk
  by_cases hik : i = k
  · subst hik
    refine ⟨r, ?_, ?_⟩
    · rw [Array.getElem?_setIfInBounds, if_pos rfl, if_pos (by omega)]
    · simpa [List.getD_eq_getElem?_getD, hk'] using hr
  · obtain ⟨s, h3, h4⟩ := h2 k hk'
    refine ⟨s, ?_, ?_⟩
    · rw [Array.getElem?_setIfInBounds, if_neg hik]; exact h3
    · rw [List.getD_eq_getElem?_getD, List.getElem?_set_ne hik, ← List.getD_eq_getElem?_getD]; exact h4

/-- Block b is a row of cells that may be written; its first ones are ws. -/
def FW (w : World) (b : Nat) (ws : List Nat) : Prop := ∃ c e, w.heap[b]? = some (.cells c e (0, 0)) ∧ CF c ws

section
variable {w : World} {b : Nat} {ws : List Nat}
theorem FW.lt (h : FW w b ws) : b < w.heap.size := by
  obtain ⟨c, e, h1, _⟩ := h
  exact (Array.getElem?_eq_some_iff.1 h1).1
theorem FW.notFrozen (h : FW w b ws) (i : Nat) : w.frozen? ⟨b, i, none⟩ = false := by
  obtain ⟨c, e, h1, _⟩ := h
  unfold World.frozen?
  simp only [h1]
  simp
/-- As it stands. -/
theorem FW.self (h : FW w b ws) : ∃ cs, upd w b cs = w ∧ CF cs ws := by
  obtain ⟨c, e, h1, h2⟩ := h
  refine ⟨c, ?_, h2⟩
  unfold upd
  cases w with | mk hp tp dr os' out => ?_
  simp only [World.mk.injEq, true_and, and_true] at *
  apply Array.ext_getElem?
  intro i
  rw [Array.getElem?_modify]
  split
  · rename_i he; subst he; rw [h1]; rfl
  · rfl
theorem FW.cells (h : FW w b ws) (cs : Array Value) (i : Nat) : (upd w b cs).cell? ⟨b, i, none⟩ = cs[i]? := by
  obtain ⟨c, e, h1, _⟩ := h
  unfold World.cell?
  simp only [block_upd h1]
  simp
theorem FW.mk' (h : FW w b ws) {cs : Array Value} {ws' : List Nat} (hc : CF cs ws') (o : Array Obj) (n : Nat) : FW (ext (upd w b cs) o n) b ws' := by
  have hlt := h.lt
  obtain ⟨c, e, h1, _⟩ := h
  exact ⟨cs, e, by rw [block_ext (by simpa using hlt), block_upd h1], hc⟩
theorem FW.fs (h : FW w b ws) (hl : ws.length ≤ 9223372036854775807) (cap : Nat) : FS w (.slice (some ⟨b, 0, none⟩) ws.length cap) ws := by
  obtain ⟨c, e, h1, h2⟩ := h
  refine ⟨hl, _, cap, rfl, (fun h => by cases h), fun i hi => ?_⟩
  obtain ⟨r, h3, h4⟩ := h2.2 i hi
  refine ⟨b, 0, r, rfl, ?_, h4⟩
  unfold World.cell?
  simp only [h1, Nat.zero_add]
  simpa using h3
theorem FW.same {w' : World} (h : FW w b ws) (hs : w'.heap[b]? = w.heap[b]?) : FW w' b ws := by
  obtain ⟨c, e, h1, h2⟩ := h
  exact ⟨c, e, hs.trans h1, h2⟩
theorem FW.grew {w' : World} (h : FW w b ws) (g : Grew w w') : FW w' b ws := h.same (g.below.block b h.lt)
theorem FW.ext (h : FW w b ws) (o : Array Obj) (n : Nat) : FW (ext w o n) b ws := h.grew ⟨_, _, rfl⟩
theorem FW.alloc (h : FW w b ws) (o : Obj) : FW (w.alloc o) b ws := h.grew ((Grew.refl _).alloc o)
theorem FW.upd_ne (h : FW w b ws) {k : Nat} (hk : b ≠ k) (cs : Array Value) : FW (upd w k cs) b ws := h.same (block_upd_ne hk)
end

/-- v does not lie in block b. -/
def NotIn (b : Nat) (v : Value) : Prop := ∀ a l c, v = .slice (some a) l c → a.block ≠ b
theorem FS.upd_ne {w : World} {v : Value} {ws : List Nat} (h : FS w v ws) {b : Nat} (hn : NotIn b v) (cs : Array Value) : FS (upd w b cs) v ws := by
  obtain ⟨hl, a, cap, hv, h0, hc⟩ := h
  refine ⟨hl, a, cap, hv, h0, fun i hi => ?_⟩
  obtain ⟨blk, o, r, he, h1, h2⟩ := hc i hi
  refine ⟨blk, o, r, he, ?_, h2⟩
  rw [cell_upd_ne (by exact hn ⟨blk, o, none⟩ _ _ (by rw [hv, he]))]
  exact h1
theorem OwnF.fw {e : TypeId} {w : World} {B : Nat} {v : Value} {xs : List Nat} (h : OwnF e w B v xs) (hn : v ≠ .slice none 0 0) :
    ∃ g cap, v = .slice (some ⟨g, 0, none⟩) xs.length cap ∧ B ≤ g ∧ FW w g xs := by
  obtain ⟨bs, ⟨_, h1⟩, rfl, hb⟩ := h
  rcases h1 with ⟨h1, _⟩ | ⟨g, cap, cur, rfl, hB, hh, hn, hm, hsz, ht⟩
  · exact absurd h1 hn
  · refine ⟨g, cap, by simp, hB, cur, e, hh, by simp; omega, fun i hi => ?_⟩
    have hi' : i < bs.length := by simpa using hi
    rw [Nat.mul_one] at ht
    have h2 := take_getElem? (i := i) ht (by simpa using hi')
    have hm : bs.getD i 0 ∈ bs := by rw [List.getD_eq_getElem?_getD, List.getElem?_eq_getElem hi']; exact List.getElem_mem hi'
    refine ⟨bs.getD i 0, ?_, hb _ hm, ?_⟩
    · rw [← Array.getElem?_toList, h2]; simp [List.getD_eq_getElem?_getD, hi']
    · simp [List.getD_eq_getElem?_getD, hi']
/-- A slice of our own that may be written: its block lies at B or behind; it reads as ws. -/
def WS (w : World) (B : Nat) (v : Value) (ws : List Nat) : Prop := ∃ g cap, v = .slice (some ⟨g, 0, none⟩) ws.length cap ∧ B ≤ g ∧ FW w g ws ∧ ws.length ≤ 9223372036854775807
theorem OwnF.ws {e : TypeId} {w : World} {B : Nat} {v : Value} {xs : List Nat} (h : OwnF e w B v xs) (hn : v ≠ .slice none 0 0) (hl : xs.length ≤ 9223372036854775807) : WS w B v xs := by
  obtain ⟨g, cap, h1, h2, h3⟩ := h.fw hn
  exact ⟨g, cap, h1, h2, h3, hl⟩
theorem WS.fs {w : World} {B : Nat} {v : Value} {xs : List Nat} (h : WS w B v xs) : FS w v xs := by
  obtain ⟨g, cap, rfl, _, h3, h4⟩ := h
  exact h3.fs h4 cap
theorem WS.grew {w w' : World} {B : Nat} {v : Value} {xs : List Nat} (h : WS w B v xs) (g : Grew w w') : WS w' B v xs := by
  obtain ⟨k, cap, h1, h2, h3, h4⟩ := h
  exact ⟨k, cap, h1, h2, h3.grew g, h4⟩
theorem WS.ext {w : World} {B : Nat} {v : Value} {xs : List Nat} (h : WS w B v xs) (o : Array Obj) (n : Nat) : WS (ext w o n) B v xs := h.grew ⟨_, _, rfl⟩
theorem WS.alloc {w : World} {B : Nat} {v : Value} {xs : List Nat} (h : WS w B v xs) (o : Obj) : WS (w.alloc o) B v xs := h.grew ((Grew.refl _).alloc o)
theorem WS.mono {w : World} {B C : Nat} {v : Value} {xs : List Nat} (h : WS w B v xs) (hc : C ≤ B) : WS w C v xs := by
  obtain ⟨k, cap, h1, h2, h3, h4⟩ := h
  exact ⟨k, cap, h1, Nat.le_trans hc h2, h3, h4⟩
theorem Grew.upd {W w : World} {b : Nat} (h : Grew W w) (hb : W.heap.size ≤ b) (cs : Array Value) : Grew W (upd w b cs) := by
  refine Grew.of_below ?_
  have := h.below
  exact ⟨this.os, this.tape, this.output, by simpa using this.size, fun k hk => by rw [block_upd_ne (by omega)]; exact this.block k hk⟩
theorem Grew.setCell {W w : World} {a : Addr} (h : Grew W w) (hb : W.heap.size ≤ a.block) (v : Value) : Grew W (w.setCell a v) := by
  refine Grew.of_below ?_
  have := h.below
  refine ⟨this.os, this.tape, this.output, by simpa [World.setCell] using this.size, fun k hk => ?_⟩
  rw [← this.block k hk]
  show (w.heap.modify _ _)[k]? = _
  rw [Array.getElem?_modify, if_neg (by omega)]
/-- A write elsewhere. -/
theorem FW.setCell_ne {w : World} {b : Nat} {ws : List Nat} (h : FW w b ws) {a : Addr} (hb : a.block ≠ b) (v : Value) : FW (w.setCell a v) b ws := h.same (by
  show (w.heap.modify _ _)[b]? = _
  rw [Array.getElem?_modify, if_neg hb])
theorem WS.setCell {w : World} {B : Nat} {v : Value} {xs : List Nat} (h : WS w B v xs) {a : Addr} (hb : a.block < B) (u : Value) : WS (w.setCell a u) B v xs := by
  obtain ⟨k, cap, h1, h2, h3, h4⟩ := h
  exact ⟨k, cap, h1, h2, h3.setCell_ne (by omega) u, h4⟩
theorem OwnF.made {e : TypeId} {w : World} {B k n c : Nat} {xs : List Nat} (h : OwnF e w B (.slice (some ⟨k, 0, none⟩) n c) xs) : FW w k xs := by
  obtain ⟨g, cap, he, hB, hF⟩ := h.fw (by intro h; cases h)
  have := (Value.slice.inj he).1
  have e2 : k = g := congrArg (fun o : Option Addr => match o with | some a => a.block | none => 0) this
  rw [e2]; exact hF
theorem size_setCell' {w : World} {a : Addr} {v : Value} : (w.setCell a v).heap.size = w.heap.size := by simp [World.setCell]
theorem FW.ext_set {w : World} {b : Nat} {ws : List Nat} {o : Array Obj} {n : Nat} (h : FW (Sedge.ext w o n) b ws) {a : Addr} (h1 : a.block < w.heap.size) (h2 : a.block ≠ b) (v : Value) : FW (Sedge.ext (w.setCell a v) o n) b ws := by
  rw [← setCell_ext' h1]
  exact h.setCell_ne h2 v
/-- From w to w' the list in block g was written, and new blocks laid. -/
def Wrote (w w' : World) (g : Nat) (ws : List Nat) : Prop := ∃ cs o n, w' = Sedge.ext (upd w g cs) o n ∧ CF cs ws
theorem Wrote.refl {w : World} {g : Nat} {ws : List Nat} (h : FW w g ws) : Wrote w w g ws := by
  obtain ⟨cs, h1, h2⟩ := h.self
  exact ⟨cs, #[], _, by rw [h1]; exact ext_zero.symm, h2⟩
theorem Wrote.fw {w w' : World} {g : Nat} {ws ws' : List Nat} (h : Wrote w w' g ws') (hF : FW w g ws) : FW w' g ws' := by
  obtain ⟨cs, o, n, rfl, h2⟩ := h
  exact hF.mk' h2 o n
theorem Wrote.grew_r {w w' w'' : World} {g : Nat} {ws : List Nat} (h : Wrote w w' g ws) (k : Grew w' w'') : Wrote w w'' g ws := by
  obtain ⟨cs, o, n, rfl, h2⟩ := h
  obtain ⟨o', n', rfl⟩ := k
  exact ⟨cs, _, _, ext_ext, h2⟩
theorem Wrote.grew_l {w w' w'' : World} {g : Nat} {ws : List Nat} (k : Grew w w') (hg : g < w.heap.size) (h : Wrote w' w'' g ws) : Wrote w w'' g ws := by
  obtain ⟨o', n', rfl⟩ := k
  obtain ⟨cs, o, n, rfl, h2⟩ := h
  exact ⟨cs, _, _, by rw [upd_ext hg, ext_ext], h2⟩
theorem Wrote.trans {w w' w'' : World} {g : Nat} {ws ws' : List Nat} (h : Wrote w w' g ws) (hg : g < w.heap.size) (k : Wrote w' w'' g ws') : Wrote w w'' g ws' := by
  obtain ⟨cs, o, n, rfl, h2⟩ := h
  obtain ⟨cs', o', n', rfl, h2'⟩ := k
  exact ⟨cs', _, _, by rw [upd_ext (by simpa using hg), upd_upd, ext_ext], h2'⟩
theorem Wrote.grew {W w w' : World} {g : Nat} {ws : List Nat} (h : Wrote w w' g ws) (hW : Grew W w) (hg : W.heap.size ≤ g) : Grew W w' := by
  obtain ⟨cs, o, n, rfl, h2⟩ := h
  exact (hW.upd hg cs).ext _ _
theorem Wrote.fs {w w' : World} {g : Nat} {ws : List Nat} (h : Wrote w w' g ws) {v : Value} {us : List Nat} (hv : FS w v us) (hn : NotIn g v) : FS w' v us := by
  obtain ⟨cs, o, n, rfl, h2⟩ := h
  exact (hv.upd_ne hn cs).ext o n
theorem Wrote.fw_ne {w w' : World} {g : Nat} {ws : List Nat} (h : Wrote w w' g ws) {k : Nat} {us : List Nat} (hv : FW w k us) (hn : k ≠ g) : FW w' k us := by
  obtain ⟨cs, o, n, rfl, h2⟩ := h
  exact (hv.upd_ne hn cs).ext o n
theorem FW.get {w : World} {g : Nat} {ws : List Nat} (h : FW w g ws) {i : Nat} (hi : i < ws.length) : ∃ r, w.cell? ⟨g, i, none⟩ = some (.float .f64 r) ∧ IsF r (ws.getD i 0) := by
  obtain ⟨c, e, h1, h2⟩ := h
  obtain ⟨r, h3, h4⟩ := h2.2 i hi
  exact ⟨r, by unfold World.cell?; simp only [h1]; simpa using h3, h4⟩
/-- The store of a float. -/
@[go_sem] theorem run_store_float {P : Program} {w : World} {a : Addr} {m : Mode} (k : FloatKind) (b : Nat) : (store a (.float k b) m).run P w = stored P w a (.float k b) m := run_store P w a _ m rfl
theorem Grew.cell {W V : World} (h : Grew W V) {b i : Nat} (hb : b < W.heap.size) : V.cell? ⟨b, i, none⟩ = W.cell? ⟨b, i, none⟩ := h.below.cell (p := ⟨b, i, none⟩) hb
theorem Grew.frozen {W V : World} (h : Grew W V) {b i : Nat} (hb : b < W.heap.size) : V.frozen? ⟨b, i, none⟩ = W.frozen? ⟨b, i, none⟩ := h.below.frozen (p := ⟨b, i, none⟩) hb
/-- w is V with block g written, and new blocks. -/
def Over (V : World) (g : Nat) (w : World) : Prop := ∃ cs o n, w = Sedge.ext (upd V g cs) o n
/-- One write. -/
theorem FW.set {w : World} {g : Nat} {ws : List Nat} (h : FW w g ws) {k r x : Nat} (hr : IsF r x) : ∃ cs, w.setCell ⟨g, k, none⟩ (.float .f64 r) = upd w g cs ∧ CF cs (ws.set k x) := by
  obtain ⟨cs, h1, h2⟩ := h.self
  exact ⟨cs.setIfInBounds k (.float .f64 r), by rw [← setCell_upd, h1], h2.set hr⟩
theorem FW.wrote {w : World} {g : Nat} {ws : List Nat} (h : FW w g ws) {k r x : Nat} (hr : IsF r x) : Wrote w (w.setCell ⟨g, k, none⟩ (.float .f64 r)) g (ws.set k x) := by
  obtain ⟨cs, h1, h2⟩ := h.set (k := k) hr
  exact ⟨cs, #[], _, by rw [h1]; exact ext_zero.symm, h2⟩
/-- Writes, one behind the other: at p k the number f k. -/
def writes (l : List Nat) (p f : Nat → Nat) : Nat → List Nat
  | 0 => l
  | k + 1 => (writes l p f k).set (p k) (f k)
@[simp] theorem writes_length (l : List Nat) (p f : Nat → Nat) : ∀ k, (writes l p f k).length = l.length
  | 0 => rfl
  | k + 1 => by unfold writes; rw [List.length_set, writes_length l p f k]
/-- The world of the goal, named. -/
theorem name_any {p : World → Prop} {w : World} (h : ∀ W, w = W → p W) : p w := h w rfl
theorem name_call {P : Program} {f : FuncId} {args : Array Value} {post : Ending → World → Prop} {w : World} (h : ∀ W, w = W → Calls P f args W post) : Calls P f args w post := h w rfl
end Sedge
