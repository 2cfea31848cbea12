/-
  The worlds behind a place in the code: blocks of a list may be written, all else of what stood there stands.
-/
import Derived.Test.YtcmggfpcbijcjaaWr
import Derived.Test.YtcmggfpcbijcjaaOpen
set_option linter.unusedSimpArgs false
set_option linter.unusedVariables false
namespace Sedge
open Go Go.RowKit
/-- What stood in V stands in w, but for the blocks of G. -/
structure But (V : World) (G : List Nat) (w : World) : Prop where
  os : w.os = V.os
  tape : w.tape = V.tape
  output : w.output = V.output
  size : V.heap.size ≤ w.heap.size
  block : ∀ k, k < V.heap.size → k ∉ G → w.heap[k]? = V.heap[k]?
section
variable {V w w' : World} {G : List Nat}
theorem But.refl (V : World) (G : List Nat) : But V G V := ⟨rfl, rfl, rfl, Nat.le_refl _, fun _ _ _ => rfl⟩
theorem But.grew (h : But V G w) (g : Grew w w') : But V G w' := by
  have b := g.below
  exact ⟨b.os.trans h.os, b.tape.trans h.tape, b.output.trans h.output, Nat.le_trans h.size b.size, fun k hk hG => (b.block k (Nat.lt_of_lt_of_le hk h.size)).trans (h.block k hk hG)⟩
theorem But.wrote {g : Nat} {ws : List Nat} (h : But V G w) (k : Wrote w w' g ws) (hg : g ∈ G ∨ V.heap.size ≤ g) : But V G w' := by
  obtain ⟨cs, o, n, rfl, _⟩ := k
  refine ⟨h.os, h.tape, h.output, ?_, fun k hk hG => ?_⟩
  · have := h.size; simp only [Sedge.ext, Array.size_append]; rw [size_upd]; omega
  · have hs := h.size
    have hne : k ≠ g := by
      rintro rfl
      rcases hg with hg | hg
      · exact hG hg
      · omega
    rw [block_ext (by rw [size_upd]; omega), block_upd_ne hne]
    exact h.block k hk hG
theorem But.upd {g : Nat} (h : But V G w) (hg : g ∈ G ∨ V.heap.size ≤ g) (cs : Array Value) : But V G (upd w g cs) := by
  refine ⟨h.os, h.tape, h.output, ?_, fun k hk hG => ?_⟩
  · rw [size_upd]; exact h.size
  · have hne : k ≠ g := by
      rintro rfl
      rcases hg with hg | hg
      · exact hG hg
      · omega
    rw [block_upd_ne hne]
    exact h.block k hk hG
theorem But.cell {b i : Nat} (h : But V G w) (hb : b < V.heap.size) (hG : b ∉ G) : w.cell? ⟨b, i, none⟩ = V.cell? ⟨b, i, none⟩ := by
  unfold World.cell?; simp only [h.block b hb hG]
theorem But.grew0 {W : World} (h : But V G w) (hW : Grew W V) (hG : ∀ k ∈ G, W.heap.size ≤ k) : Grew W w := by
  have b := hW.below
  refine Grew.of_below ⟨h.os.trans b.os, h.tape.trans b.tape, h.output.trans b.output, Nat.le_trans b.size h.size, fun k hk => ?_⟩
  exact (h.block k (Nat.lt_of_lt_of_le hk b.size) (fun hm => by have := hG k hm; omega)).trans (b.block k hk)
theorem But.fw {g : Nat} {ws : List Nat} (h : But V G w) (hF : FW V g ws) (hG : g ∉ G) : FW w g ws := hF.same (h.block g hF.lt hG)
theorem But.mono {G' : List Nat} (h : But V G w) (hs : ∀ k ∈ G, k ∈ G') : But V G' w := ⟨h.os, h.tape, h.output, h.size, fun k hk hn => h.block k hk (fun e => hn (hs k e))⟩
theorem But.trans {w'' : World} {H : List Nat} (h : But V G w) (k : But w H w'') (hH : ∀ b ∈ H, b ∈ G ∨ V.heap.size ≤ b) : But V G w'' :=
  ⟨k.os.trans h.os, k.tape.trans h.tape, k.output.trans h.output, Nat.le_trans h.size k.size, fun b hb hG => (k.block b (Nat.lt_of_lt_of_le hb h.size) (fun e => (hH b e).elim hG (fun h1 => by omega))).trans (h.block b hb hG)⟩
end
theorem cell_of_block {w : World} {p i : Nat} {cs : Array Value} {e : TypeId} {f : Nat × Nat} (h : w.heap[p]? = some (.cells cs e f)) : w.cell? ⟨p, i, none⟩ = cs[i]? := by
  unfold World.cell?; simp [h]
theorem But.box {V : World} {G : List Nat} {p : Nat} {cs : Array Value} {e : TypeId} {f : Nat × Nat} (h : V.heap[p]? = some (.cells cs e f)) (hG : p ∉ G) : ∀ w', But V G w' → ∀ i, w'.cell? ⟨p, i, none⟩ = cs[i]? :=
  fun w' hb i => (hb.cell ((Array.getElem?_eq_some_iff.1 h).1) hG).trans (cell_of_block h)
theorem But.boxW {W V : World} {G : List Nat} {p : Nat} {cs : Array Value} (gV : Grew W V) (hp : p < W.heap.size) (h : ∀ i, W.cell? ⟨p, i, none⟩ = cs[i]?) (hG : ∀ k ∈ G, W.heap.size ≤ k) : ∀ w', But V G w' → ∀ i, w'.cell? ⟨p, i, none⟩ = cs[i]? :=
  fun w' hb i => (hb.cell (Nat.lt_of_lt_of_le hp gV.below.size) (fun hm => by have := hG p hm; omega)).trans ((gV.cell hp).trans (h i))
theorem But.fs {W V : World} {G : List Nat} {D : Value} {ws : List Nat} (gV : Grew W V) (h : FS W D ws) (hG : ∀ k ∈ G, W.heap.size ≤ k) : ∀ w', But V G w' → FS w' D ws :=
  fun _ hb => h.grew (hb.grew0 gV hG)
theorem But.is {W V : World} {G : List Nat} {D : Value} {k : IntKind} {zs : List Int} (gV : Grew W V) (h : IS k W D zs) (hG : ∀ k ∈ G, W.heap.size ≤ k) : ∀ w', But V G w' → IS k w' D zs :=
  fun _ hb => h.grew (hb.grew0 gV hG)
theorem ne_own {own : Nat → Nat} {p q a b : Nat} (h1 : own p = a) (h2 : own q = b) (h : a ≠ b) : p ≠ q := fun e => h (by rw [← h1, ← h2, e])
theorem FW.setc {w : World} {g : Nat} {ws : List Nat} (h : FW w g ws) {k r x : Nat} (hr : IsF r x) : FW (w.setCell ⟨g, k, none⟩ (.float .f64 r)) g (ws.set k x) := (h.wrote hr).fw h
theorem But.setc {V w : World} {G : List Nat} {g k r : Nat} {ws : List Nat} (h : But V G w) (hF : FW w g ws) (hg : g ∈ G) : But V G (w.setCell ⟨g, k, none⟩ (.float .f64 r)) := by
  obtain ⟨cs, h1, _⟩ := hF.self
  have : w.setCell ⟨g, k, none⟩ (.float .f64 r) = Sedge.upd w g (cs.setIfInBounds k (.float .f64 r)) := by rw [← setCell_upd, h1]
  rw [this]; exact h.upd (.inl hg) _
end Sedge
