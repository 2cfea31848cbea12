/-
  Texts laid one behind the other (a claim has at most 60 files): Own, Wr, View, Lists, Tabs, Move.
-/
import Derived.OwnWalk
import Derived.Laws.AppendOwnNone
import Derived.Test.YtcmggfpcbijcjaaProg
import Derived.Test.YtcmggfpcbijcjaaQAxesClose1
section
/-
  Slices of floats that a call makes itself: appends; lists that may be written, and what a write does.
-/
set_option linter.unusedSimpArgs false
set_option linter.unusedVariables false
namespace Sedge
open Go Go.RowKit

/-- The slice v of ours owns the floats xs, in blocks from B on. -/
def OwnF (e : TypeId) (w : World) (B : Nat) (v : Value) (xs : List Nat) : Prop :=
  ∃ bs : List Nat, w.ownsRow B e 1 v bs.length (bs.map (Value.float .f64)) ∧ bs.map canon = xs ∧ ∀ b ∈ bs, b < 2 ^ 64

theorem OwnF.nil (e : TypeId) (w : World) (B : Nat) : OwnF e w B (.slice none 0 0) [] := ⟨[], ⟨by simp, .inl ⟨rfl, rfl⟩⟩, rfl, by simp⟩
theorem OwnF.length {e : TypeId} {w : World} {B : Nat} {v : Value} {xs : List Nat} (h : OwnF e w B v xs) : ∃ a cap, v = .slice a xs.length cap := by
  obtain ⟨bs, ⟨_, h1⟩, rfl, _⟩ := h
  rcases h1 with ⟨rfl, h1⟩ | ⟨g, cap, cur, rfl, _⟩
  · exact ⟨none, 0, by simp [h1]⟩
  · exact ⟨some ⟨g, 0, none⟩, cap, by simp⟩
theorem take_getElem? {α : Type} {l m : List α} {k i : Nat} (h : l.take k = m) (hi : i < m.length) : l[i]? = m[i]? := by
  subst h
  rw [List.getElem?_take_of_lt (by simp at hi; omega)]
theorem OwnF.fs {e : TypeId} {w : World} {B : Nat} {v : Value} {xs : List Nat} (h : OwnF e w B v xs) (hl : xs.length ≤ 9223372036854775807) : FS w v xs := by
  obtain ⟨bs, ⟨_, h1⟩, rfl, hb⟩ := h
  rcases h1 with ⟨rfl, h1⟩ | ⟨g, cap, cur, rfl, _, hh, hn, hm, hsz, ht⟩
  · have : bs = [] := List.length_eq_zero_iff.1 h1
    subst this; exact FS.nil w
  · refine ⟨hl, some ⟨g, 0, none⟩, cap, by simp, (fun h => by cases h), fun i hi => ⟨g, 0, bs.getD i 0, rfl, ?_, ?_⟩⟩
    · have hi' : i < bs.length := by simpa using hi
      rw [Nat.mul_one] at ht
      have := take_getElem? (i := i) ht (by simpa using hi')
      simp only [World.cell?, hh, Nat.zero_add, Option.isSome_none, Bool.false_eq_true, if_false]
      rw [← Array.getElem?_toList, this]
      simp [List.getD_eq_getElem?_getD, hi']
    · have hi' : i < bs.length := by simpa using hi
      have hm : bs.getD i 0 ∈ bs := by rw [List.getD_eq_getElem?_getD, List.getElem?_eq_getElem hi']; exact List.getElem_mem hi'
      refine ⟨hb _ hm, ?_⟩
      simp [List.getD_eq_getElem?_getD, hi']
theorem OwnF.grew {e : TypeId} {w w' : World} {B : Nat} {v : Value} {xs : List Nat} (h : OwnF e w B v xs) (g : Grew w w') : OwnF e w' B v xs := by
  obtain ⟨bs, ⟨h0, h1⟩, h2, h3⟩ := h
  refine ⟨bs, ⟨h0, ?_⟩, h2, h3⟩
  rcases h1 with h1 | ⟨gg, cap, cur, hv, hB, hh, r⟩
  · exact .inl h1
  · have hlt : gg < w.heap.size := by
      rcases Nat.lt_or_ge gg w.heap.size with h | h
      · exact h
      · rw [Array.getElem?_eq_none h] at hh; cases hh
    exact .inr ⟨gg, cap, cur, hv, hB, by rw [g.below.block gg hlt]; exact hh, r⟩
theorem OwnF.ext {e : TypeId} {w : World} {B : Nat} {v : Value} {xs : List Nat} (h : OwnF e w B v xs) (o : Array Obj) (n : Nat) : OwnF e (ext w o n) B v xs := h.grew ⟨_, _, rfl⟩
theorem OwnF.alloc {e : TypeId} {w : World} {B : Nat} {v : Value} {xs : List Nat} (h : OwnF e w B v xs) (o : Obj) : OwnF e (w.alloc o) B v xs := h.grew ((Grew.refl _).alloc o)
/-- A new block without cells. -/
theorem OwnF.empty {e : TypeId} {w : World} {B n : Nat} (hn : n = w.heap.size) (hB : B ≤ n) : OwnF e (w.alloc (.cells #[] e)) B (.slice (some ⟨n, 0, none⟩) 0 0) [] := by
  subst hn
  refine ⟨[], ⟨by simp, .inr ⟨_, 0, #[], rfl, hB, ?_, by simp, by simp, by simp, by simp⟩⟩, rfl, by simp⟩
  show (w.heap.push _)[w.heap.size]? = _
  simp

theorem grew_grown {W w w' : World} {row : Option Nat} (hW : Grew W w) (hg : w.grownBy w' row) (hr : ∀ k, row = some k → W.heap.size ≤ k) : Grew W w' := by
  refine Grew.of_below ?_
  have hb := hW.below
  exact hb.grown hg hb.size hr
theorem OwnF.block {e : TypeId} {w : World} {B : Nat} {v : Value} {xs : List Nat} (h : OwnF e w B v xs) : ∀ k, v.ownBlock = some k → B ≤ k := by
  obtain ⟨bs, ⟨_, h1⟩, _, _⟩ := h
  intro k hk
  rcases h1 with ⟨rfl, _⟩ | ⟨g, cap, cur, rfl, hB, _⟩
  · simp [Value.ownBlock] at hk
  · simp [Value.ownBlock] at hk; omega

/-- What the program's table says of a type of slices of floats. -/
structure ElemF (P : Program) (t e : TypeId) : Prop where
  und : P.underlying t = some (.slice e)
  info : (P.info? e).map (fun i => (i.zero, i.size, i.bytes)) = some (some (.float .f64 0), 1, 8)

section
variable {P : Program} {ops : Array Oper} {rest : List Oper} {o : Oper} {a : Act} {Q : Exit → Act → World → Prop}
/-- 'append(s, x)' of one float. -/
theorem append1_f {t e e' : TypeId} (T : ElemF P t e) {W w : World} (hW : Grew W w) {v : Value} {xs : List Nat} (hown : OwnF e w W.heap.size v xs) {b y : Nat} (hy : IsF b y)
    (hlen : xs.length < 17592186044415) (s x : Operand) (hg : o.guard = none)
    (ho : o.op = .call { callee := .builtin .append, args := #[s, x], argTypes := #[t, t] }) (hs : a.eval s = v) {k : Nat} (hk : k = w.heap.size) (hx : a.eval x = .slice (some ⟨k, 0, none⟩) 1 1)
    (h : ∀ v' oo nn, OwnF e (ext W oo nn) W.heap.size v' (xs ++ [y]) → v' ≠ .slice none 0 0 → wpList P ops Q rest (a.put o.dst v') (ext W oo nn)) :
    wpList P ops Q (o :: rest) a (w.alloc (.cells #[.float .f64 b] e')) := by
  subst hk
  obtain ⟨i0, hi, hz0, hz1, hz2⟩ := info_parts T.info
  have hblk := hown.block
  have h' := hown.alloc (.cells #[.float .f64 b] e')
  obtain ⟨bs, ho1, rfl, hb⟩ := h'
  have hl : bs.length < 17592186044415 := by simpa using hlen
  refine wpList_append_own _ hg s x t ho W.heap.size e i0 (.float .f64 0) 1 8 T.und hi hz0 hz1 hz2 rfl (by decide) v bs.length _ hs ho1 ⟨w.heap.size, 0, none⟩ 1 1 [.float .f64 b] hx rfl ?_ ?_ ?_ ?_ ?_ ?_
  · intro j u hj
    match j, hj with
    | 0, hj =>
      simp at hj; subst hj
      have e1 : (⟨w.heap.size, 0, none⟩ : Addr).add 0 = ⟨w.heap.size, 0, none⟩ := by simp [Addr.add]
      rw [e1, World.cell?_alloc_new]; rfl
  · intro u hu; simp at hu; subst hu; rfl
  · simp [maxLen]; omega
  · omega
  · have := hW.below.size; simp; omega
  · intro v' w' ho2 hgr hnn
    obtain ⟨oo, nn, rfl⟩ := grew_grown (hW.alloc (.cells #[.float .f64 b] e')) hgr hblk
    refine h v' oo nn ⟨bs ++ [b], by simpa using ho2, by simp [hy.2], fun z hz => ?_⟩ (fun h0 => by have := (hnn.1 h0).2; cases this)
    rcases List.mem_append.1 hz with hz | hz
    · exact hb z hz
    · simp at hz; subst hz; exact hy.1
/-- 'append(s, src...)'. -/
theorem appendN_f {t e : TypeId} (T : ElemF P t e) {W w : World} (hW : Grew W w) {v : Value} {xs : List Nat} (hown : OwnF e w W.heap.size v xs) {D : Value} {ws : List Nat} (hD : FS w D ws)
    (hlen : xs.length + ws.length < 17592186044415) (s x : Operand) (hg : o.guard = none)
    (ho : o.op = .call { callee := .builtin .append, args := #[s, x], argTypes := #[t, t] }) (hs : a.eval s = v) (hx : a.eval x = D)
    (h : ∀ v' oo nn, OwnF e (ext W oo nn) W.heap.size v' (xs ++ ws) → (v ≠ .slice none 0 0 → v' ≠ .slice none 0 0) → wpList P ops Q rest (a.put o.dst v') (ext W oo nn)) :
    wpList P ops Q (o :: rest) a w := by
  obtain ⟨i0, hi, hz0, hz1, hz2⟩ := info_parts T.info
  have hblk := hown.block
  obtain ⟨bs, ho1, rfl, hb⟩ := hown
  obtain ⟨ad, cap, rfl⟩ := hD.shape
  have hat := hD.at.2
  have hl : bs.length + ws.length < 17592186044415 := by simpa using hlen
  cases ad with
  | none =>
    have hw0 : ws = [] := by
      rcases Nat.eq_zero_or_pos ws.length with h0 | h0
      · exact List.length_eq_zero_iff.1 h0
      · obtain ⟨_, _, hh, _⟩ := hat h0; cases hh
    subst hw0
    have hcap := hD.nilcap rfl
    subst hcap
    · refine wpList_append_own_none hg s x t ho W.heap.size e i0 1 T.und hi v bs.length _ hs ho1 hx ?_
      obtain ⟨oo, nn, rfl⟩ := hW
      exact h v oo nn ⟨bs, ho1, by simp, hb⟩ id
  | some ad =>
    let f : Nat → Nat := fun i => match w.cell? (ad.add i) with | some (.float _ b) => b | _ => 0
    have each : ∀ i, i < ws.length → w.cell? (ad.add i) = some (.float .f64 (f i)) ∧ IsF (f i) (ws.getD i 0) := by
      intro i hi
      obtain ⟨blk, o, he, _, hc⟩ := hat (by omega)
      cases he
      obtain ⟨b, h1, h2⟩ := hc i hi
      have e1 : (⟨blk, o, none⟩ : Addr).add i = ⟨blk, o + i, none⟩ := by
        unfold Addr.add; split
        · rename_i h0; subst h0; rfl
        · rfl
      have : f i = b := by simp only [f]; rw [e1, h1]
      rw [this, e1]
      exact ⟨h1, h2⟩
    have hmap : ((List.range ws.length).map f).map canon = ws := by
      apply List.ext_getElem (by simp)
      intro i h1 h2
      simp only [List.getElem_map, List.getElem_range]
      have := (each i (by simpa using h2)).2.2
      rw [this, List.getD_eq_getElem?_getD, List.getElem?_eq_getElem h2]; rfl
    refine wpList_append_own _ hg s x t ho W.heap.size e i0 (.float .f64 0) 1 8 T.und hi hz0 hz1 hz2 rfl (by decide) v bs.length _ hs ho1 ad ws.length cap (((List.range ws.length).map f).map (Value.float .f64)) hx (by simp) ?_ ?_ ?_ ?_ ?_ ?_
    · intro j u hj
      have hj' : j < ws.length := by have := (List.getElem?_eq_some_iff.1 hj).1; simpa using this
      simp [hj'] at hj
      subst hj
      exact (each j hj').1
    · intro u hu; simp at hu; obtain ⟨_, _, rfl⟩ := hu; rfl
    · simp [maxLen]; omega
    · omega
    · exact hW.below.size
    · intro v' w' ho2 hgr hnn
      obtain ⟨oo, nn, rfl⟩ := grew_grown hW hgr hblk
      refine h v' oo nn ⟨bs ++ (List.range ws.length).map f, by simpa using ho2, by rw [List.map_append, hmap], fun z hz => ?_⟩ (fun h1 h2 => h1 (hnn.1 h2).1)
      rcases List.mem_append.1 hz with hz | hz
      · exact hb z hz
      · obtain ⟨i, hi, rfl⟩ := List.mem_map.1 hz
        exact (each i (by simpa using hi)).2.1
/-- 'make([]float64, n)'. -/
theorem make_f {t e : TypeId} (T : ElemF P t e) {W w : World} (hW : Grew W w) (l c : Operand) (hg : o.guard = none) (hop : o.op = Op.makeSlice t l c) (n : Nat) {L : Int} (hL : L = n) (hl : a.eval l = .int .i64 L) (hc : a.eval c = .int .i64 L)
    (hn : n ≤ 17592186044415)
    (h : ∀ oo nn k, W.heap.size ≤ k → OwnF e (ext W oo nn) W.heap.size (.slice (some ⟨k, 0, none⟩) n n) (List.replicate n 0) → wpList P ops Q rest (a.put o.dst (.slice (some ⟨k, 0, none⟩) n n)) (ext W oo nn)) :
    wpList P ops Q (o :: rest) a w := by
  obtain ⟨i0, hi, hz0, hz1, hz2⟩ := info_parts T.info
  refine wpList_make_full w hg l c t hop W.heap.size e i0 (.float .f64 0) 1 T.und hi hz0 hz1 .i64 .i64 L L n hl hc hL hL (by rw [hz2]; omega) (by simp [maxLen]; omega) hW.below.size ?_
  intro w' ho hgr
  obtain ⟨oo, nn, rfl⟩ := grew_grown hW hgr (fun k hk => by cases hk)
  refine h oo nn _ hW.below.size ⟨List.replicate n 0, ?_, by simp; right; decide +kernel, fun b hb => by rw [List.eq_of_mem_replicate hb]; decide⟩
  have e1 : (madeCells (Value.float .f64 0).cells (n * 1)).toList = List.map (Value.float .f64) (List.replicate n 0) := by
    apply List.ext_getElem?
    intro k
    simp [madeCells, Value.cells, Nat.mod_one]
    by_cases hk : k < n <;> simp [hk]
  rw [← e1]; simpa using ho
end
end Sedge
end
section
/-
  Lists of floats that are written: the block's cells as they stand; the rest of the world as it was.
-/
set_option linter.unusedSimpArgs false
set_option linter.unusedVariables false
namespace Sedge
open Go Go.RowKit

/-- The world w with the cells of block b replaced. -/
def upd (w : World) (b : Nat) (cs : Array Value) : World := { w with heap := w.heap.modify b fun | .cells _ e f => .cells cs e f | o => o }

section
variable {w : World} {b : Nat} {cs : Array Value}
@[simp, go_sem] theorem size_upd : (upd w b cs).heap.size = w.heap.size := by simp [upd]
theorem block_upd_ne {k : Nat} (h : k ≠ b) : (upd w b cs).heap[k]? = w.heap[k]? := by
  show (w.heap.modify b _)[k]? = _
  rw [Array.getElem?_modify, if_neg (by omega)]
theorem block_upd {c : Array Value} {e : TypeId} {f : Nat × Nat} (h : w.heap[b]? = some (.cells c e f)) : (upd w b cs).heap[b]? = some (.cells cs e f) := by
  show (w.heap.modify b _)[b]? = _
  rw [Array.getElem?_modify, if_pos rfl, h]; rfl
@[go_sem] theorem cell_upd_ne {k i : Nat} (h : k ≠ b) : (upd w b cs).cell? ⟨k, i, none⟩ = w.cell? ⟨k, i, none⟩ := by
  unfold World.cell?; rw [block_upd_ne (by exact h)]
theorem cell_upd_ne' {a : Addr} (h : a.block ≠ b) : (upd w b cs).cell? a = w.cell? a := by
  unfold World.cell?; rw [block_upd_ne h]
@[simp, go_sem] theorem frozen_upd {a : Addr} : (upd w b cs).frozen? a = w.frozen? a := by
  unfold World.frozen?
  by_cases h : a.block = b
  · subst h
    show (match (w.heap.modify a.block _)[a.block]? with | some (.cells _ _ (lo, hi)) => _ | _ => _) = _
    rw [Array.getElem?_modify, if_pos rfl]
    cases w.heap[a.block]? with
    | none => rfl
    | some x => cases x <;> rfl
  · rw [block_upd_ne h]
@[simp, go_sem] theorem upd_upd {cs' : Array Value} : upd (upd w b cs) b cs' = upd w b cs' := by
  unfold upd
  simp only [World.mk.injEq, true_and, and_true]
  apply Array.ext_getElem?
  intro i
  simp only [Array.getElem?_modify]
  split
  · cases w.heap[i]? with
    | none => rfl
    | some x => cases x <;> rfl
  · rfl
@[go_sem] theorem upd_ext {o : Array Obj} {n : Nat} (h : b < w.heap.size) : upd (ext w o n) b cs = ext (upd w b cs) o n := by
  unfold ext upd
  simp only [World.mk.injEq, true_and, and_true]
  apply Array.ext_getElem?
  intro i
  by_cases hi : i < w.heap.size
  · rw [Array.getElem?_append_left (by simpa using hi), Array.getElem?_modify, Array.getElem?_modify, Array.getElem?_append_left hi]
  · rw [Array.getElem?_append_right (by simpa using hi), Array.getElem?_modify, if_neg (by omega), Array.getElem?_append_right (by omega)]
    simp
@[go_sem] theorem setCell_upd {i : Nat} {v : Value} : (upd w b cs).setCell ⟨b, i, none⟩ v = upd w b (cs.setIfInBounds i v) := by
  unfold upd World.setCell
  simp only [World.mk.injEq, true_and, and_true]
  apply Array.ext_getElem?
  intro k
  simp only [Array.getElem?_modify]
  split
  · cases w.heap[k]? with
    | none => rfl
    | some x => cases x <;> rfl
  · rfl
end

/-- The first cells are the floats ws. -/
def CF (cs : Array Value) (ws : List Nat) : Prop := ws.length ≤ cs.size ∧ ∀ i, i < ws.length → ∃ r, cs[i]? = some (.float .f64 r) ∧ IsF r (ws.getD i 0)
theorem CF.set {cs : Array Value} {ws : List Nat} (h : CF cs ws) {i r x : Nat} (hr : IsF r x) : CF (cs.setIfInBounds i (.float .f64 r)) (ws.set i x) := by
  obtain ⟨h1, h2⟩ := h
  refine ⟨by simpa using h1, fun k hk => ?_⟩
  have hk' : k < ws.length := by simpa using hk
  by_cases hik : i = k
  · subst hik
    refine ⟨r, ?_, ?_⟩
    · rw [Array.getElem?_setIfInBounds, if_pos rfl, if_pos (by omega)]
    · simpa [List.getD_eq_getElem?_getD, hk'] using hr
  · obtain ⟨s, h3, h4⟩ := h2 k hk'
    refine ⟨s, ?_, ?_⟩
    · rw [Array.getElem?_setIfInBounds, if_neg hik]; exact h3
    · rw [List.getD_eq_getElem?_getD, List.getElem?_set_ne hik, ← List.getD_eq_getElem?_getD]; exact h4

/-- Block b is a row of cells that may be written; its first ones are ws. -/
def FW (w : World) (b : Nat) (ws : List Nat) : Prop := ∃ c e, w.heap[b]? = some (.cells c e (0, 0)) ∧ CF c ws

section
variable {w : World} {b : Nat} {ws : List Nat}
theorem FW.lt (h : FW w b ws) : b < w.heap.size := by
  obtain ⟨c, e, h1, _⟩ := h
  exact (Array.getElem?_eq_some_iff.1 h1).1
theorem FW.notFrozen (h : FW w b ws) (i : Nat) : w.frozen? ⟨b, i, none⟩ = false := by
  obtain ⟨c, e, h1, _⟩ := h
  unfold World.frozen?
  simp only [h1]
  simp
/-- As it stands. -/
theorem FW.self (h : FW w b ws) : ∃ cs, upd w b cs = w ∧ CF cs ws := by
  obtain ⟨c, e, h1, h2⟩ := h
  refine ⟨c, ?_, h2⟩
  unfold upd
  cases w with | mk hp tp dr os' out => ?_
  simp only [World.mk.injEq, true_and, and_true] at *
  apply Array.ext_getElem?
  intro i
  rw [Array.getElem?_modify]
  split
  · rename_i he; subst he; rw [h1]; rfl
  · rfl
theorem FW.cells (h : FW w b ws) (cs : Array Value) (i : Nat) : (upd w b cs).cell? ⟨b, i, none⟩ = cs[i]? := by
  obtain ⟨c, e, h1, _⟩ := h
  unfold World.cell?
  simp only [block_upd h1]
  simp
theorem FW.mk' (h : FW w b ws) {cs : Array Value} {ws' : List Nat} (hc : CF cs ws') (o : Array Obj) (n : Nat) : FW (ext (upd w b cs) o n) b ws' := by
  have hlt := h.lt
  obtain ⟨c, e, h1, _⟩ := h
  exact ⟨cs, e, by rw [block_ext (by simpa using hlt), block_upd h1], hc⟩
theorem FW.fs (h : FW w b ws) (hl : ws.length ≤ 9223372036854775807) (cap : Nat) : FS w (.slice (some ⟨b, 0, none⟩) ws.length cap) ws := by
  obtain ⟨c, e, h1, h2⟩ := h
  refine ⟨hl, _, cap, rfl, (fun h => by cases h), fun i hi => ?_⟩
  obtain ⟨r, h3, h4⟩ := h2.2 i hi
  refine ⟨b, 0, r, rfl, ?_, h4⟩
  unfold World.cell?
  simp only [h1, Nat.zero_add]
  simpa using h3
theorem FW.same {w' : World} (h : FW w b ws) (hs : w'.heap[b]? = w.heap[b]?) : FW w' b ws := by
  obtain ⟨c, e, h1, h2⟩ := h
  exact ⟨c, e, hs.trans h1, h2⟩
theorem FW.grew {w' : World} (h : FW w b ws) (g : Grew w w') : FW w' b ws := h.same (g.below.block b h.lt)
theorem FW.ext (h : FW w b ws) (o : Array Obj) (n : Nat) : FW (ext w o n) b ws := h.grew ⟨_, _, rfl⟩
theorem FW.alloc (h : FW w b ws) (o : Obj) : FW (w.alloc o) b ws := h.grew ((Grew.refl _).alloc o)
theorem FW.upd_ne (h : FW w b ws) {k : Nat} (hk : b ≠ k) (cs : Array Value) : FW (upd w k cs) b ws := h.same (block_upd_ne hk)
end

/-- v does not lie in block b. -/
def NotIn (b : Nat) (v : Value) : Prop := ∀ a l c, v = .slice (some a) l c → a.block ≠ b
theorem FS.upd_ne {w : World} {v : Value} {ws : List Nat} (h : FS w v ws) {b : Nat} (hn : NotIn b v) (cs : Array Value) : FS (upd w b cs) v ws := by
  obtain ⟨hl, a, cap, hv, h0, hc⟩ := h
  refine ⟨hl, a, cap, hv, h0, fun i hi => ?_⟩
  obtain ⟨blk, o, r, he, h1, h2⟩ := hc i hi
  refine ⟨blk, o, r, he, ?_, h2⟩
  rw [cell_upd_ne (by exact hn ⟨blk, o, none⟩ _ _ (by rw [hv, he]))]
  exact h1
theorem OwnF.fw {e : TypeId} {w : World} {B : Nat} {v : Value} {xs : List Nat} (h : OwnF e w B v xs) (hn : v ≠ .slice none 0 0) :
    ∃ g cap, v = .slice (some ⟨g, 0, none⟩) xs.length cap ∧ B ≤ g ∧ FW w g xs := by
  obtain ⟨bs, ⟨_, h1⟩, rfl, hb⟩ := h
  rcases h1 with ⟨h1, _⟩ | ⟨g, cap, cur, rfl, hB, hh, hn, hm, hsz, ht⟩
  · exact absurd h1 hn
  · refine ⟨g, cap, by simp, hB, cur, e, hh, by simp; omega, fun i hi => ?_⟩
    have hi' : i < bs.length := by simpa using hi
    rw [Nat.mul_one] at ht
    have h2 := take_getElem? (i := i) ht (by simpa using hi')
    have hm : bs.getD i 0 ∈ bs := by rw [List.getD_eq_getElem?_getD, List.getElem?_eq_getElem hi']; exact List.getElem_mem hi'
    refine ⟨bs.getD i 0, ?_, hb _ hm, ?_⟩
    · rw [← Array.getElem?_toList, h2]; simp [List.getD_eq_getElem?_getD, hi']
    · simp [List.getD_eq_getElem?_getD, hi']
/-- A slice of our own that may be written: its block lies at B or behind; it reads as ws. -/
def WS (w : World) (B : Nat) (v : Value) (ws : List Nat) : Prop := ∃ g cap, v = .slice (some ⟨g, 0, none⟩) ws.length cap ∧ B ≤ g ∧ FW w g ws ∧ ws.length ≤ 9223372036854775807
theorem OwnF.ws {e : TypeId} {w : World} {B : Nat} {v : Value} {xs : List Nat} (h : OwnF e w B v xs) (hn : v ≠ .slice none 0 0) (hl : xs.length ≤ 9223372036854775807) : WS w B v xs := by
  obtain ⟨g, cap, h1, h2, h3⟩ := h.fw hn
  exact ⟨g, cap, h1, h2, h3, hl⟩
theorem WS.fs {w : World} {B : Nat} {v : Value} {xs : List Nat} (h : WS w B v xs) : FS w v xs := by
  obtain ⟨g, cap, rfl, _, h3, h4⟩ := h
  exact h3.fs h4 cap
theorem WS.grew {w w' : World} {B : Nat} {v : Value} {xs : List Nat} (h : WS w B v xs) (g : Grew w w') : WS w' B v xs := by
  obtain ⟨k, cap, h1, h2, h3, h4⟩ := h
  exact ⟨k, cap, h1, h2, h3.grew g, h4⟩
theorem WS.ext {w : World} {B : Nat} {v : Value} {xs : List Nat} (h : WS w B v xs) (o : Array Obj) (n : Nat) : WS (ext w o n) B v xs := h.grew ⟨_, _, rfl⟩
theorem WS.alloc {w : World} {B : Nat} {v : Value} {xs : List Nat} (h : WS w B v xs) (o : Obj) : WS (w.alloc o) B v xs := h.grew ((Grew.refl _).alloc o)
theorem WS.mono {w : World} {B C : Nat} {v : Value} {xs : List Nat} (h : WS w B v xs) (hc : C ≤ B) : WS w C v xs := by
  obtain ⟨k, cap, h1, h2, h3, h4⟩ := h
  exact ⟨k, cap, h1, Nat.le_trans hc h2, h3, h4⟩
theorem Grew.upd {W w : World} {b : Nat} (h : Grew W w) (hb : W.heap.size ≤ b) (cs : Array Value) : Grew W (upd w b cs) := by
  refine Grew.of_below ?_
  have := h.below
  exact ⟨this.os, this.tape, this.output, by simpa using this.size, fun k hk => by rw [block_upd_ne (by omega)]; exact this.block k hk⟩
theorem Grew.setCell {W w : World} {a : Addr} (h : Grew W w) (hb : W.heap.size ≤ a.block) (v : Value) : Grew W (w.setCell a v) := by
  refine Grew.of_below ?_
  have := h.below
  refine ⟨this.os, this.tape, this.output, by simpa [World.setCell] using this.size, fun k hk => ?_⟩
  rw [← this.block k hk]
  show (w.heap.modify _ _)[k]? = _
  rw [Array.getElem?_modify, if_neg (by omega)]
/-- A write elsewhere. -/
theorem FW.setCell_ne {w : World} {b : Nat} {ws : List Nat} (h : FW w b ws) {a : Addr} (hb : a.block ≠ b) (v : Value) : FW (w.setCell a v) b ws := h.same (by
  show (w.heap.modify _ _)[b]? = _
  rw [Array.getElem?_modify, if_neg hb])
theorem WS.setCell {w : World} {B : Nat} {v : Value} {xs : List Nat} (h : WS w B v xs) {a : Addr} (hb : a.block < B) (u : Value) : WS (w.setCell a u) B v xs := by
  obtain ⟨k, cap, h1, h2, h3, h4⟩ := h
  exact ⟨k, cap, h1, h2, h3.setCell_ne (by omega) u, h4⟩
theorem OwnF.made {e : TypeId} {w : World} {B k n c : Nat} {xs : List Nat} (h : OwnF e w B (.slice (some ⟨k, 0, none⟩) n c) xs) : FW w k xs := by
  obtain ⟨g, cap, he, hB, hF⟩ := h.fw (by intro h; cases h)
  have := (Value.slice.inj he).1
  have e2 : k = g := congrArg (fun o : Option Addr => match o with | some a => a.block | none => 0) this
  rw [e2]; exact hF
theorem size_setCell' {w : World} {a : Addr} {v : Value} : (w.setCell a v).heap.size = w.heap.size := by simp [World.setCell]
theorem FW.ext_set {w : World} {b : Nat} {ws : List Nat} {o : Array Obj} {n : Nat} (h : FW (Sedge.ext w o n) b ws) {a : Addr} (h1 : a.block < w.heap.size) (h2 : a.block ≠ b) (v : Value) : FW (Sedge.ext (w.setCell a v) o n) b ws := by
  rw [← setCell_ext' h1]
  exact h.setCell_ne h2 v
/-- From w to w' the list in block g was written, and new blocks laid. -/
def Wrote (w w' : World) (g : Nat) (ws : List Nat) : Prop := ∃ cs o n, w' = Sedge.ext (upd w g cs) o n ∧ CF cs ws
theorem Wrote.refl {w : World} {g : Nat} {ws : List Nat} (h : FW w g ws) : Wrote w w g ws := by
  obtain ⟨cs, h1, h2⟩ := h.self
  exact ⟨cs, #[], _, by rw [h1]; exact ext_zero.symm, h2⟩
theorem Wrote.fw {w w' : World} {g : Nat} {ws ws' : List Nat} (h : Wrote w w' g ws') (hF : FW w g ws) : FW w' g ws' := by
  obtain ⟨cs, o, n, rfl, h2⟩ := h
  exact hF.mk' h2 o n
theorem Wrote.grew_r {w w' w'' : World} {g : Nat} {ws : List Nat} (h : Wrote w w' g ws) (k : Grew w' w'') : Wrote w w'' g ws := by
  obtain ⟨cs, o, n, rfl, h2⟩ := h
  obtain ⟨o', n', rfl⟩ := k
  exact ⟨cs, _, _, ext_ext, h2⟩
theorem Wrote.grew_l {w w' w'' : World} {g : Nat} {ws : List Nat} (k : Grew w w') (hg : g < w.heap.size) (h : Wrote w' w'' g ws) : Wrote w w'' g ws := by
  obtain ⟨o', n', rfl⟩ := k
  obtain ⟨cs, o, n, rfl, h2⟩ := h
  exact ⟨cs, _, _, by rw [upd_ext hg, ext_ext], h2⟩
theorem Wrote.trans {w w' w'' : World} {g : Nat} {ws ws' : List Nat} (h : Wrote w w' g ws) (hg : g < w.heap.size) (k : Wrote w' w'' g ws') : Wrote w w'' g ws' := by
  obtain ⟨cs, o, n, rfl, h2⟩ := h
  obtain ⟨cs', o', n', rfl, h2'⟩ := k
  exact ⟨cs', _, _, by rw [upd_ext (by simpa using hg), upd_upd, ext_ext], h2'⟩
theorem Wrote.grew {W w w' : World} {g : Nat} {ws : List Nat} (h : Wrote w w' g ws) (hW : Grew W w) (hg : W.heap.size ≤ g) : Grew W w' := by
  obtain ⟨cs, o, n, rfl, h2⟩ := h
  exact (hW.upd hg cs).ext _ _
theorem Wrote.fs {w w' : World} {g : Nat} {ws : List Nat} (h : Wrote w w' g ws) {v : Value} {us : List Nat} (hv : FS w v us) (hn : NotIn g v) : FS w' v us := by
  obtain ⟨cs, o, n, rfl, h2⟩ := h
  exact (hv.upd_ne hn cs).ext o n
theorem Wrote.fw_ne {w w' : World} {g : Nat} {ws : List Nat} (h : Wrote w w' g ws) {k : Nat} {us : List Nat} (hv : FW w k us) (hn : k ≠ g) : FW w' k us := by
  obtain ⟨cs, o, n, rfl, h2⟩ := h
  exact (hv.upd_ne hn cs).ext o n
theorem FW.get {w : World} {g : Nat} {ws : List Nat} (h : FW w g ws) {i : Nat} (hi : i < ws.length) : ∃ r, w.cell? ⟨g, i, none⟩ = some (.float .f64 r) ∧ IsF r (ws.getD i 0) := by
  obtain ⟨c, e, h1, h2⟩ := h
  obtain ⟨r, h3, h4⟩ := h2.2 i hi
  exact ⟨r, by unfold World.cell?; simp only [h1]; simpa using h3, h4⟩
/-- The store of a float. -/
@[go_sem] theorem run_store_float {P : Program} {w : World} {a : Addr} {m : Mode} (k : FloatKind) (b : Nat) : (store a (.float k b) m).run P w = stored P w a (.float k b) m := run_store P w a _ m rfl
theorem Grew.cell {W V : World} (h : Grew W V) {b i : Nat} (hb : b < W.heap.size) : V.cell? ⟨b, i, none⟩ = W.cell? ⟨b, i, none⟩ := h.below.cell (p := ⟨b, i, none⟩) hb
theorem Grew.frozen {W V : World} (h : Grew W V) {b i : Nat} (hb : b < W.heap.size) : V.frozen? ⟨b, i, none⟩ = W.frozen? ⟨b, i, none⟩ := h.below.frozen (p := ⟨b, i, none⟩) hb
/-- w is V with block g written, and new blocks. -/
def Over (V : World) (g : Nat) (w : World) : Prop := ∃ cs o n, w = Sedge.ext (upd V g cs) o n
/-- One write. -/
theorem FW.set {w : World} {g : Nat} {ws : List Nat} (h : FW w g ws) {k r x : Nat} (hr : IsF r x) : ∃ cs, w.setCell ⟨g, k, none⟩ (.float .f64 r) = upd w g cs ∧ CF cs (ws.set k x) := by
  obtain ⟨cs, h1, h2⟩ := h.self
  exact ⟨cs.setIfInBounds k (.float .f64 r), by rw [← setCell_upd, h1], h2.set hr⟩
theorem FW.wrote {w : World} {g : Nat} {ws : List Nat} (h : FW w g ws) {k r x : Nat} (hr : IsF r x) : Wrote w (w.setCell ⟨g, k, none⟩ (.float .f64 r)) g (ws.set k x) := by
  obtain ⟨cs, h1, h2⟩ := h.set (k := k) hr
  exact ⟨cs, #[], _, by rw [h1]; exact ext_zero.symm, h2⟩
/-- Writes, one behind the other: at p k the number f k. -/
def writes (l : List Nat) (p f : Nat → Nat) : Nat → List Nat
  | 0 => l
  | k + 1 => (writes l p f k).set (p k) (f k)
@[simp] theorem writes_length (l : List Nat) (p f : Nat → Nat) : ∀ k, (writes l p f k).length = l.length
  | 0 => rfl
  | k + 1 => by unfold writes; rw [List.length_set, writes_length l p f k]
/-- The world of the goal, named. -/
theorem name_any {p : World → Prop} {w : World} (h : ∀ W, w = W → p W) : p w := h w rfl
theorem name_call {P : Program} {f : FuncId} {args : Array Value} {post : Ending → World → Prop} {w : World} (h : ∀ W, w = W → Calls P f args W post) : Calls P f args w post := h w rfl
end Sedge
end
section
/-
  Contracts: whether vectors and matrices are right (layer 3 and its reference).
-/
set_option linter.unusedSimpArgs false
set_option linter.unusedVariables false
open Go Go.RowKit Sedge
namespace Go.Proofs.Ytcmggfpcbijcjaa

theorem fitsB_eq (size off steps step more : Int) (h1 : 0 ≤ off) (h5 : 1 ≤ step) :
   decide (steps ≤ (size - 1 - off - more) / step) = fitsB size off steps step more := by
  unfold fitsB
  have : steps ≤ (size - 1 - off - more) / step ↔ steps * step ≤ size - 1 - off - more := Int.le_ediv_iff_mul_le (by omega)
  simp only [this]
  congr 1
  simp only [eq_iff_iff]
  constructor
  · intro h; exact ⟨h1, by omega⟩
  · intro h; omega
theorem fitsB_no (size off steps step more : Int) (h4 : 0 ≤ steps) (h5 : 1 ≤ step) (h6 : 0 ≤ more) (h : size ≤ off + more) : fitsB size off steps step more = false := by
  unfold fitsB
  have : 0 ≤ steps * step := Int.mul_nonneg h4 (by omega)
  simp; omega
theorem fitsB_swap (size off steps step more : Int) (h1 : 0 ≤ off) (h4 : 1 ≤ steps) :
   decide (step ≤ (size - off - more - 1) / steps) = fitsB size off steps step more := by
  unfold fitsB
  have : step ≤ (size - off - more - 1) / steps ↔ step * steps ≤ size - off - more - 1 := Int.le_ediv_iff_mul_le (by omega)
  simp only [this]
  congr 1
  simp only [eq_iff_iff]
  rw [Int.mul_comm step steps]
  constructor
  · intro h; exact ⟨h1, by omega⟩
  · intro h; omega

set_option maxHeartbeats 400000 in
theorem fits_any (size off steps step more : Int) (w : World) (h0 : 0 ≤ size) (h0' : size ≤ 9223372036854775807) (h1 : 0 ≤ off) (h1' : off ≤ 9223372036854775807) (h4 : 0 ≤ steps) (h5 : 1 ≤ step) (h6 : 0 ≤ more) (h6' : more ≤ 9223372036854775807) :
   Calls Try.prog 193 #[.int .i64 size, .int .i64 off, .int .i64 steps, .int .i64 step, .int .i64 more] w (fun e w' => e = .returned (.bool (fitsB size off steps step more)) ∧ w = w') := by
  by_cases h2 : off < size
  · by_cases h3 : more < size - off
    · go_enter Try.func193, Try.ntmps193
      go_wp2
      go_ret
      exact ⟨by simp [fitsB_eq, *], rfl⟩
    · go_enter Try.func193, Try.ntmps193
      go_wp2
      go_ret
      exact ⟨by rw [fitsB_no] <;> first | rfl | omega, rfl⟩
  · go_enter Try.func193, Try.ntmps193
    go_wp2
    go_ret
    exact ⟨by rw [fitsB_no] <;> first | rfl | omega, rfl⟩

/-- straightedgeref03.within (a is the number of steps, b a step). -/
theorem within_any (size off steps step more : Int) (w : World) (h0 : 0 ≤ size) (h0' : size ≤ 9223372036854775807) (h1 : 0 ≤ off) (h1' : off ≤ 9223372036854775807) (h4 : 0 ≤ steps) (h5 : 1 ≤ step) (h6 : 0 ≤ more) (h6' : more ≤ 9223372036854775807) (h7 : steps ≤ 9223372036854775807) :
   Calls Try.prog 133 #[.int .i64 size, .int .i64 off, .int .i64 steps, .int .i64 step, .int .i64 more] w (fun e w' => e = .returned (.bool (fitsB size off steps step more)) ∧ w = w') := by
  by_cases h2 : off < size
  · by_cases h3 : more < size - off
    · by_cases h8 : steps = 0
      · subst h8
        go_enter Try.func133, Try.ntmps133
        go_wp2
        go_ret
        exact ⟨by simp [fitsB]; omega, rfl⟩
      · have h8' : (steps == 0) = false := by simpa using h8
        go_enter Try.func133, Try.ntmps133
        go_wp2
        go_ret
        exact ⟨by rw [fitsB_swap] <;> first | rfl | omega, rfl⟩
    · go_enter Try.func133, Try.ntmps133
      go_wp2
      go_ret
      exact ⟨by rw [fitsB_no] <;> first | rfl | omega, rfl⟩
  · go_enter Try.func133, Try.ntmps133
    go_wp2
    go_ret
    exact ⟨by rw [fitsB_no] <;> first | rfl | omega, rfl⟩

set_option maxHeartbeats 400000 in
theorem right_any (x : VecM) (D : Value) (w : World) (hD : FS w D x.ws) (hwf : x.wf) :
   Calls Try.prog 135 #[.agg #[D, .int .i64 x.off, .int .i64 x.n, .int .i64 x.inc]] w (fun e w' => e = .returned (.bool x.right) ∧ ∃ o n, w' = ext w o n) := by
  obtain ⟨ws, off, n, inc⟩ := x
  obtain ⟨a, cap, rfl⟩ := hD.shape
  have hl := hD.len
  simp only [VecM.wf, I64] at hwf hD hl ⊢
  obtain ⟨⟨_, _⟩, ⟨_, _⟩, ⟨_, _⟩⟩ := hwf
  by_cases k1 : n < 0
  · go_enter Try.func135, Try.ntmps135
    go_wp2
    go_ret
    exact ⟨by simp [VecM.right]; omega, (Grew.refl _).alloc _⟩
  by_cases k2 : inc < 1
  · go_enter Try.func135, Try.ntmps135
    go_wp2
    go_ret
    exact ⟨by simp [VecM.right]; omega, (Grew.refl _).alloc _⟩
  by_cases k3 : off < 0
  · go_enter Try.func135, Try.ntmps135
    go_wp2
    go_ret
    exact ⟨by simp [VecM.right]; omega, (Grew.refl _).alloc _⟩
  by_cases k4 : n = 0
  · subst k4
    go_enter Try.func135, Try.ntmps135
    go_wp2
    go_ret
    exact ⟨by simp [VecM.right]; omega, (Grew.refl _).alloc _⟩
  · have k4' : (n == 0) = false := by simpa using k4
    go_enter Try.func135, Try.ntmps135
    go_wp2_with (go_at_call 193; refine (fits_any _ _ _ _ _ _ (by omega) (by omega) (by omega) (by omega) (by omega) (by omega) (by omega) (by omega)).mono ?_; rintro e w' ⟨rfl, rfl⟩)
    go_ret
    exact ⟨by simp [VecM.right, k4]; omega, (Grew.refl _).alloc _⟩

set_option maxHeartbeats 400000 in
theorem rright_any (x : VecM) (D : Value) (w : World) (hD : FS w D x.ws) (hwf : x.wf) :
   Calls Try.prog 56 #[.agg #[D, .int .i64 x.off, .int .i64 x.n, .int .i64 x.inc]] w (fun e w' => e = .returned (.bool x.right) ∧ ∃ o n, w' = ext w o n) := by
  obtain ⟨ws, off, n, inc⟩ := x
  obtain ⟨a, cap, rfl⟩ := hD.shape
  have hl := hD.len
  simp only [VecM.wf, I64] at hwf hD hl ⊢
  obtain ⟨⟨_, _⟩, ⟨_, _⟩, ⟨_, _⟩⟩ := hwf
  by_cases k1 : n < 0
  · go_enter Try.func56, Try.ntmps56
    go_wp2
    go_ret
    exact ⟨by simp [VecM.right]; omega, (Grew.refl _).alloc _⟩
  by_cases k2 : inc < 1
  · go_enter Try.func56, Try.ntmps56
    go_wp2
    go_ret
    exact ⟨by simp [VecM.right]; omega, (Grew.refl _).alloc _⟩
  by_cases k3 : off < 0
  · go_enter Try.func56, Try.ntmps56
    go_wp2
    go_ret
    exact ⟨by simp [VecM.right]; omega, (Grew.refl _).alloc _⟩
  by_cases k4 : n = 0
  · subst k4
    go_enter Try.func56, Try.ntmps56
    go_wp2
    go_ret
    exact ⟨by simp [VecM.right]; omega, (Grew.refl _).alloc _⟩
  · have k4' : (n == 0) = false := by simpa using k4
    go_enter Try.func56, Try.ntmps56
    go_wp2_with (go_at_call 133; refine (within_any _ _ _ _ _ _ (by omega) (by omega) (by omega) (by omega) (by omega) (by omega) (by omega) (by omega) (by omega)).mono ?_; rintro e w' ⟨rfl, rfl⟩)
    go_ret
    exact ⟨by simp [VecM.right, k4]; omega, (Grew.refl _).alloc _⟩

set_option maxHeartbeats 1000000 in
theorem good_any (x : MatM) (D : Value) (w : World) (hD : FS w D x.ws) (hwf : x.wf) :
   Calls Try.prog 130 #[.agg #[D, .int .i64 x.off, .int .i64 x.rows, .int .i64 x.cols, .int .i64 x.ld]] w (fun e w' => e = .returned (.bool x.good) ∧ ∃ o n, w' = ext w o n) := by
  obtain ⟨ws, off, rows, cols, ld⟩ := x
  obtain ⟨a, cap, rfl⟩ := hD.shape
  have hl := hD.len
  simp only [MatM.wf, I64] at hwf hD hl ⊢
  obtain ⟨⟨_, _⟩, ⟨_, _⟩, ⟨_, _⟩, ⟨_, _⟩⟩ := hwf
  by_cases k1 : rows < 0
  · go_enter Try.func130, Try.ntmps130
    go_wp2
    go_ret
    exact ⟨by simp [MatM.good]; omega, (Grew.refl _).alloc _⟩
  by_cases k2 : cols < 0
  · go_enter Try.func130, Try.ntmps130
    go_wp2
    go_ret
    exact ⟨by simp [MatM.good]; omega, (Grew.refl _).alloc _⟩
  by_cases k3 : off < 0
  · go_enter Try.func130, Try.ntmps130
    go_wp2
    go_ret
    exact ⟨by simp [MatM.good]; omega, (Grew.refl _).alloc _⟩
  by_cases k4 : ld < 1
  · go_enter Try.func130, Try.ntmps130
    go_wp2
    go_ret
    exact ⟨by simp [MatM.good]; omega, (Grew.refl _).alloc _⟩
  by_cases k5 : ld < rows
  · go_enter Try.func130, Try.ntmps130
    go_wp2
    go_ret
    exact ⟨by simp [MatM.good]; omega, (Grew.refl _).alloc _⟩
  by_cases k6 : rows = 0
  · subst k6
    go_enter Try.func130, Try.ntmps130
    go_wp2
    go_ret
    exact ⟨by simp [MatM.good]; omega, (Grew.refl _).alloc _⟩
  have k6' : (rows == 0) = false := by simpa using k6
  by_cases k7 : cols = 0
  · subst k7
    go_enter Try.func130, Try.ntmps130
    go_wp2
    go_ret
    exact ⟨by simp [MatM.good]; omega, (Grew.refl _).alloc _⟩
  · have k7' : (cols == 0) = false := by simpa using k7
    go_enter Try.func130, Try.ntmps130
    go_wp2_with (go_at_call 193; refine (fits_any _ _ _ _ _ _ (by omega) (by omega) (by omega) (by omega) (by omega) (by omega) (by omega) (by omega)).mono ?_; rintro e w' ⟨rfl, rfl⟩)
    go_ret
    exact ⟨by simp [MatM.good, k6, k7]; omega, (Grew.refl _).alloc _⟩

set_option maxHeartbeats 1000000 in
theorem rgood_any (x : MatM) (D : Value) (w : World) (hD : FS w D x.ws) (hwf : x.wf) :
   Calls Try.prog 46 #[.agg #[D, .int .i64 x.off, .int .i64 x.rows, .int .i64 x.cols, .int .i64 x.ld]] w (fun e w' => e = .returned (.bool x.good) ∧ ∃ o n, w' = ext w o n) := by
  obtain ⟨ws, off, rows, cols, ld⟩ := x
  obtain ⟨a, cap, rfl⟩ := hD.shape
  have hl := hD.len
  simp only [MatM.wf, I64] at hwf hD hl ⊢
  obtain ⟨⟨_, _⟩, ⟨_, _⟩, ⟨_, _⟩, ⟨_, _⟩⟩ := hwf
  by_cases k1 : rows < 0
  · go_enter Try.func46, Try.ntmps46
    go_wp2
    go_ret
    exact ⟨by simp [MatM.good]; omega, (Grew.refl _).alloc _⟩
  by_cases k2 : cols < 0
  · go_enter Try.func46, Try.ntmps46
    go_wp2
    go_ret
    exact ⟨by simp [MatM.good]; omega, (Grew.refl _).alloc _⟩
  by_cases k4 : ld < 1
  · go_enter Try.func46, Try.ntmps46
    go_wp2
    go_ret
    exact ⟨by simp [MatM.good]; omega, (Grew.refl _).alloc _⟩
  by_cases k5 : ld < rows
  · go_enter Try.func46, Try.ntmps46
    go_wp2
    go_ret
    exact ⟨by simp [MatM.good]; omega, (Grew.refl _).alloc _⟩
  by_cases k3 : off < 0
  · go_enter Try.func46, Try.ntmps46
    go_wp2
    go_ret
    exact ⟨by simp [MatM.good]; omega, (Grew.refl _).alloc _⟩
  by_cases k6 : rows = 0
  · subst k6
    go_enter Try.func46, Try.ntmps46
    go_wp2
    go_ret
    exact ⟨by simp [MatM.good]; omega, (Grew.refl _).alloc _⟩
  have k6' : (rows == 0) = false := by simpa using k6
  by_cases k7 : cols = 0
  · subst k7
    go_enter Try.func46, Try.ntmps46
    go_wp2
    go_ret
    exact ⟨by simp [MatM.good]; omega, (Grew.refl _).alloc _⟩
  · have k7' : (cols == 0) = false := by simpa using k7
    go_enter Try.func46, Try.ntmps46
    go_wp2_with (go_at_call 133; refine (within_any _ _ _ _ _ _ (by omega) (by omega) (by omega) (by omega) (by omega) (by omega) (by omega) (by omega) (by omega)).mono ?_; rintro e w' ⟨rfl, rfl⟩)
    go_ret
    exact ⟨by simp [MatM.good, k6, k7]; omega, (Grew.refl _).alloc _⟩

/-- straightedgeref03.Great. -/
def MatM.great (m : MatM) : Bool := decide (1000 < (m.ws.length : Int)) || decide (20 < m.rows) || decide (20 < m.cols)
theorem great_any (x : MatM) (D : Value) (w : World) (hD : FS w D x.ws) :
   Calls Try.prog 42 #[.agg #[D, .int .i64 x.off, .int .i64 x.rows, .int .i64 x.cols, .int .i64 x.ld]] w (fun e w' => e = .returned (.bool (MatM.great x)) ∧ ∃ o n, w' = ext w o n) := by
  obtain ⟨ws, off, rows, cols, ld⟩ := x
  obtain ⟨a, cap, rfl⟩ := hD.shape
  have hl := hD.len
  simp only [] at hD hl ⊢
  by_cases k1 : (1000 : Int) < ws.length
  · go_enter Try.func42, Try.ntmps42
    go_wp2
    go_ret
    exact ⟨by simp [MatM.great]; omega, (Grew.refl _).alloc _⟩
  by_cases k2 : 20 < rows
  · go_enter Try.func42, Try.ntmps42
    go_wp2
    go_ret
    exact ⟨by simp [MatM.great]; omega, (Grew.refl _).alloc _⟩
  · go_enter Try.func42, Try.ntmps42
    go_wp2
    go_ret
    exact ⟨by simp [MatM.great]; omega, (Grew.refl _).alloc _⟩
/-- straightedgeref03.Long. -/
def VecM.long (m : VecM) : Bool := decide (1000 < (m.ws.length : Int)) || decide (60 < m.n)
theorem long_any (x : VecM) (D : Value) (w : World) (hD : FS w D x.ws) :
   Calls Try.prog 53 #[.agg #[D, .int .i64 x.off, .int .i64 x.n, .int .i64 x.inc]] w (fun e w' => e = .returned (.bool (VecM.long x)) ∧ ∃ o n, w' = ext w o n) := by
  obtain ⟨ws, off, n, inc⟩ := x
  obtain ⟨a, cap, rfl⟩ := hD.shape
  have hl := hD.len
  simp only [] at hD hl ⊢
  by_cases k1 : (1000 : Int) < ws.length
  · go_enter Try.func53, Try.ntmps53
    go_wp2
    go_ret
    exact ⟨by simp [VecM.long]; omega, (Grew.refl _).alloc _⟩
  · go_enter Try.func53, Try.ntmps53
    go_wp2
    go_ret
    exact ⟨by simp [VecM.long]; omega, (Grew.refl _).alloc _⟩
end Go.Proofs.Ytcmggfpcbijcjaa
end
section
/-
  Contracts: lists of one's own (reference of layers 1 and 3): copies, tables of noughts.
-/
set_option linter.unusedSimpArgs false
set_option linter.unusedVariables false
open Go Go.RowKit Sedge
namespace Go.Proofs.Ytcmggfpcbijcjaa
theorem finfo : ElemF Try.prog 24 22 := ⟨by kernel_rfl, by kernel_rfl⟩
theorem notnil {b c n : Nat} {o} : Value.slice (some ⟨b, o, none⟩) n c ≠ .slice none 0 0 := by intro h; cases h
/-- straightedgeref03.Apart. -/
theorem apart_any (x : MatM) (D : Value) (w : World) (hD : FS w D x.ws) (hl : x.ws.length ≤ 1000000) :
   Calls Try.prog 43 #[.agg #[D, .int .i64 x.off, .int .i64 x.rows, .int .i64 x.cols, .int .i64 x.ld]] w
    (fun e w' => ∃ v, e = .returned (.agg #[v, .int .i64 x.off, .int .i64 x.rows, .int .i64 x.cols, .int .i64 x.ld]) ∧ WS w' w.heap.size v x.ws ∧ ∃ o n, w' = ext w o n) := by
  go_enter Try.func43, Try.ntmps43
  refine seq_stop ?_
  go_wp2
  refine stop_go (fun W hW => ?_)
  have s1 : w.heap.size < W.heap.size := by rw [hW]; simp only [World.size_alloc]; omega
  have b1 : ∀ i, W.cell? ⟨w.heap.size, i, none⟩ = (#[D, .int .i64 x.off, .int .i64 x.rows, .int .i64 x.cols, .int .i64 x.ld] : Array Value)[i]? := by intro i; rw [hW]; go_simp
  have f1 : ∀ i, W.frozen? ⟨w.heap.size, i, none⟩ = false := by intro i; rw [hW]; go_simp
  have s2 : w.heap.size + 1 < W.heap.size := by rw [hW]; simp only [World.size_alloc]; omega
  have b2 : ∀ i, W.cell? ⟨w.heap.size + 1, i, none⟩ = (#[.slice none 0 0, .int .i64 0, .int .i64 0, .int .i64 0, .int .i64 0] : Array Value)[i]? := by intro i; rw [hW]; go_simp
  have f2 : ∀ i, W.frozen? ⟨w.heap.size + 1, i, none⟩ = false := by intro i; rw [hW]; go_simp
  have g0 : Grew w W := by rw [hW]; exact ((Grew.refl _).alloc _).alloc _
  clear hW
  have hDW : FS W D x.ws := hD.grew g0
  go_wp2_with (at_builtin; refine appendN_f finfo (Grew.refl W |>.alloc _) (OwnF.empty rfl (Nat.le_refl _)) (FS.alloc hDW _) (by simp; omega) _ _ rfl rfl rfl rfl ?_; intro v oo nn ho hn; obtain ⟨g, cap, rfl, hg, hF, hL⟩ := ho.ws (hn notnil) (by simp; omega); simp only [List.nil_append] at hF hL)
  refine bodyPost_ret (v := .agg #[.slice (some ⟨g, 0, none⟩) x.ws.length cap, .int .i64 x.off, .int .i64 x.rows, .int .i64 x.cols, .int .i64 x.ld]) (by simp [results, Try.results43, go_sem, *]) rfl ?_
  exact ⟨_, rfl, ⟨g, cap, rfl, by omega, by (repeat (first | (with_reducible assumption) | ((with_reducible refine FW.ext_set ?_ ?_ ?_ _); rotate_left; (focus (simp only [size_setCell', World.size_alloc, size_ext, size_upd]; omega)); (focus (dsimp only; omega))) | ((with_reducible refine FW.setCell_ne ?_ ?_ _); rotate_left; (focus (dsimp only; omega))) | (with_reducible refine FW.ext ?_ _ _) | (with_reducible refine FW.alloc ?_ _))), hL⟩, by (show Grew _ _; repeat (first | (with_reducible exact Grew.refl _) | (with_reducible assumption) | (with_reducible refine Grew.ext ?_ _ _) | (with_reducible refine Grew.alloc ?_ _) | ((with_reducible refine Grew.setCell ?_ ?_ _); rotate_left; (focus (dsimp only; first | omega | (simp only [size_ext, World.size_alloc, Array.size_append]; omega)))) | (with_reducible refine Grew.drewN ?_ _) | (with_reducible refine Grew.drew ?_)))⟩
/-- straightedgeref03.Alone. -/
theorem alone_any (x : VecM) (D : Value) (w : World) (hD : FS w D x.ws) (hl : x.ws.length ≤ 1000000) :
   Calls Try.prog 54 #[.agg #[D, .int .i64 x.off, .int .i64 x.n, .int .i64 x.inc]] w
    (fun e w' => ∃ v, e = .returned (.agg #[v, .int .i64 x.off, .int .i64 x.n, .int .i64 x.inc]) ∧ WS w' w.heap.size v x.ws ∧ ∃ o n, w' = ext w o n) := by
  go_enter Try.func54, Try.ntmps54
  refine seq_stop ?_
  go_wp2
  refine stop_go (fun W hW => ?_)
  have s1 : w.heap.size < W.heap.size := by rw [hW]; simp only [World.size_alloc]; omega
  have b1 : ∀ i, W.cell? ⟨w.heap.size, i, none⟩ = (#[D, .int .i64 x.off, .int .i64 x.n, .int .i64 x.inc] : Array Value)[i]? := by intro i; rw [hW]; go_simp
  have f1 : ∀ i, W.frozen? ⟨w.heap.size, i, none⟩ = false := by intro i; rw [hW]; go_simp
  have s2 : w.heap.size + 1 < W.heap.size := by rw [hW]; simp only [World.size_alloc]; omega
  have b2 : ∀ i, W.cell? ⟨w.heap.size + 1, i, none⟩ = (#[.slice none 0 0, .int .i64 0, .int .i64 0, .int .i64 0] : Array Value)[i]? := by intro i; rw [hW]; go_simp
  have f2 : ∀ i, W.frozen? ⟨w.heap.size + 1, i, none⟩ = false := by intro i; rw [hW]; go_simp
  have g0 : Grew w W := by rw [hW]; exact ((Grew.refl _).alloc _).alloc _
  clear hW
  have hDW : FS W D x.ws := hD.grew g0
  go_wp2_with (at_builtin; refine appendN_f finfo (Grew.refl W |>.alloc _) (OwnF.empty rfl (Nat.le_refl _)) (FS.alloc hDW _) (by simp; omega) _ _ rfl rfl rfl rfl ?_; intro v oo nn ho hn; obtain ⟨g, cap, rfl, hg, hF, hL⟩ := ho.ws (hn notnil) (by simp; omega); simp only [List.nil_append] at hF hL)
  refine bodyPost_ret (v := .agg #[.slice (some ⟨g, 0, none⟩) x.ws.length cap, .int .i64 x.off, .int .i64 x.n, .int .i64 x.inc]) (by simp [results, Try.results54, go_sem, *]) rfl ?_
  exact ⟨_, rfl, ⟨g, cap, rfl, by omega, by (repeat (first | (with_reducible assumption) | ((with_reducible refine FW.ext_set ?_ ?_ ?_ _); rotate_left; (focus (simp only [size_setCell', World.size_alloc, size_ext, size_upd]; omega)); (focus (dsimp only; omega))) | ((with_reducible refine FW.setCell_ne ?_ ?_ _); rotate_left; (focus (dsimp only; omega))) | (with_reducible refine FW.ext ?_ _ _) | (with_reducible refine FW.alloc ?_ _))), hL⟩, by (show Grew _ _; repeat (first | (with_reducible exact Grew.refl _) | (with_reducible assumption) | (with_reducible refine Grew.ext ?_ _ _) | (with_reducible refine Grew.alloc ?_ _) | ((with_reducible refine Grew.setCell ?_ ?_ _); rotate_left; (focus (dsimp only; first | omega | (simp only [size_ext, World.size_alloc, Array.size_append]; omega)))) | (with_reducible refine Grew.drewN ?_ _) | (with_reducible refine Grew.drew ?_)))⟩
/-- straightedgeref01.Copy. -/
theorem copy1_any (D : Value) (ws : List Nat) (w : World) (hD : FS w D ws) (hl : ws.length ≤ 1000000) :
   Calls Try.prog 70 #[D] w (fun e w' => ∃ v, e = .returned v ∧ WS w' w.heap.size v ws ∧ ∃ o n, w' = ext w o n) := by
  go_enter Try.func70, Try.ntmps70
  go_wp2_with (at_builtin; refine appendN_f finfo (Grew.refl w |>.alloc _) (OwnF.empty rfl (Nat.le_refl _)) (FS.alloc hD _) (by simp; omega) _ _ rfl rfl rfl rfl ?_; intro v oo nn ho hn; obtain ⟨g, cap, rfl, hg, hF, hL⟩ := ho.ws (hn notnil) (by simp; omega); simp only [List.nil_append] at hF hL)
  go_ret
  exact ⟨_, rfl, ⟨g, cap, rfl, by omega, by (repeat (first | (with_reducible assumption) | ((with_reducible refine FW.ext_set ?_ ?_ ?_ _); rotate_left; (focus (simp only [size_setCell', World.size_alloc, size_ext, size_upd]; omega)); (focus (dsimp only; omega))) | ((with_reducible refine FW.setCell_ne ?_ ?_ _); rotate_left; (focus (dsimp only; omega))) | (with_reducible refine FW.ext ?_ _ _) | (with_reducible refine FW.alloc ?_ _))), hL⟩, by (show Grew _ _; repeat (first | (with_reducible exact Grew.refl _) | (with_reducible assumption) | (with_reducible refine Grew.ext ?_ _ _) | (with_reducible refine Grew.alloc ?_ _) | ((with_reducible refine Grew.setCell ?_ ?_ _); rotate_left; (focus (dsimp only; first | omega | (simp only [size_ext, World.size_alloc, Array.size_append]; omega)))) | (with_reducible refine Grew.drewN ?_ _) | (with_reducible refine Grew.drew ?_)))⟩
set_option maxRecDepth 100000 in
/-- straightedgeref03.New. -/
theorem rnew_any (r c : Nat) (w : World) (hr : r ≤ 1000) (hc : c ≤ 1000) :
   Calls Try.prog 68 #[.int .i64 r, .int .i64 c] w (fun e w' => ∃ v, e = .returned (.agg #[.int .i64 r, .int .i64 c, v]) ∧ WS w' w.heap.size v (List.replicate (r * c) 0) ∧ ∃ o n, w' = ext w o n) := by
  have hm : r * c ≤ 1000 * 1000 := Nat.mul_le_mul hr hc
  have h2 : IntKind.i64.wrap ((r : Int) * c) = (r : Int) * c := IntWalk.i64_in _ (by rw [← Int.natCast_mul]; omega)
  go_enter Try.func68, Try.ntmps68
  refine seq_stop ?_
  go_wp2
  refine stop_go (fun W hW => ?_)
  have s1 : w.heap.size < W.heap.size := by rw [hW]; simp only [World.size_alloc]; omega
  have b1 : ∀ i, W.cell? ⟨w.heap.size, i, none⟩ = (#[.int .i64 0, .int .i64 0, .slice none 0 0] : Array Value)[i]? := by intro i; rw [hW]; go_simp
  have f1 : ∀ i, W.frozen? ⟨w.heap.size, i, none⟩ = false := by intro i; rw [hW]; go_simp
  have g0 : Grew w W := by rw [hW]; exact (Grew.refl _).alloc _
  clear hW
  go_wp2_with (at_make; refine make_f (L := (r : Int) * (c : Int)) finfo (Grew.refl W) _ _ rfl rfl (r * c) (Int.natCast_mul r c).symm rfl rfl (by omega) ?_; intro oo nn k hk ho; have hF := ho.made)
  refine bodyPost_ret (v := .agg #[.int .i64 r, .int .i64 c, .slice (some ⟨k, 0, none⟩) (r * c) (r * c)]) (by simp [results, Try.results68, go_sem, *]) rfl ?_
  exact ⟨_, rfl, ⟨k, _, by rw [List.length_replicate], by omega, by (repeat (first | (with_reducible assumption) | ((with_reducible refine FW.ext_set ?_ ?_ ?_ _); rotate_left; (focus (simp only [size_setCell', World.size_alloc, size_ext, size_upd]; omega)); (focus (dsimp only; omega))) | ((with_reducible refine FW.setCell_ne ?_ ?_ _); rotate_left; (focus (dsimp only; omega))) | (with_reducible refine FW.ext ?_ _ _) | (with_reducible refine FW.alloc ?_ _))), by rw [List.length_replicate]; omega⟩, by (show Grew _ _; repeat (first | (with_reducible exact Grew.refl _) | (with_reducible assumption) | (with_reducible refine Grew.ext ?_ _ _) | (with_reducible refine Grew.alloc ?_ _) | ((with_reducible refine Grew.setCell ?_ ?_ _); rotate_left; (focus (dsimp only; first | omega | (simp only [size_ext, World.size_alloc, Array.size_append]; omega)))) | (with_reducible refine Grew.drewN ?_ _) | (with_reducible refine Grew.drew ?_)))⟩
end Go.Proofs.Ytcmggfpcbijcjaa
end
section
/-
  Contracts: the reference's tables (layer 3): a number, of a matrix, into a list; lists of a vector.
-/
set_option linter.unusedSimpArgs false
set_option linter.unusedVariables false
open Go Go.RowKit
namespace Sedge
def MatM.place (m : MatM) (i j : Nat) : Nat := (m.off + i + j * m.ld).toNat
def MatM.num (m : MatM) (i j : Nat) : Nat := m.ws.getD (m.place i j) 0
theorem MatM.good_n {m : MatM} (h : m.good = true) : 0 ≤ m.rows ∧ 0 ≤ m.cols ∧ 0 ≤ m.off ∧ 1 ≤ m.ld ∧ m.rows ≤ m.ld := by
  simp [MatM.good] at h; omega
/-- A good matrix' places lie in its list. -/
theorem MatM.good_place {m : MatM} (h : m.good = true) {i j : Nat} (hi : (i : Int) < m.rows) (hj : (j : Int) < m.cols) :
    0 ≤ m.off + i + j * m.ld ∧ m.off + i + j * m.ld < m.ws.length ∧ 0 ≤ (j : Int) * m.ld := by
  have h0 := MatM.good_n h
  simp [MatM.good, fitsB] at h
  have h1 : m.off + (m.cols - 1) * m.ld + (m.rows - 1) < m.ws.length := by
    rcases h.2 with h2 | h2 <;> omega
  have h2 : (j : Int) * m.ld ≤ (m.cols - 1) * m.ld := Int.mul_le_mul_of_nonneg_right (by omega) (by omega)
  have h3 : 0 ≤ (j : Int) * m.ld := Int.mul_nonneg (by omega) (by omega)
  omega
/-- A matrix' numbers, row by row. -/
def MatM.tabTo (m : MatM) (k : Nat) : List Nat := writes (List.replicate (m.rows.toNat * m.cols.toNat) 0) id (fun t => m.num (t / m.cols.toNat) (t % m.cols.toNat)) k
def MatM.tab (m : MatM) : List Nat := m.tabTo (m.rows.toNat * m.cols.toNat)
/-- The list as it is when a table's numbers are in it. -/
def MatM.intoTo (m : MatM) (R C : Nat) (t : List Nat) (k : Nat) : List Nat := writes m.ws (fun t => m.place (t / C) (t % C)) (fun k => t.getD k 0) k
def MatM.into (m : MatM) (R C : Nat) (t : List Nat) : List Nat := m.intoTo R C t (R * C)
theorem at_div {i j C : Nat} (h : j < C) : (i * C + j) / C = i ∧ (i * C + j) % C = j := by
  constructor
  · rw [Nat.mul_comm, Nat.mul_add_div (by omega), Nat.div_eq_of_lt h]; omega
  · rw [Nat.mul_comm, Nat.mul_add_mod, Nat.mod_eq_of_lt h]
theorem at_lt {i j R C : Nat} (hi : i < R) (hj : j < C) : i * C + j < R * C := by
  have : (i + 1) * C ≤ R * C := Nat.mul_le_mul_right C hi
  rw [Nat.succ_mul] at this; omega
end Sedge
open Sedge
namespace Go.Proofs.Ytcmggfpcbijcjaa
/-- (M).At of the reference. -/
theorem rat_any (R C i j : Nat) (A : Value) (ws : List Nat) (w : World) (hA : FS w A ws) (hR : R ≤ 1000) (hC : C ≤ 1000) (hi : i ≤ 1000) (hj : j ≤ 1000) (hl : i * C + j < ws.length) :
   Calls Try.prog 72 #[.agg #[.int .i64 R, .int .i64 C, A], .int .i64 i, .int .i64 j] w (fun e w' => ∃ b, e = .returned (.float .f64 b) ∧ IsF b (ws.getD (i * C + j) 0) ∧ ∃ o n, w' = ext w o n) := by
  obtain ⟨blk, o, cap, rfl, hlt, hc⟩ := hA.open (by omega)
  obtain ⟨b, hb, hf⟩ := hc (i * C + j) hl
  have hm : i * C ≤ 1000 * 1000 := Nat.mul_le_mul hi hC
  have e0 : ((i : Int) * (C : Int)).toNat = i * C := by rw [← Int.natCast_mul]; rfl
  have e1 : ((i : Int) * (C : Int) + (j : Int)).toNat = i * C + j := by rw [← Int.natCast_mul]; omega
  have h0 : 0 ≤ (i : Int) * C := by rw [← Int.natCast_mul]; omega
  have h1 : (i : Int) * C ≤ 1000000 := by rw [← Int.natCast_mul]; omega
  have h4 : (i : Int) * C + j < ws.length := by rw [← Int.natCast_mul]; omega
  have h2 : IntKind.i64.wrap ((i : Int) * C) = (i : Int) * C := IntWalk.i64_in _ (by omega)
  have h3 : IntKind.i64.wrap ((i : Int) * C + j) = (i : Int) * C + j := IntWalk.i64_in _ (by omega)
  clear hc e0 hm
  go_enter Try.func72, Try.ntmps72
  go_wp2
  go_ret
  exact ⟨b, rfl, hf, (Grew.refl _).alloc _⟩
/-- (M).Set of the reference. -/
theorem rset_any (R C i j g cap len r x : Nat) (ws : List Nat) (w : World) (hF : FW w g ws) (hr : IsF r x) (hlen : len = ws.length) (hR : R ≤ 1000) (hC : C ≤ 1000) (hi : i ≤ 1000) (hj : j ≤ 1000) (hl : i * C + j < ws.length) :
   Calls Try.prog 134 #[.agg #[.int .i64 R, .int .i64 C, .slice (some ⟨g, 0, none⟩) len cap], .int .i64 i, .int .i64 j, .float .f64 r] w
     (fun e w' => e = .returned (.tuple #[]) ∧ Wrote w w' g (ws.set (i * C + j) x)) := by
  have hm : i * C ≤ 1000 * 1000 := Nat.mul_le_mul hi hC
  have e1 : ((i : Int) * (C : Int) + (j : Int)).toNat = i * C + j := by rw [← Int.natCast_mul]; omega
  have h0 : 0 ≤ (i : Int) * C := by rw [← Int.natCast_mul]; omega
  have h1 : (i : Int) * C ≤ 1000000 := by rw [← Int.natCast_mul]; omega
  have h4 : (i : Int) * C + j < len := by rw [← Int.natCast_mul]; omega
  have h2 : IntKind.i64.wrap ((i : Int) * C) = (i : Int) * C := IntWalk.i64_in _ (by omega)
  have h3 : IntKind.i64.wrap ((i : Int) * C + j) = (i : Int) * C + j := IntWalk.i64_in _ (by omega)
  have hlt := hF.lt
  clear hm
  go_enter Try.func134, Try.ntmps134
  refine seq_stop ?_
  go_wp2
  refine stop_go (fun W hW => ?_)
  have s1 : w.heap.size < W.heap.size := by rw [hW]; simp only [World.size_alloc]; omega
  have b1 : ∀ i, W.cell? ⟨w.heap.size, i, none⟩ = (#[.int .i64 R, .int .i64 C, .slice (some ⟨g, 0, none⟩) len cap] : Array Value)[i]? := by intro i; rw [hW]; go_simp
  have g0 : Grew w W := by rw [hW]; exact (Grew.refl _).alloc _
  clear hW
  have hFW := hF.grew g0
  have fz := hFW.notFrozen
  obtain ⟨cs, hs, hcs⟩ := hFW.set (k := i * C + j) hr
  obtain ⟨r0, hr0, _⟩ := hFW.get hl
  have hlW := hFW.lt
  go_wp2
  go_end0
  exact ⟨rfl, Wrote.grew_l g0 hlt (⟨cs, #[], _, ext_zero.symm, hcs⟩)⟩
set_option maxRecDepth 100000 in
set_option maxHeartbeats 1000000 in
/-- straightedgeref03.Of. -/
theorem rof_any (x : MatM) (D : Value) (w : World) (hD : FS w D x.ws) (hx : x.good = true) (hr : x.rows ≤ 1000) (hc : x.cols ≤ 1000) (hl : x.ws.length ≤ 1000000) (hwf : x.wf) :
   Calls Try.prog 48 #[.agg #[D, .int .i64 x.off, .int .i64 x.rows, .int .i64 x.cols, .int .i64 x.ld]] w
     (fun e w' => ∃ v, e = .returned (.agg #[.int .i64 x.rows, .int .i64 x.cols, v]) ∧ WS w' w.heap.size v x.tab ∧ ∃ o n, w' = ext w o n) := by
  have hn := MatM.good_n hx
  obtain ⟨R, hR⟩ : ∃ R : Nat, x.rows = R := ⟨x.rows.toNat, by omega⟩
  obtain ⟨C, hC⟩ : ∃ C : Nat, x.cols = C := ⟨x.cols.toNat, by omega⟩
  rw [hR, hC]
  have hRn : R ≤ 1000 := by omega
  have hCn : C ≤ 1000 := by omega
  have hm : R * C ≤ 1000 * 1000 := Nat.mul_le_mul hRn hCn
  have htab : ∀ k, x.tabTo k = writes (List.replicate (R * C) 0) id (fun t => x.num (t / C) (t % C)) k := by
    intro k; unfold MatM.tabTo; rw [show x.rows.toNat = R by omega, show x.cols.toNat = C by omega]
  have hRC : x.rows.toNat * x.cols.toNat = R * C := by rw [show x.rows.toNat = R by omega, show x.cols.toNat = C by omega]
  have Hx := hid hx
  have Hn := hid hn
  have Hm := hid hm
  have HR := hid hR
  have HC := hid hC
  have HT := hid htab
  have HRC := hid hRC
  clear hx hn hm hr hc hwf htab hRC hR hC
  go_enter Try.func48, Try.ntmps48
  refine seq_stop ?_
  go_wp2
  refine stop_go (fun W hW => ?_)
  have s1 : w.heap.size < W.heap.size := by rw [hW]; simp only [World.size_alloc]; omega
  have b1 : ∀ i, W.cell? ⟨w.heap.size, i, none⟩ = (#[D, .int .i64 x.off, .int .i64 R, .int .i64 C, .int .i64 x.ld] : Array Value)[i]? := by intro i; rw [hW]; go_simp
  have f1 : ∀ i, W.frozen? ⟨w.heap.size, i, none⟩ = false := by intro i; rw [hW]; go_simp
  have s2 : w.heap.size + 1 < W.heap.size := by rw [hW]; simp only [World.size_alloc]; omega
  have b2 : ∀ i, W.cell? ⟨w.heap.size + 1, i, none⟩ = (#[.int .i64 0, .int .i64 0, .slice none 0 0] : Array Value)[i]? := by intro i; rw [hW]; go_simp
  have f2 : ∀ i, W.frozen? ⟨w.heap.size + 1, i, none⟩ = false := by intro i; rw [hW]; go_simp
  have g0 : Grew w W := by rw [hW]; exact ((Grew.refl _).alloc _).alloc _
  clear hW
  have hDW : FS W D x.ws := hD.grew g0
  go_wp2_with (first | (go_at_call 68; ((with_reducible refine (rnew_any R C _ hRn hCn).mono ?_); rintro e w1 ⟨v, rfl, ⟨g, cap, rfl, hg, hF, hgl⟩, o1, n1, rfl⟩)))
  refine name_any (fun V hV => ?_)
  have gV : Grew W V := by rw [← hV]; (show Grew _ _; repeat (first | (with_reducible exact Grew.refl _) | (with_reducible assumption) | (with_reducible refine Grew.ext ?_ _ _) | (with_reducible refine Grew.alloc ?_ _) | ((with_reducible refine Grew.setCell ?_ ?_ _); rotate_left; (focus (dsimp only; first | omega | (simp only [size_ext, World.size_alloc, Array.size_append]; omega)))) | (with_reducible refine Grew.drewN ?_ _) | (with_reducible refine Grew.drew ?_)))
  have sV := gV.below.size
  have k1 : w.heap.size < V.heap.size := by omega
  have k2 : w.heap.size + 1 < V.heap.size := by omega
  have k3 : W.heap.size + o1.size < V.heap.size := by rw [← hV]; simp only [World.size_alloc, size_ext]; omega
  have c1 : ∀ i, V.cell? ⟨w.heap.size, i, none⟩ = (#[D, .int .i64 x.off, .int .i64 R, .int .i64 C, .int .i64 x.ld] : Array Value)[i]? := fun i => (gV.cell s1).trans (b1 i)
  have c2 : ∀ i, V.cell? ⟨w.heap.size + 1, i, none⟩ = (#[.int .i64 0, .int .i64 0, .slice none 0 0] : Array Value)[i]? := fun i => (gV.cell s2).trans (b2 i)
  have z2 : ∀ i, V.frozen? ⟨w.heap.size + 1, i, none⟩ = false := fun i => (gV.frozen s2).trans (f2 i)
  have c3 : ∀ i, V.cell? ⟨W.heap.size + o1.size, i, none⟩ = (#[.int .i64 R, .int .i64 C, .slice (some ⟨g, 0, none⟩) (R * C) cap] : Array Value)[i]? := by subst hV; intro i; go_simp
  have hFV : FW V g (List.replicate (R * C) 0) := by rw [← hV]; (repeat (first | (with_reducible assumption) | ((with_reducible refine FW.ext_set ?_ ?_ ?_ _); rotate_left; (focus (simp only [size_setCell', World.size_alloc, size_ext, size_upd]; omega)); (focus (dsimp only; omega))) | ((with_reducible refine FW.setCell_ne ?_ ?_ _); rotate_left; (focus (dsimp only; omega))) | (with_reducible refine FW.ext ?_ _ _) | (with_reducible refine FW.alloc ?_ _)))
  have gl := hFV.lt
  have q1 : w.heap.size ≠ g := by omega
  have q2 : w.heap.size + 1 ≠ g := by omega
  have q3 : W.heap.size + o1.size ≠ g := by have := hF.lt; simp only [size_ext] at this; omega
  clear hV b1 f1 b2 f2 hD
  go_loopw [4] (fun c wr => ∃ (i : Nat) (cs : Array Value) (o : Array Obj) (n : Nat), i ≤ R ∧ c = .int .i64 i ∧ wr = ext (upd V g cs) o n ∧ CF cs (writes (List.replicate (R * C) 0) id (fun t => x.num (t / C) (t % C)) (i * C))) (fun c _ => R - (intOf c).toNat)
  case atStart =>
    obtain ⟨cs, h1, h2⟩ := hFV.self
    exact ⟨0, cs, #[], _, Nat.zero_le _, rfl, by rw [h1]; exact ext_zero.symm, by simpa [writes] using h2⟩
  case round =>
    obtain ⟨i, cs, o2, n2, hi, rfl, hwr, hcs⟩ := hrel
    subst hwr
    by_cases hlt : i < R
    · go_wp2
      go_loopw [5] (fun c wr => ∃ (j : Nat) (cs : Array Value) (o : Array Obj) (n : Nat), j ≤ C ∧ c = .int .i64 j ∧ wr = ext (upd V g cs) o n ∧ CF cs (writes (List.replicate (R * C) 0) id (fun t => x.num (t / C) (t % C)) (i * C + j))) (fun c _ => C - (intOf c).toNat)
      case atStart => exact ⟨0, cs, o2, n2, Nat.zero_le _, rfl, rfl, hcs⟩
      case round =>
        obtain ⟨j, cs, o3, n3, hj, rfl, hwr, hcs⟩ := hrel
        subst hwr
        by_cases hltj : j < C
        · have hp := MatM.good_place Hx.out (i := i) (j := j) (by have := HR.out; omega) (by have := HC.out; omega)
          have hn := Hn.out
          obtain ⟨blk, o, cap', rfl, hblk, hc⟩ := hDW.open (by omega)
          obtain ⟨b, hb0, hf⟩ := hc (x.place i j) (by unfold MatM.place; omega)
          have hb := (gV.cell hblk).trans hb0
          unfold MatM.place at hb
          have qb : blk ≠ g := by omega
          have kb : blk < V.heap.size := by omega
          have hf' : IsF b (x.num i j) := hf
          clear hb0
          have h2 : IntKind.i64.wrap (j * x.ld) = j * x.ld := IntWalk.i64_in _ (by omega)
          have h3 : IntKind.i64.wrap (x.off + i) = x.off + i := IntWalk.i64_in _ (by omega)
          have h4 : IntKind.i64.wrap (x.off + i + j * x.ld) = x.off + i + j * x.ld := IntWalk.i64_in _ (by omega)
          clear hc
          have hat := at_lt hlt hltj
          have hfw : FW (ext (upd V g cs) o3 n3) g (writes (List.replicate (R * C) 0) id (fun t => x.num (t / C) (t % C)) (i * C + j)) := hFV.mk' hcs _ _
          have hlen : (writes (List.replicate (R * C) 0) id (fun t => x.num (t / C) (t % C)) (i * C + j)).length = R * C := by simp
          go_wp2
          refine wp_region_R (Over V g) [] [(0,0), (0,1), (0,2), (0,3), (0,4), (0,5), (0,6), (0,7), (0,8), (0,9), (0,10), (0,11), (0,12), (0,13), (0,14), (0,15), (1,16)] (by kernel_rfl) (by kernel_rfl) (fun _ _ _ _ h _ => h) ⟨_, _, _, ext_drew⟩ ?_
          go_wp2_with (first | ((with_reducible refine wpR_id ?_); first | (refine wpR_take (v := ?_) rfl rfl ?_ ?_; rotate_left; (focus (rintro w' ⟨cs', o', n', rfl⟩; go_simp; try with_reducible rfl)); simp only [Act.put, List.setIfInBounds_toArray, List.set_cons_zero, List.set_cons_succ]) | (refine wpR_pure (v := ?_) rfl rfl ?_ ?_; rotate_left; (focus (intro w'; go_simp; try with_reducible rfl)); simp only [Act.put, List.setIfInBounds_toArray, List.set_cons_zero, List.set_cons_succ]) | (refine wpR_takeG (v := ?_) rfl rfl rfl rfl rfl ?_ ?_; rotate_left; (focus (rintro w' ⟨cs', o', n', rfl⟩; go_simp; try with_reducible rfl)); simp only [Act.put, List.setIfInBounds_toArray, List.set_cons_zero, List.set_cons_succ]) | (refine wpR_skip rfl rfl rfl rfl rfl rfl ?_; simp only [Act.put, List.setIfInBounds_toArray, List.set_cons_zero, List.set_cons_succ]) | (refine wpR_skipU rfl rfl rfl rfl rfl ?_; simp only [Act.put, List.setIfInBounds_toArray, List.set_cons_zero, List.set_cons_succ]) | (refine wpR_do rfl rfl (fun K hK => ?_)) | (refine wpR_doG rfl rfl rfl rfl rfl (fun K hK => ?_)) | (refine wpR_last rfl rfl (fun K hK => ?_)) | (refine wpR_nil ?_)) | ((with_reducible refine wpR_go ?_ ?_); (focus exact ⟨_, _, _, rfl⟩)) | ((with_reducible refine upon_id ?_); refine upon_fop rfl (by assumption) (by assumption) ?_; intro rr nn hr) | (go_at_call 134; ((with_reducible refine (rset_any R C i j g cap (R * C) b (x.num i j) _ _ (hFV.mk' hcs _ _) hf' hlen.symm hRn hCn (by omega) (by omega) (by rw [hlen]; exact hat)).mono ?_); rintro e w1 ⟨rfl, hw⟩; obtain ⟨cs2, o4, n4, rfl, hcs2⟩ := Wrote.trans ⟨cs, _, _, rfl, hcs⟩ gl hw)))
          go_roundw
          case rel =>
            refine ⟨j + 1, cs2, o4, n4, by omega, by go_num, rfl, ?_⟩
            have e : i * C + (j + 1) = i * C + j + 1 := by omega
            rw [e]; unfold writes
            rw [(at_div hltj).1, (at_div hltj).2]; exact hcs2
          case measure => simp [intOf]; omega
        · have e : C = j := by omega
          go_wp2
          go_roundw
          case rel => exact ⟨i + 1, cs, _, _, by omega, by go_num, rfl, by rw [Nat.succ_mul, e]; rw [e] at hcs; exact hcs⟩
          case measure => simp [intOf]; omega
    · have e : R = i := by omega
      have ht : x.tab = writes (List.replicate (R * C) 0) id (fun t => x.num (t / C) (t % C)) (R * C) := by unfold MatM.tab; rw [HRC.out]; exact HT.out _
      subst e
      have hlen : x.tab.length = R * C := by rw [ht]; simp
      have hfw : FW (ext (upd V g cs) o2 n2) g x.tab := by rw [ht]; exact hFV.mk' hcs _ _
      have gu : Grew w (upd V g cs) := (g0.trans gV).upd (by omega) cs
      go_wp2
      refine bodyPost_ret (v := .agg #[.int .i64 R, .int .i64 C, .slice (some ⟨g, 0, none⟩) (R * C) cap]) (by simp [results, Try.results48, go_sem, *]) rfl ?_
      exact ⟨_, rfl, ⟨g, cap, by rw [hlen], by omega, by (repeat (first | (with_reducible assumption) | ((with_reducible refine FW.ext_set ?_ ?_ ?_ _); rotate_left; (focus (simp only [size_setCell', World.size_alloc, size_ext, size_upd]; omega)); (focus (dsimp only; omega))) | ((with_reducible refine FW.setCell_ne ?_ ?_ _); rotate_left; (focus (dsimp only; omega))) | (with_reducible refine FW.ext ?_ _ _) | (with_reducible refine FW.alloc ?_ _))), by have := Hm.out; omega⟩, by (show Grew _ _; repeat (first | (with_reducible exact Grew.refl _) | (with_reducible assumption) | (with_reducible refine Grew.ext ?_ _ _) | (with_reducible refine Grew.alloc ?_ _) | ((with_reducible refine Grew.setCell ?_ ?_ _); rotate_left; (focus (dsimp only; first | omega | (simp only [size_ext, World.size_alloc, Array.size_append]; omega)))) | (with_reducible refine Grew.drewN ?_ _) | (with_reducible refine Grew.drew ?_)))⟩
end Go.Proofs.Ytcmggfpcbijcjaa
end
section
/-
  Contracts: rows, what swaps numbers, rows that change places (layers 3 and 4).
-/
set_option linter.unusedSimpArgs false
set_option linter.unusedVariables false
open Go Go.RowKit Sedge
namespace Go.Proofs.Ytcmggfpcbijcjaa
/-- A row, as a vector. -/
def rowV (m : MatM) (i : Nat) : VecM := ⟨m.ws, if 0 < m.cols then m.off + i else m.off, m.cols, m.ld⟩
set_option maxRecDepth 100000 in
set_option maxHeartbeats 1000000 in
theorem row_any (x : MatM) (D : Value) (i : Nat) (w : World) (hD : FS w D x.ws) (hx : x.good = true) (hwf : x.wf) (hi : (i : Int) < x.rows) :
   Calls Try.prog 132 #[.agg #[D, .int .i64 x.off, .int .i64 x.rows, .int .i64 x.cols, .int .i64 x.ld], .int .i64 i] w
     (fun e w' => e = .returned (.agg #[D, .int .i64 (rowV x i).off, .int .i64 x.cols, .int .i64 x.ld]) ∧ ∃ o n, w' = ext w o n) := by
  have hn := MatM.good_n hx
  obtain ⟨aD, capD, rfl⟩ := hD.shape
  have k1 : (!x.good) = false := by simp [hx]
  have hlen := hD.len
  have Hw := hid hwf
  have k3 : decide ((i : Int) < 0) = false := by simp
  have k4 : decide (x.rows ≤ (i : Int)) = false := by simp; omega
  by_cases hc : 0 < x.cols
  · have hp := MatM.good_place hx (i := i) (j := 0) hi (by simpa using hc)
    simp only [Int.natCast_zero, Int.zero_mul, Int.add_zero] at hp
    have e : (rowV x i).off = x.off + i := by simp [rowV, hc]
    have Hx := hid hx
    rw [e]
    clear hx hwf e
    go_enter Try.func132, Try.ntmps132
    refine seq_stop ?_
    go_wp2
    refine stop_go (fun W hW => ?_)
    have s1 : w.heap.size < W.heap.size := by rw [hW]; simp only [World.size_alloc]; omega
    have b1 : ∀ i, W.cell? ⟨w.heap.size, i, none⟩ = (#[.slice aD x.ws.length capD, .int .i64 x.off, .int .i64 x.rows, .int .i64 x.cols, .int .i64 x.ld] : Array Value)[i]? := by intro i; rw [hW]; go_simp
    have f1 : ∀ i, W.frozen? ⟨w.heap.size, i, none⟩ = false := by intro i; rw [hW]; go_simp
    have s2 : w.heap.size + 1 < W.heap.size := by rw [hW]; simp only [World.size_alloc]; omega
    have b2 : ∀ i, W.cell? ⟨w.heap.size + 1, i, none⟩ = (#[.slice none 0 0, .int .i64 0, .int .i64 0, .int .i64 0] : Array Value)[i]? := by intro i; rw [hW]; go_simp
    have f2 : ∀ i, W.frozen? ⟨w.heap.size + 1, i, none⟩ = false := by intro i; rw [hW]; go_simp
    have g0 : Grew w W := by rw [hW]; exact ((Grew.refl _).alloc _).alloc _
    clear hW
    have hDW : FS W (.slice aD x.ws.length capD) x.ws := hD.grew g0
    go_wp2_with (first | (go_at_call 130; ((with_reducible refine (good_any x _ _ ?_ Hw.out).mono ?_); (focus (first | (with_reducible assumption) | (with_reducible refine FS.ext ?_ _ _; with_reducible assumption) | (with_reducible refine IS.ext ?_ _ _; with_reducible assumption) | (refine hDu _ ?_; with_reducible assumption) | (refine hOu _ ?_; with_reducible assumption) | (refine hDa _ ?_; with_reducible assumption) | (refine hDb _ ?_; with_reducible assumption) | (refine hDc _ ?_; with_reducible assumption) | (refine hDd _ ?_; with_reducible assumption) | (refine FW.fs ?_ (by omega) _; with_reducible assumption) | (refine WS.fs ?_; with_reducible assumption) | (refine FW.fs ?_ (by omega) _; assumption) | omega | assumption)); rintro e w1 ⟨rfl, o1, n1, rfl⟩)))
    refine bodyPost_ret (v := .agg #[.slice aD x.ws.length capD, .int .i64 (x.off + i), .int .i64 x.cols, .int .i64 x.ld]) (by simp [results, Try.results132, go_sem, *]) rfl ?_
    exact ⟨rfl, by (show Grew _ _; repeat (first | (with_reducible exact Grew.refl _) | (with_reducible assumption) | (with_reducible refine Grew.ext ?_ _ _) | (with_reducible refine Grew.alloc ?_ _) | ((with_reducible refine Grew.setCell ?_ ?_ _); rotate_left; (focus (dsimp only; first | omega | (simp only [size_ext, World.size_alloc, Array.size_append]; omega)))) | (with_reducible refine Grew.drewN ?_ _) | (with_reducible refine Grew.drew ?_)))⟩
  · have e : (rowV x i).off = x.off := by simp [rowV, hc]
    have Hx := hid hx
    rw [e]
    clear hx hwf e
    go_enter Try.func132, Try.ntmps132
    refine seq_stop ?_
    go_wp2
    refine stop_go (fun W hW => ?_)
    have s1 : w.heap.size < W.heap.size := by rw [hW]; simp only [World.size_alloc]; omega
    have b1 : ∀ i, W.cell? ⟨w.heap.size, i, none⟩ = (#[.slice aD x.ws.length capD, .int .i64 x.off, .int .i64 x.rows, .int .i64 x.cols, .int .i64 x.ld] : Array Value)[i]? := by intro i; rw [hW]; go_simp
    have f1 : ∀ i, W.frozen? ⟨w.heap.size, i, none⟩ = false := by intro i; rw [hW]; go_simp
    have s2 : w.heap.size + 1 < W.heap.size := by rw [hW]; simp only [World.size_alloc]; omega
    have b2 : ∀ i, W.cell? ⟨w.heap.size + 1, i, none⟩ = (#[.slice none 0 0, .int .i64 0, .int .i64 0, .int .i64 0] : Array Value)[i]? := by intro i; rw [hW]; go_simp
    have f2 : ∀ i, W.frozen? ⟨w.heap.size + 1, i, none⟩ = false := by intro i; rw [hW]; go_simp
    have g0 : Grew w W := by rw [hW]; exact ((Grew.refl _).alloc _).alloc _
    clear hW
    have hDW : FS W (.slice aD x.ws.length capD) x.ws := hD.grew g0
    go_wp2_with (first | (go_at_call 130; ((with_reducible refine (good_any x _ _ ?_ Hw.out).mono ?_); (focus (first | (with_reducible assumption) | (with_reducible refine FS.ext ?_ _ _; with_reducible assumption) | (with_reducible refine IS.ext ?_ _ _; with_reducible assumption) | (refine hDu _ ?_; with_reducible assumption) | (refine hOu _ ?_; with_reducible assumption) | (refine hDa _ ?_; with_reducible assumption) | (refine hDb _ ?_; with_reducible assumption) | (refine hDc _ ?_; with_reducible assumption) | (refine hDd _ ?_; with_reducible assumption) | (refine FW.fs ?_ (by omega) _; with_reducible assumption) | (refine WS.fs ?_; with_reducible assumption) | (refine FW.fs ?_ (by omega) _; assumption) | omega | assumption)); rintro e w1 ⟨rfl, o1, n1, rfl⟩)))
    refine bodyPost_ret (v := .agg #[.slice aD x.ws.length capD, .int .i64 x.off, .int .i64 x.cols, .int .i64 x.ld]) (by simp [results, Try.results132, go_sem, *]) rfl ?_
    exact ⟨rfl, by (show Grew _ _; repeat (first | (with_reducible exact Grew.refl _) | (with_reducible assumption) | (with_reducible refine Grew.ext ?_ _ _) | (with_reducible refine Grew.alloc ?_ _) | ((with_reducible refine Grew.setCell ?_ ?_ _); rotate_left; (focus (dsimp only; first | omega | (simp only [size_ext, World.size_alloc, Array.size_append]; omega)))) | (with_reducible refine Grew.drewN ?_ _) | (with_reducible refine Grew.drew ?_)))⟩

/-- The numbers at p k and q k change places, one pair behind the other. -/
def swaps (l : List Nat) (p q : Nat → Nat) : Nat → List Nat
  | 0 => l
  | k + 1 => ((swaps l p q k).set (p k) ((swaps l p q k).getD (q k) 0)).set (q k) ((swaps l p q k).getD (p k) 0)
@[simp] theorem swaps_length (l : List Nat) (p q : Nat → Nat) : ∀ k, (swaps l p q k).length = l.length
  | 0 => rfl
  | k + 1 => by unfold swaps; rw [List.length_set, List.length_set, swaps_length l p q k]
set_option maxRecDepth 100000 in
set_option maxHeartbeats 2000000 in
/-- move.swap, of vectors in one list. -/
theorem swap1_any (x y : VecM) (g cap : Nat) (w : World) (hF : FW w g x.ws) (hxy : y.ws = x.ws) (hx : x.right = true) (hy : y.right = true) (hwx : x.wf) (hwy : y.wf) (hn : y.n = x.n) (hl : x.ws.length ≤ 1000000) :
   Calls Try.prog 131 #[.agg #[.slice (some ⟨g, 0, none⟩) x.ws.length cap, .int .i64 x.off, .int .i64 x.n, .int .i64 x.inc], .agg #[.slice (some ⟨g, 0, none⟩) x.ws.length cap, .int .i64 y.off, .int .i64 y.n, .int .i64 y.inc]] w
     (fun e w' => e = .returned (.tuple #[]) ∧ Wrote w w' g (swaps x.ws x.place y.place x.n.toNat)) := by
  have hx0 : 0 ≤ x.n := by have := VecM.right_n hx; omega
  have hx1 : x.n ≤ 9223372036854775807 := by have := hwx.2.1.2; omega
  have hox := VecM.right_n hx
  have hoy := VecM.right_n hy
  have Hx := hid hx
  have Hy := hid hy
  have Hn := hid hn
  have Hxy := hid hxy
  have hltg := hF.lt
  clear hx hy hwx hwy hn hxy
  go_enter Try.func131, Try.ntmps131
  refine seq_stop ?_
  go_wp2
  refine stop_go (fun W hW => ?_)
  have s1 : w.heap.size < W.heap.size := by rw [hW]; simp only [World.size_alloc]; omega
  have b1 : ∀ i, W.cell? ⟨w.heap.size, i, none⟩ = (#[.slice (some ⟨g, 0, none⟩) x.ws.length cap, .int .i64 x.off, .int .i64 x.n, .int .i64 x.inc] : Array Value)[i]? := by intro i; rw [hW]; go_simp
  have f1 : ∀ i, W.frozen? ⟨w.heap.size, i, none⟩ = false := by intro i; rw [hW]; go_simp
  have s2 : w.heap.size + 1 < W.heap.size := by rw [hW]; simp only [World.size_alloc]; omega
  have b2 : ∀ i, W.cell? ⟨w.heap.size + 1, i, none⟩ = (#[.slice (some ⟨g, 0, none⟩) x.ws.length cap, .int .i64 y.off, .int .i64 y.n, .int .i64 y.inc] : Array Value)[i]? := by intro i; rw [hW]; go_simp
  have f2 : ∀ i, W.frozen? ⟨w.heap.size + 1, i, none⟩ = false := by intro i; rw [hW]; go_simp
  have g0 : Grew w W := by rw [hW]; exact ((Grew.refl _).alloc _).alloc _
  clear hW
  have hFW := hF.grew g0
  have gl := hFW.lt
  have q1 : w.heap.size ≠ g := by omega
  have q2 : w.heap.size + 1 ≠ g := by omega
  have fz : ∀ i, W.frozen? ⟨g, i, none⟩ = false := hFW.notFrozen
  go_wp2
  go_loopw [9] (fun c wr => ∃ (i : Nat) (cs : Array Value) (o : Array Obj) (n : Nat), (i : Int) ≤ x.n ∧ c = .int .i64 i ∧ wr = ext (upd W g cs) o n ∧ CF cs (swaps x.ws x.place y.place i)) (fun c _ => (x.n - intOf c).toNat)
  case atStart =>
    obtain ⟨cs, h1, h2⟩ := hFW.self
    exact ⟨0, cs, #[], _, hx0, rfl, by rw [h1]; exact ext_zero.symm, h2⟩
  case round =>
    obtain ⟨i, cs, o2, n2, hi, rfl, hwr, hcs⟩ := hrel
    subst hwr
    by_cases hlt : (i : Int) < x.n
    · have hp := VecM.right_place Hx.out hlt
      have hq := VecM.right_place Hy.out (i := i) (by have := Hn.out; omega)
      rw [Hxy.out] at hq
      have h2 : IntKind.i64.wrap (i * x.inc) = i * x.inc := IntWalk.i64_in _ (by omega)
      have h3 : IntKind.i64.wrap (x.off + i * x.inc) = x.off + i * x.inc := IntWalk.i64_in _ (by omega)
      have h4 : IntKind.i64.wrap (i * y.inc) = i * y.inc := IntWalk.i64_in _ (by omega)
      have h5 : IntKind.i64.wrap (y.off + i * y.inc) = y.off + i * y.inc := IntWalk.i64_in _ (by omega)
      have hlen : (swaps x.ws x.place y.place i).length = x.ws.length := by simp
      have hfw : ∀ o n, FW (ext (upd W g cs) o n) g (swaps x.ws x.place y.place i) := fun o n => hFW.mk' hcs o n
      obtain ⟨r0, hr0, hf0⟩ := (hfw o2 n2).get (i := x.place i) (by rw [hlen]; unfold VecM.place; omega)
      obtain ⟨s0, hs0, hg0⟩ := (hfw o2 n2).get (i := y.place i) (by rw [hlen]; unfold VecM.place; omega)
      have hr1 := (cell_ext (by simpa using gl)).symm.trans hr0
      have hs1 := (cell_ext (by simpa using gl)).symm.trans hs0
      unfold VecM.place at hr1 hs1
      obtain ⟨t0, ht0, _⟩ := (hFW.mk' (hcs.set (i := x.place i) hg0) o2 n2).get (i := y.place i) (by rw [List.length_set, hlen]; unfold VecM.place; omega)
      have ht1 := (cell_ext (by simpa using gl)).symm.trans ht0
      unfold VecM.place at ht1
      clear hr0 hs0 ht0
      go_wp2
      refine wp_region_R (Grew (upd W g cs)) [] [(0,0), (0,1), (0,2), (0,3), (0,4), (0,5), (0,6), (0,7), (0,8), (0,9), (0,10), (0,11), (0,12), (0,13), (0,14), (0,15), (0,16), (0,17), (0,18), (0,19), (0,20), (0,21)] (by kernel_rfl) (by kernel_rfl) (fun _ _ _ _ h _ => h) (by first | exact ⟨_, _, ext_drew⟩ | exact ⟨_, _, drew_ext0⟩ | (show Grew _ _; repeat (first | (with_reducible exact Grew.refl _) | (with_reducible assumption) | (with_reducible refine Grew.ext ?_ _ _) | (with_reducible refine Grew.alloc ?_ _) | ((with_reducible refine Grew.setCell ?_ ?_ _); rotate_left; (focus (dsimp only; first | omega | (simp only [size_ext, World.size_alloc, Array.size_append]; omega)))) | (with_reducible refine Grew.drewN ?_ _) | (with_reducible refine Grew.drew ?_)))) ?_
      go_wp2_with (first | ((with_reducible refine wpR_id ?_); first | (refine wpR_take (v := ?_) rfl rfl ?_ ?_; rotate_left; (focus (rintro w' ⟨o', n', rfl⟩; go_simp; try with_reducible rfl)); simp only [Act.put, List.setIfInBounds_toArray, List.set_cons_zero, List.set_cons_succ]) | (refine wpR_pure (v := ?_) rfl rfl ?_ ?_; rotate_left; (focus (intro w'; go_simp; try with_reducible rfl)); simp only [Act.put, List.setIfInBounds_toArray, List.set_cons_zero, List.set_cons_succ]) | (refine wpR_takeG (v := ?_) rfl rfl rfl rfl rfl ?_ ?_; rotate_left; (focus (rintro w' ⟨o', n', rfl⟩; go_simp; try with_reducible rfl)); simp only [Act.put, List.setIfInBounds_toArray, List.set_cons_zero, List.set_cons_succ]) | (refine wpR_skip rfl rfl rfl rfl rfl rfl ?_; simp only [Act.put, List.setIfInBounds_toArray, List.set_cons_zero, List.set_cons_succ]) | (refine wpR_skipU rfl rfl rfl rfl rfl ?_; simp only [Act.put, List.setIfInBounds_toArray, List.set_cons_zero, List.set_cons_succ]) | (refine wpR_do rfl rfl (fun K hK => ?_)) | (refine wpR_doG rfl rfl rfl rfl rfl (fun K hK => ?_)) | (refine wpR_last rfl rfl (fun K hK => ?_)) | (refine wpR_nil ?_)) | ((with_reducible refine wpR_go ?_ ?_); (focus exact ⟨_, _, rfl⟩)) | ((with_reducible refine upon_id ?_); refine upon_fop rfl (by assumption) (by assumption) ?_; intro rr nn hr))
      refine wp_region_R (Grew (upd W g cs)) [9, 11] [(3,0), (3,1), (3,2), (3,3), (0,4), (3,5), (3,6), (0,7), (3,8), (2,9), (3,10), (2,11)] (by kernel_rfl) (by kernel_rfl) (fun _ _ _ _ h _ => h) (by first | exact ⟨_, _, ext_drew⟩ | exact ⟨_, _, drew_ext0⟩ | (show Grew _ _; repeat (first | (with_reducible exact Grew.refl _) | (with_reducible assumption) | (with_reducible refine Grew.ext ?_ _ _) | (with_reducible refine Grew.alloc ?_ _) | ((with_reducible refine Grew.setCell ?_ ?_ _); rotate_left; (focus (dsimp only; first | omega | (simp only [size_ext, World.size_alloc, Array.size_append]; omega)))) | (with_reducible refine Grew.drewN ?_ _) | (with_reducible refine Grew.drew ?_)))) ?_
      go_wp2_with (first | ((with_reducible refine wpR_id ?_); first | (refine wpR_take (v := ?_) rfl rfl ?_ ?_; rotate_left; (focus (rintro w' ⟨o', n', rfl⟩; go_simp; try with_reducible rfl)); simp only [Act.put, List.setIfInBounds_toArray, List.set_cons_zero, List.set_cons_succ]) | (refine wpR_pure (v := ?_) rfl rfl ?_ ?_; rotate_left; (focus (intro w'; go_simp; try with_reducible rfl)); simp only [Act.put, List.setIfInBounds_toArray, List.set_cons_zero, List.set_cons_succ]) | (refine wpR_takeG (v := ?_) rfl rfl rfl rfl rfl ?_ ?_; rotate_left; (focus (rintro w' ⟨o', n', rfl⟩; go_simp; try with_reducible rfl)); simp only [Act.put, List.setIfInBounds_toArray, List.set_cons_zero, List.set_cons_succ]) | (refine wpR_skip rfl rfl rfl rfl rfl rfl ?_; simp only [Act.put, List.setIfInBounds_toArray, List.set_cons_zero, List.set_cons_succ]) | (refine wpR_skipU rfl rfl rfl rfl rfl ?_; simp only [Act.put, List.setIfInBounds_toArray, List.set_cons_zero, List.set_cons_succ]) | (refine wpR_do rfl rfl (fun K hK => ?_)) | (refine wpR_doG rfl rfl rfl rfl rfl (fun K hK => ?_)) | (refine wpR_last rfl rfl (fun K hK => ?_)) | (refine wpR_nil ?_)) | ((with_reducible refine wpR_go ?_ ?_); (focus exact ⟨_, _, rfl⟩)) | ((with_reducible refine upon_id ?_); refine upon_fop rfl (by assumption) (by assumption) ?_; intro rr nn hr))
      go_roundw
      case rel =>
        refine ⟨i + 1, _, _, _, by omega, by go_num, rfl, ?_⟩
        unfold swaps
        exact (hcs.set (i := x.place i) hg0).set (i := y.place i) hf0
      case measure => simp [intOf]; omega
    · have e : x.n.toNat = i := by omega
      go_wp2
      go_end0
      exact ⟨rfl, Wrote.grew_l g0 (by omega) ⟨cs, _, _, rfl, by first | exact hcs | (rw [e]; exact hcs)⟩⟩
/-- move.Rows: the error's number; the list behind it. -/
def rowsOk (m : MatM) (i k : Int) : Bool := m.good && decide (0 ≤ i) && decide (0 ≤ k) && decide (i < m.rows) && decide (k < m.rows)
def rowsE (m : MatM) (i k : Int) : Int := if rowsOk m i k = true then 0 else 1
def rowsL (m : MatM) (i k : Int) : List Nat := if rowsOk m i k = true ∧ i ≠ k then swaps m.ws (rowV m i.toNat).place (rowV m k.toNat).place m.cols.toNat else m.ws
theorem rowV_right {m : MatM} (h : m.good = true) {i : Nat} (hi : (i : Int) < m.rows) : (rowV m i).right = true := by
  have h0 := MatM.good_n h
  by_cases hc : 0 < m.cols
  · have h2 := MatM.good_place h (i := i) (j := m.cols.toNat - 1) hi (by omega)
    have e : ((m.cols.toNat - 1 : Nat) : Int) = m.cols - 1 := by omega
    rw [e] at h2
    simp [rowV, VecM.right, fitsB, hc]; omega
  · have : m.cols = 0 := by omega
    simp [rowV, VecM.right, this]; omega
theorem rowV_wf {m : MatM} (h : m.good = true) (hwf : m.wf) {i : Nat} (hi : (i : Int) < m.rows) (hl : m.ws.length ≤ 1000000) : (rowV m i).wf := by
  have h0 := MatM.good_n h
  obtain ⟨a, b, c, d⟩ := hwf
  by_cases hc : 0 < m.cols
  · have h2 := MatM.good_place h (i := i) (j := 0) hi (by simpa using hc)
    simp [rowV, VecM.wf, hc, I64] at *; omega
  · simp [rowV, VecM.wf, hc]; exact ⟨a, c, d⟩
set_option maxRecDepth 100000 in
set_option maxHeartbeats 2000000 in
theorem rows_any (x : MatM) (g cap : Nat) (i k : Int) (w : World) (hF : FW w g x.ws) (hwf : x.wf) (hl : x.ws.length ≤ 1000000) (hi : I64 i) (hk : I64 k) :
   Calls Try.prog 44 #[.agg #[.slice (some ⟨g, 0, none⟩) x.ws.length cap, .int .i64 x.off, .int .i64 x.rows, .int .i64 x.cols, .int .i64 x.ld], .int .i64 i, .int .i64 k] w
     (fun e w' => e = .returned (.int .i64 (rowsE x i k)) ∧ Wrote w w' g (rowsL x i k)) := by
  have hD := hF.fs (by omega) cap
  have hlt := hF.lt
  have Hw := hid hwf
  have hr0 := hwf.2.1
  unfold I64 at hi hk hr0
  clear hwf
  have no : ∀ w', Grew w w' → rowsOk x i k = false → Wrote w w' g (rowsL x i k) := fun w' hg hn => by
    unfold rowsL; rw [hn]; exact Wrote.grew_r (Wrote.refl hF) hg
  have No := hid no
  clear no
  cases hgd : x.good
  · have q : rowsOk x i k = false := by simp [rowsOk, hgd]
    have k1 : (!x.good) = true := by simp [hgd]
    have Hgd := hid hgd
    clear hgd
    go_enter Try.func44, Try.ntmps44
    refine seq_stop ?_
    go_wp2
    refine stop_go (fun W hW => ?_)
    have s1 : w.heap.size < W.heap.size := by rw [hW]; simp only [World.size_alloc]; omega
    have b1 : ∀ i, W.cell? ⟨w.heap.size, i, none⟩ = (#[.slice (some ⟨g, 0, none⟩) x.ws.length cap, .int .i64 x.off, .int .i64 x.rows, .int .i64 x.cols, .int .i64 x.ld] : Array Value)[i]? := by intro i; rw [hW]; go_simp
    have g0 : Grew w W := by rw [hW]; exact (Grew.refl _).alloc _
    clear hW
    have hDW := hD.grew g0
    go_wp2_with (first | (go_at_call 130; ((with_reducible refine (good_any x _ _ ?_ Hw.out).mono ?_); (focus (first | (with_reducible assumption) | (with_reducible refine FS.ext ?_ _ _; with_reducible assumption) | (with_reducible refine IS.ext ?_ _ _; with_reducible assumption) | (refine hDu _ ?_; with_reducible assumption) | (refine hOu _ ?_; with_reducible assumption) | (refine hDa _ ?_; with_reducible assumption) | (refine hDb _ ?_; with_reducible assumption) | (refine hDc _ ?_; with_reducible assumption) | (refine hDd _ ?_; with_reducible assumption) | (refine FW.fs ?_ (by omega) _; with_reducible assumption) | (refine WS.fs ?_; with_reducible assumption) | (refine FW.fs ?_ (by omega) _; assumption) | omega | assumption)); rintro e w1 ⟨rfl, o1, n1, rfl⟩)))
    go_ret
    exact ⟨by unfold rowsE; rw [q]; rfl, No.out _ (by (show Grew _ _; repeat (first | (with_reducible exact Grew.refl _) | (with_reducible assumption) | (with_reducible refine Grew.ext ?_ _ _) | (with_reducible refine Grew.alloc ?_ _) | ((with_reducible refine Grew.setCell ?_ ?_ _); rotate_left; (focus (dsimp only; first | omega | (simp only [size_ext, World.size_alloc, Array.size_append]; omega)))) | (with_reducible refine Grew.drewN ?_ _) | (with_reducible refine Grew.drew ?_)))) q⟩
  have k1 : (!x.good) = false := by simp [hgd]
  have Hgd := hid hgd
  clear hgd
  by_cases c1 : i < 0
  · have q : rowsOk x i k = false := by simp [rowsOk]; omega
    have d1 : decide (i < 0) = true := by simpa using c1
    go_enter Try.func44, Try.ntmps44
    refine seq_stop ?_
    go_wp2
    refine stop_go (fun W hW => ?_)
    have s1 : w.heap.size < W.heap.size := by rw [hW]; simp only [World.size_alloc]; omega
    have b1 : ∀ i, W.cell? ⟨w.heap.size, i, none⟩ = (#[.slice (some ⟨g, 0, none⟩) x.ws.length cap, .int .i64 x.off, .int .i64 x.rows, .int .i64 x.cols, .int .i64 x.ld] : Array Value)[i]? := by intro i; rw [hW]; go_simp
    have g0 : Grew w W := by rw [hW]; exact (Grew.refl _).alloc _
    clear hW
    have hDW := hD.grew g0
    go_wp2_with (first | (go_at_call 130; ((with_reducible refine (good_any x _ _ ?_ Hw.out).mono ?_); (focus (first | (with_reducible assumption) | (with_reducible refine FS.ext ?_ _ _; with_reducible assumption) | (with_reducible refine IS.ext ?_ _ _; with_reducible assumption) | (refine hDu _ ?_; with_reducible assumption) | (refine hOu _ ?_; with_reducible assumption) | (refine hDa _ ?_; with_reducible assumption) | (refine hDb _ ?_; with_reducible assumption) | (refine hDc _ ?_; with_reducible assumption) | (refine hDd _ ?_; with_reducible assumption) | (refine FW.fs ?_ (by omega) _; with_reducible assumption) | (refine WS.fs ?_; with_reducible assumption) | (refine FW.fs ?_ (by omega) _; assumption) | omega | assumption)); rintro e w1 ⟨rfl, o1, n1, rfl⟩)))
    go_ret
    exact ⟨by unfold rowsE; rw [q]; rfl, No.out _ (by (show Grew _ _; repeat (first | (with_reducible exact Grew.refl _) | (with_reducible assumption) | (with_reducible refine Grew.ext ?_ _ _) | (with_reducible refine Grew.alloc ?_ _) | ((with_reducible refine Grew.setCell ?_ ?_ _); rotate_left; (focus (dsimp only; first | omega | (simp only [size_ext, World.size_alloc, Array.size_append]; omega)))) | (with_reducible refine Grew.drewN ?_ _) | (with_reducible refine Grew.drew ?_)))) q⟩
  have d1 : decide (i < 0) = false := by simpa using c1
  by_cases c2 : k < 0
  · have q : rowsOk x i k = false := by simp [rowsOk]; omega
    have d2 : decide (k < 0) = true := by simpa using c2
    go_enter Try.func44, Try.ntmps44
    refine seq_stop ?_
    go_wp2
    refine stop_go (fun W hW => ?_)
    have s1 : w.heap.size < W.heap.size := by rw [hW]; simp only [World.size_alloc]; omega
    have b1 : ∀ i, W.cell? ⟨w.heap.size, i, none⟩ = (#[.slice (some ⟨g, 0, none⟩) x.ws.length cap, .int .i64 x.off, .int .i64 x.rows, .int .i64 x.cols, .int .i64 x.ld] : Array Value)[i]? := by intro i; rw [hW]; go_simp
    have g0 : Grew w W := by rw [hW]; exact (Grew.refl _).alloc _
    clear hW
    have hDW := hD.grew g0
    go_wp2_with (first | (go_at_call 130; ((with_reducible refine (good_any x _ _ ?_ Hw.out).mono ?_); (focus (first | (with_reducible assumption) | (with_reducible refine FS.ext ?_ _ _; with_reducible assumption) | (with_reducible refine IS.ext ?_ _ _; with_reducible assumption) | (refine hDu _ ?_; with_reducible assumption) | (refine hOu _ ?_; with_reducible assumption) | (refine hDa _ ?_; with_reducible assumption) | (refine hDb _ ?_; with_reducible assumption) | (refine hDc _ ?_; with_reducible assumption) | (refine hDd _ ?_; with_reducible assumption) | (refine FW.fs ?_ (by omega) _; with_reducible assumption) | (refine WS.fs ?_; with_reducible assumption) | (refine FW.fs ?_ (by omega) _; assumption) | omega | assumption)); rintro e w1 ⟨rfl, o1, n1, rfl⟩)))
    go_ret
    exact ⟨by unfold rowsE; rw [q]; rfl, No.out _ (by (show Grew _ _; repeat (first | (with_reducible exact Grew.refl _) | (with_reducible assumption) | (with_reducible refine Grew.ext ?_ _ _) | (with_reducible refine Grew.alloc ?_ _) | ((with_reducible refine Grew.setCell ?_ ?_ _); rotate_left; (focus (dsimp only; first | omega | (simp only [size_ext, World.size_alloc, Array.size_append]; omega)))) | (with_reducible refine Grew.drewN ?_ _) | (with_reducible refine Grew.drew ?_)))) q⟩
  have d2 : decide (k < 0) = false := by simpa using c2
  by_cases c3 : x.rows ≤ i
  · have q : rowsOk x i k = false := by simp [rowsOk]; omega
    have d3 : decide (x.rows ≤ i) = true := by simpa using c3
    go_enter Try.func44, Try.ntmps44
    refine seq_stop ?_
    go_wp2
    refine stop_go (fun W hW => ?_)
    have s1 : w.heap.size < W.heap.size := by rw [hW]; simp only [World.size_alloc]; omega
    have b1 : ∀ i, W.cell? ⟨w.heap.size, i, none⟩ = (#[.slice (some ⟨g, 0, none⟩) x.ws.length cap, .int .i64 x.off, .int .i64 x.rows, .int .i64 x.cols, .int .i64 x.ld] : Array Value)[i]? := by intro i; rw [hW]; go_simp
    have g0 : Grew w W := by rw [hW]; exact (Grew.refl _).alloc _
    clear hW
    have hDW := hD.grew g0
    go_wp2_with (first | (go_at_call 130; ((with_reducible refine (good_any x _ _ ?_ Hw.out).mono ?_); (focus (first | (with_reducible assumption) | (with_reducible refine FS.ext ?_ _ _; with_reducible assumption) | (with_reducible refine IS.ext ?_ _ _; with_reducible assumption) | (refine hDu _ ?_; with_reducible assumption) | (refine hOu _ ?_; with_reducible assumption) | (refine hDa _ ?_; with_reducible assumption) | (refine hDb _ ?_; with_reducible assumption) | (refine hDc _ ?_; with_reducible assumption) | (refine hDd _ ?_; with_reducible assumption) | (refine FW.fs ?_ (by omega) _; with_reducible assumption) | (refine WS.fs ?_; with_reducible assumption) | (refine FW.fs ?_ (by omega) _; assumption) | omega | assumption)); rintro e w1 ⟨rfl, o1, n1, rfl⟩)))
    go_ret
    exact ⟨by unfold rowsE; rw [q]; rfl, No.out _ (by (show Grew _ _; repeat (first | (with_reducible exact Grew.refl _) | (with_reducible assumption) | (with_reducible refine Grew.ext ?_ _ _) | (with_reducible refine Grew.alloc ?_ _) | ((with_reducible refine Grew.setCell ?_ ?_ _); rotate_left; (focus (dsimp only; first | omega | (simp only [size_ext, World.size_alloc, Array.size_append]; omega)))) | (with_reducible refine Grew.drewN ?_ _) | (with_reducible refine Grew.drew ?_)))) q⟩
  have d3 : decide (x.rows ≤ i) = false := by simpa using c3
  by_cases c4 : x.rows ≤ k
  · have q : rowsOk x i k = false := by simp [rowsOk]; omega
    have d4 : decide (x.rows ≤ k) = true := by simpa using c4
    go_enter Try.func44, Try.ntmps44
    refine seq_stop ?_
    go_wp2
    refine stop_go (fun W hW => ?_)
    have s1 : w.heap.size < W.heap.size := by rw [hW]; simp only [World.size_alloc]; omega
    have b1 : ∀ i, W.cell? ⟨w.heap.size, i, none⟩ = (#[.slice (some ⟨g, 0, none⟩) x.ws.length cap, .int .i64 x.off, .int .i64 x.rows, .int .i64 x.cols, .int .i64 x.ld] : Array Value)[i]? := by intro i; rw [hW]; go_simp
    have g0 : Grew w W := by rw [hW]; exact (Grew.refl _).alloc _
    clear hW
    have hDW := hD.grew g0
    go_wp2_with (first | (go_at_call 130; ((with_reducible refine (good_any x _ _ ?_ Hw.out).mono ?_); (focus (first | (with_reducible assumption) | (with_reducible refine FS.ext ?_ _ _; with_reducible assumption) | (with_reducible refine IS.ext ?_ _ _; with_reducible assumption) | (refine hDu _ ?_; with_reducible assumption) | (refine hOu _ ?_; with_reducible assumption) | (refine hDa _ ?_; with_reducible assumption) | (refine hDb _ ?_; with_reducible assumption) | (refine hDc _ ?_; with_reducible assumption) | (refine hDd _ ?_; with_reducible assumption) | (refine FW.fs ?_ (by omega) _; with_reducible assumption) | (refine WS.fs ?_; with_reducible assumption) | (refine FW.fs ?_ (by omega) _; assumption) | omega | assumption)); rintro e w1 ⟨rfl, o1, n1, rfl⟩)))
    go_ret
    exact ⟨by unfold rowsE; rw [q]; rfl, No.out _ (by (show Grew _ _; repeat (first | (with_reducible exact Grew.refl _) | (with_reducible assumption) | (with_reducible refine Grew.ext ?_ _ _) | (with_reducible refine Grew.alloc ?_ _) | ((with_reducible refine Grew.setCell ?_ ?_ _); rotate_left; (focus (dsimp only; first | omega | (simp only [size_ext, World.size_alloc, Array.size_append]; omega)))) | (with_reducible refine Grew.drewN ?_ _) | (with_reducible refine Grew.drew ?_)))) q⟩
  have d4 : decide (x.rows ≤ k) = false := by simpa using c4
  have q : rowsOk x i k = true := by simp [rowsOk, Hgd.out]; omega
  by_cases c5 : i = k
  · subst c5
    go_enter Try.func44, Try.ntmps44
    refine seq_stop ?_
    go_wp2
    refine stop_go (fun W hW => ?_)
    have s1 : w.heap.size < W.heap.size := by rw [hW]; simp only [World.size_alloc]; omega
    have b1 : ∀ i, W.cell? ⟨w.heap.size, i, none⟩ = (#[.slice (some ⟨g, 0, none⟩) x.ws.length cap, .int .i64 x.off, .int .i64 x.rows, .int .i64 x.cols, .int .i64 x.ld] : Array Value)[i]? := by intro i; rw [hW]; go_simp
    have g0 : Grew w W := by rw [hW]; exact (Grew.refl _).alloc _
    clear hW
    have hDW := hD.grew g0
    go_wp2_with (first | (go_at_call 130; ((with_reducible refine (good_any x _ _ ?_ Hw.out).mono ?_); (focus (first | (with_reducible assumption) | (with_reducible refine FS.ext ?_ _ _; with_reducible assumption) | (with_reducible refine IS.ext ?_ _ _; with_reducible assumption) | (refine hDu _ ?_; with_reducible assumption) | (refine hOu _ ?_; with_reducible assumption) | (refine hDa _ ?_; with_reducible assumption) | (refine hDb _ ?_; with_reducible assumption) | (refine hDc _ ?_; with_reducible assumption) | (refine hDd _ ?_; with_reducible assumption) | (refine FW.fs ?_ (by omega) _; with_reducible assumption) | (refine WS.fs ?_; with_reducible assumption) | (refine FW.fs ?_ (by omega) _; assumption) | omega | assumption)); rintro e w1 ⟨rfl, o1, n1, rfl⟩)))
    go_ret
    exact ⟨by unfold rowsE; rw [q]; rfl, by unfold rowsL; simp only [ne_eq, not_true_eq_false, and_false, if_false]; exact Wrote.grew_r (Wrote.refl hF) (by (show Grew _ _; repeat (first | (with_reducible exact Grew.refl _) | (with_reducible assumption) | (with_reducible refine Grew.ext ?_ _ _) | (with_reducible refine Grew.alloc ?_ _) | ((with_reducible refine Grew.setCell ?_ ?_ _); rotate_left; (focus (dsimp only; first | omega | (simp only [size_ext, World.size_alloc, Array.size_append]; omega)))) | (with_reducible refine Grew.drewN ?_ _) | (with_reducible refine Grew.drew ?_))))⟩
  · have d5 : (i != k) = true := by simpa using c5
    have hL : rowsL x i k = swaps x.ws (rowV x i.toNat).place (rowV x k.toNat).place x.cols.toNat := by unfold rowsL; rw [if_pos ⟨q, c5⟩]
    obtain ⟨a, rfl⟩ : ∃ a : Nat, i = a := ⟨i.toNat, by omega⟩
    obtain ⟨b, rfl⟩ : ∃ b : Nat, k = b := ⟨k.toNat, by omega⟩
    have ha : (a : Int) < x.rows := by omega
    have hb : (b : Int) < x.rows := by omega
    have r1 := hid (rowV_right Hgd.out ha)
    have r2 := hid (rowV_right Hgd.out hb)
    have v1 := hid (rowV_wf Hgd.out Hw.out ha hl)
    have v2 := hid (rowV_wf Hgd.out Hw.out hb hl)
    have HL := hid hL
    have Q := hid q
    clear hL q
    go_enter Try.func44, Try.ntmps44
    refine seq_stop ?_
    go_wp2
    refine stop_go (fun W hW => ?_)
    have s1 : w.heap.size < W.heap.size := by rw [hW]; simp only [World.size_alloc]; omega
    have b1 : ∀ i, W.cell? ⟨w.heap.size, i, none⟩ = (#[.slice (some ⟨g, 0, none⟩) x.ws.length cap, .int .i64 x.off, .int .i64 x.rows, .int .i64 x.cols, .int .i64 x.ld] : Array Value)[i]? := by intro i; rw [hW]; go_simp
    have g0 : Grew w W := by rw [hW]; exact (Grew.refl _).alloc _
    clear hW
    have hDW := hD.grew g0
    have hFW := hF.grew g0
    have gl := hFW.lt
    have q1 : w.heap.size ≠ g := by omega
    obtain ⟨cs0, hs0, hcs0⟩ := hFW.self
    have HS := hid hs0
    clear hs0
    have hsw : ∀ o n, Calls Try.prog 131 #[.agg #[.slice (some ⟨g, 0, none⟩) x.ws.length cap, .int .i64 (rowV x a).off, .int .i64 x.cols, .int .i64 x.ld], .agg #[.slice (some ⟨g, 0, none⟩) x.ws.length cap, .int .i64 (rowV x b).off, .int .i64 x.cols, .int .i64 x.ld]] (ext (upd W g cs0) o n)
       (fun e w' => e = .returned (.tuple #[]) ∧ Wrote (ext (upd W g cs0) o n) w' g (swaps x.ws (rowV x a).place (rowV x b).place x.cols.toNat)) := fun o n =>
      swap1_any (rowV x a) (rowV x b) g cap _ (hFW.mk' hcs0 o n) rfl r1.out r2.out v1.out v2.out rfl hl
    have hD2 : ∀ o n, FS (ext (upd W g cs0) o n) (.slice (some ⟨g, 0, none⟩) x.ws.length cap) x.ws := fun o n => (hFW.mk' hcs0 o n).fs (by omega) cap
    go_wp2_with (first | (go_at_call 130; ((with_reducible refine (good_any x _ _ ?_ Hw.out).mono ?_); (focus (first | (with_reducible assumption) | (with_reducible refine FS.ext ?_ _ _; with_reducible assumption) | (with_reducible refine IS.ext ?_ _ _; with_reducible assumption) | (refine hDu _ ?_; with_reducible assumption) | (refine hOu _ ?_; with_reducible assumption) | (refine hDa _ ?_; with_reducible assumption) | (refine hDb _ ?_; with_reducible assumption) | (refine hDc _ ?_; with_reducible assumption) | (refine hDd _ ?_; with_reducible assumption) | (refine FW.fs ?_ (by omega) _; with_reducible assumption) | (refine WS.fs ?_; with_reducible assumption) | (refine FW.fs ?_ (by omega) _; assumption) | omega | assumption)); rintro e w1 ⟨rfl, o1, n1, rfl⟩)))
    rw [show ext W o1 n1 = ext (upd W g cs0) o1 n1 by rw [HS.out]]
    refine wp_region_R (Over W g) [] [(0,0), (0,1), (0,3), (0,4), (1,2), (1,5), (1,6)] (by kernel_rfl) (by kernel_rfl) (fun _ _ _ _ h _ => h) ⟨_, _, _, ext_drew⟩ ?_
    go_wp2_with (first
      | ((with_reducible refine wpR_id ?_); first | (refine wpR_take (v := ?_) rfl rfl ?_ ?_; rotate_left; (focus (rintro w' ⟨cs', o', n', rfl⟩; go_simp; try with_reducible rfl)); simp only [Act.put, List.setIfInBounds_toArray, List.set_cons_zero, List.set_cons_succ]) | (refine wpR_pure (v := ?_) rfl rfl ?_ ?_; rotate_left; (focus (intro w'; go_simp; try with_reducible rfl)); simp only [Act.put, List.setIfInBounds_toArray, List.set_cons_zero, List.set_cons_succ]) | (refine wpR_takeG (v := ?_) rfl rfl rfl rfl rfl ?_ ?_; rotate_left; (focus (rintro w' ⟨cs', o', n', rfl⟩; go_simp; try with_reducible rfl)); simp only [Act.put, List.setIfInBounds_toArray, List.set_cons_zero, List.set_cons_succ]) | (refine wpR_skip rfl rfl rfl rfl rfl rfl ?_; simp only [Act.put, List.setIfInBounds_toArray, List.set_cons_zero, List.set_cons_succ]) | (refine wpR_skipU rfl rfl rfl rfl rfl ?_; simp only [Act.put, List.setIfInBounds_toArray, List.set_cons_zero, List.set_cons_succ]) | (refine wpR_do rfl rfl (fun K hK => ?_)) | (refine wpR_doG rfl rfl rfl rfl rfl (fun K hK => ?_)) | (refine wpR_last rfl rfl (fun K hK => ?_)) | (refine wpR_nil ?_)) | ((with_reducible refine wpR_go ?_ ?_); (focus exact ⟨_, _, _, rfl⟩)) | ((with_reducible refine upon_id ?_); refine upon_fop rfl (by assumption) (by assumption) ?_; intro rr nn hr)
      | (go_at_call 132; ((with_reducible refine (row_any x _ a _ (hD2 _ _) Hgd.out Hw.out ha).mono ?_); rintro e w1 ⟨rfl, o2, n2, rfl⟩))
      | (go_at_call 132; ((with_reducible refine (row_any x _ b _ (hD2 _ _) Hgd.out Hw.out hb).mono ?_); rintro e w1 ⟨rfl, o2, n2, rfl⟩))
      | (go_at_call 131; ((with_reducible refine (hsw _ _).mono ?_); rintro e w1 ⟨rfl, hw⟩; obtain ⟨cs2, o4, n4, rfl, hcs2⟩ := Wrote.trans ⟨cs0, _, _, rfl, hcs0⟩ gl hw)))
    go_ret
    exact ⟨by unfold rowsE; rw [Q.out]; rfl, Wrote.grew_l g0 (by omega) ⟨cs2, _, _, rfl, by rw [HL.out]; exact hcs2⟩⟩
end Go.Proofs.Ytcmggfpcbijcjaa
end
