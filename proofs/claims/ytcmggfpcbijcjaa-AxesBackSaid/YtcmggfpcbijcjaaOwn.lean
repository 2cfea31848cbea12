/-
  Slices of floats that a call makes itself: appends; lists that may be written, and what a write does.
-/
import Derived.Test.YtcmggfpcbijcjaaMem
import Derived.OwnWalk
import Derived.Laws.AppendOwnNone
set_option linter.unusedSimpArgs false
set_option linter.unusedVariables false
namespace Sedge
open Go Go.RowKit

/-- The slice v of ours owns the floats xs, in blocks from B on. -/
def OwnF (e : TypeId) (w : World) (B : Nat) (v : Value) (xs : List Nat) : Prop :=
  ∃ bs : List Nat, w.ownsRow B e 1 v bs.length (bs.map (Value.float .f64)) ∧ bs.map canon = xs ∧ ∀ b ∈ bs, b < 2 ^ 64

theorem OwnF.nil (e : TypeId) (w : World) (B : Nat) : OwnF e w B (.slice none 0 0) [] := ⟨[], ⟨by simp, .inl ⟨rfl, rfl⟩⟩, rfl, by simp⟩
theorem OwnF.length {e : TypeId} {w : World} {B : Nat} {v : Value} {xs : List Nat} (h : OwnF e w B v xs) : ∃ a cap, v = .slice a xs.length cap := by
  obtain ⟨bs, ⟨_, h1⟩, rfl, _⟩ := h
  rcases h1 with ⟨rfl, h1⟩ | ⟨g, cap, cur, rfl, _⟩
  · exact ⟨none, 0, by simp [h1]⟩
  · exact ⟨some ⟨g, 0, none⟩, cap, by simp⟩
theorem take_getElem? {α : Type} {l m : List α} {k i : Nat} (h : l.take k = m) (hi : i < m.length) : l[i]? = m[i]? := by
  subst h
  rw [List.getElem?_take_of_lt (by simp at hi; omega)]
theorem OwnF.fs {e : TypeId} {w : World} {B : Nat} {v : Value} {xs : List Nat} (h : OwnF e w B v xs) (hl : xs.length ≤ 9223372036854775807) : FS w v xs := by
  obtain ⟨bs, ⟨_, h1⟩, rfl, hb⟩ := h
  rcases h1 with ⟨rfl, h1⟩ | ⟨g, cap, cur, rfl, _, hh, hn, hm, hsz, ht⟩
  · have : bs = [] := List.length_eq_zero_iff.1 h1
    subst this; exact FS.nil w
  · refine ⟨hl, some ⟨g, 0, none⟩, cap, by simp, (fun h => by cases h), fun i hi => ⟨g, 0, bs.getD i 0, rfl, ?_, ?_⟩⟩
    · have hi' : i < bs.length := by simpa using hi
      rw [Nat.mul_one] at ht
      have := take_getElem? (i := i) ht (by simpa using hi')
      simp only [World.cell?, hh, Nat.zero_add, Option.isSome_none, Bool.false_eq_true, if_false]
      rw [← Array.getElem?_toList, this]
      simp [List.getD_eq_getElem?_getD, hi']
    · have hi' : i < bs.length := by simpa using hi
      have hm : bs.getD i 0 ∈ bs := by rw [List.getD_eq_getElem?_getD, List.getElem?_eq_getElem hi']; exact List.getElem_mem hi'
      refine ⟨hb _ hm, ?_⟩
      simp [List.getD_eq_getElem?_getD, hi']
theorem OwnF.grew {e : TypeId} {w w' : World} {B : Nat} {v : Value} {xs : List Nat} (h : OwnF e w B v xs) (g : Grew w w') : OwnF e w' B v xs := by
  obtain ⟨bs, ⟨h0, h1⟩, h2, h3⟩ := h
  refine ⟨bs, ⟨h0, ?_⟩, h2, h3⟩
  rcases h1 with h1 | ⟨gg, cap, cur, hv, hB, hh, r⟩
  · exact .inl h1
  · have hlt : gg < w.heap.size := by
      rcases Nat.lt_or_ge gg w.heap.size with h | h
      · exact h
      · rw [Array.getElem?_eq_none h] at hh; cases hh
    exact .inr ⟨gg, cap, cur, hv, hB, by rw [g.below.block gg hlt]; exact hh, r⟩
theorem OwnF.ext {e : TypeId} {w : World} {B : Nat} {v : Value} {xs : List Nat} (h : OwnF e w B v xs) (o : Array Obj) (n : Nat) : OwnF e (ext w o n) B v xs := h.grew ⟨_, _, rfl⟩
theorem OwnF.alloc {e : TypeId} {w : World} {B : Nat} {v : Value} {xs : List Nat} (h : OwnF e w B v xs) (o : Obj) : OwnF e (w.alloc o) B v xs := h.grew ((Grew.refl _).alloc o)
/-- A new block without cells. -/
theorem OwnF.empty {e : TypeId} {w : World} {B n : Nat} (hn : n = w.heap.size) (hB : B ≤ n) : OwnF e (w.alloc (.cells #[] e)) B (.slice (some ⟨n, 0, none⟩) 0 0) [] := by
  subst hn
  refine ⟨[], ⟨by simp, .inr ⟨_, 0, #[], rfl, hB, ?_, by simp, by simp, by simp, by simp⟩⟩, rfl, by simp⟩
  show (w.heap.push _)[w.heap.size]? = _
  simp

theorem grew_grown {W w w' : World} {row : Option Nat} (hW : Grew W w) (hg : w.grownBy w' row) (hr : ∀ k, row = some k → W.heap.size ≤ k) : Grew W w' := by
  refine Grew.of_below ?_
  have hb := hW.below
  exact hb.grown hg hb.size hr
theorem OwnF.block {e : TypeId} {w : World} {B : Nat} {v : Value} {xs : List Nat} (h : OwnF e w B v xs) : ∀ k, v.ownBlock = some k → B ≤ k := by
  obtain ⟨bs, ⟨_, h1⟩, _, _⟩ := h
  intro k hk
  rcases h1 with ⟨rfl, _⟩ | ⟨g, cap, cur, rfl, hB, _⟩
  · simp [Value.ownBlock] at hk
  · simp [Value.ownBlock] at hk; omega

/-- What the program's table says of a type of slices of floats. -/
structure ElemF (P : Program) (t e : TypeId) : Prop where
  und : P.underlying t = some (.slice e)
  info : (P.info? e).map (fun i => (i.zero, i.size, i.bytes)) = some (some (.float .f64 0), 1, 8)

section
variable {P : Program} {ops : Array Oper} {rest : List Oper} {o : Oper} {a : Act} {Q : Exit → Act → World → Prop}
/-- 'append(s, x)' of one float. -/
theorem append1_f {t e e' : TypeId} (T : ElemF P t e) {W w : World} (hW : Grew W w) {v : Value} {xs : List Nat} (hown : OwnF e w W.heap.size v xs) {b y : Nat} (hy : IsF b y)
    (hlen : xs.length < 17592186044415) (s x : Operand) (hg : o.guard = none)
    (ho : o.op = .call { callee := .builtin .append, args := #[s, x], argTypes := #[t, t] }) (hs : a.eval s = v) {k : Nat} (hk : k = w.heap.size) (hx : a.eval x = .slice (some ⟨k, 0, none⟩) 1 1)
    (h : ∀ v' oo nn, OwnF e (ext W oo nn) W.heap.size v' (xs ++ [y]) → v' ≠ .slice none 0 0 → wpList P ops Q rest (a.put o.dst v') (ext W oo nn)) :
    wpList P ops Q (o :: rest) a (w.alloc (.cells #[.float .f64 b] e')) := by
  subst hk
  obtain ⟨i0, hi, hz0, hz1, hz2⟩ := info_parts T.info
  have hblk := hown.block
  have h' := hown.alloc (.cells #[.float .f64 b] e')
  obtain ⟨bs, ho1, rfl, hb⟩ := h'
  have hl : bs.length < 17592186044415 := by simpa using hlen
  refine wpList_append_own _ hg s x t ho W.heap.size e i0 (.float .f64 0) 1 8 T.und hi hz0 hz1 hz2 rfl (by decide) v bs.length _ hs ho1 ⟨w.heap.size, 0, none⟩ 1 1 [.float .f64 b] hx rfl ?_ ?_ ?_ ?_ ?_ ?_
  · intro j u hj
    match j, hj with
    | 0, hj =>
      simp at hj; subst hj
      have e1 : (⟨w.heap.size, 0, none⟩ : Addr).add 0 = ⟨w.heap.size, 0, none⟩ := by simp [Addr.add]
      rw [e1, World.cell?_alloc_new]; rfl
  · intro u hu; simp at hu; subst hu; rfl
  · simp [maxLen]; omega
  · omega
  · have := hW.below.size; simp; omega
  · intro v' w' ho2 hgr hnn
    obtain ⟨oo, nn, rfl⟩ := grew_grown (hW.alloc (.cells #[.float .f64 b] e')) hgr hblk
    refine h v' oo nn ⟨bs ++ [b], by simpa using ho2, by simp [hy.2], fun z hz => ?_⟩ (fun h0 => by have := (hnn.1 h0).2; cases this)
    rcases List.mem_append.1 hz with hz | hz
    · exact hb z hz
    · simp at hz; subst hz; exact hy.1
/-- 'append(s, src...)'. -/
theorem appendN_f {t e : TypeId} (T : ElemF P t e) {W w : World} (hW : Grew W w) {v : Value} {xs : List Nat} (hown : OwnF e w W.heap.size v xs) {D : Value} {ws : List Nat} (hD : FS w D ws)
    (hlen : xs.length + ws.length < 17592186044415) (s x : Operand) (hg : o.guard = none)
    (ho : o.op = .call { callee := .builtin .append, args := #[s, x], argTypes := #[t, t] }) (hs : a.eval s = v) (hx : a.eval x = D)
    (h : ∀ v' oo nn, OwnF e (ext W oo nn) W.heap.size v' (xs ++ ws) → (v ≠ .slice none 0 0 → v' ≠ .slice none 0 0) → wpList P ops Q rest (a.put o.dst v') (ext W oo nn)) :
    wpList P ops Q (o :: rest) a w := by
  obtain ⟨i0, hi, hz0, hz1, hz2⟩ := info_parts T.info
  have hblk := hown.block
  obtain ⟨bs, ho1, rfl, hb⟩ := hown
  obtain ⟨ad, cap, rfl⟩ := hD.shape
  have hat := hD.at.2
  have hl : bs.length + ws.length < 17592186044415 := by simpa using hlen
  cases ad with
  | none =>
    have hw0 : ws = [] := by
      rcases Nat.eq_zero_or_pos ws.length with h0 | h0
      · exact List.length_eq_zero_iff.1 h0
      · obtain ⟨_, _, hh, _⟩ := hat h0; cases hh
    subst hw0
    have hcap := hD.nilcap rfl
    subst hcap
    · refine wpList_append_own_none hg s x t ho W.heap.size e i0 1 T.und hi v bs.length _ hs ho1 hx ?_
      obtain ⟨oo, nn, rfl⟩ := hW
      exact h v oo nn ⟨bs, ho1, by simp, hb⟩ id
  | some ad =>
    let f : Nat → Nat := fun i => match w.cell? (ad.add i) with | some (.float _ b) => b | _ => 0
    have each : ∀ i, i < ws.length → w.cell? (ad.add i) = some (.float .f64 (f i)) ∧ IsF (f i) (ws.getD i 0) := by
      intro i hi
      obtain ⟨blk, o, he, _, hc⟩ := hat (by omega)
      cases he
      obtain ⟨b, h1, h2⟩ := hc i hi
      have e1 : (⟨blk, o, none⟩ : Addr).add i = ⟨blk, o + i, none⟩ := by
        unfold Addr.add; split
        · rename_i h0; subst h0; rfl
        · rfl
      have : f i = b := by simp only [f]; rw [e1, h1]
      rw [this, e1]
      exact ⟨h1, h2⟩
    have hmap : ((List.range ws.length).map f).map canon = ws := by
      apply List.ext_getElem (by simp)
      intro i h1 h2
      simp only [List.getElem_map, List.getElem_range]
      have := (each i (by simpa using h2)).2.2
      rw [this, List.getD_eq_getElem?_getD, List.getElem?_eq_getElem h2]; rfl
    refine wpList_append_own _ hg s x t ho W.heap.size e i0 (.float .f64 0) 1 8 T.und hi hz0 hz1 hz2 rfl (by decide) v bs.length _ hs ho1 ad ws.length cap (((List.range ws.length).map f).map (Value.float .f64)) hx (by simp) ?_ ?_ ?_ ?_ ?_ ?_
    · intro j u hj
      have hj' : j < ws.length := by have := (List.getElem?_eq_some_iff.1 hj).1; simpa using this
      simp [hj'] at hj
      subst hj
      exact (each j hj').1
    · intro u hu; simp at hu; obtain ⟨_, _, rfl⟩ := hu; rfl
    · simp [maxLen]; omega
    · omega
    · exact hW.below.size
    · intro v' w' ho2 hgr hnn
      obtain ⟨oo, nn, rfl⟩ := grew_grown hW hgr hblk
      refine h v' oo nn ⟨bs ++ (List.range ws.length).map f, by simpa using ho2, by rw [List.map_append, hmap], fun z hz => ?_⟩ (fun h1 h2 => h1 (hnn.1 h2).1)
      rcases List.mem_append.1 hz with hz | hz
      · exact hb z hz
      · obtain ⟨i, hi, rfl⟩ := List.mem_map.1 hz
        exact (each i (by simpa using hi)).2.1
/-- 'make([]float64, n)'. -/
theorem make_f {t e : TypeId} (T : ElemF P t e) {W w : World} (hW : Grew W w) (l c : Operand) (hg : o.guard = none) (hop : o.op = Op.makeSlice t l c) (n : Nat) {L : Int} (hL : L = n) (hl : a.eval l = .int .i64 L) (hc : a.eval c = .int .i64 L)
    (hn : n ≤ 17592186044415)
    (h : ∀ oo nn k, W.heap.size ≤ k → OwnF e (ext W oo nn) W.heap.size (.slice (some ⟨k, 0, none⟩) n n) (List.replicate n 0) → wpList P ops Q rest (a.put o.dst (.slice (some ⟨k, 0, none⟩) n n)) (ext W oo nn)) :
    wpList P ops Q (o :: rest) a w := by
  obtain ⟨i0, hi, hz0, hz1, hz2⟩ := info_parts T.info
  refine wpList_make_full w hg l c t hop W.heap.size e i0 (.float .f64 0) 1 T.und hi hz0 hz1 .i64 .i64 L L n hl hc hL hL (by rw [hz2]; omega) (by simp [maxLen]; omega) hW.below.size ?_
  intro w' ho hgr
  obtain ⟨oo, nn, rfl⟩ := grew_grown hW hgr (fun k hk => by cases hk)
  refine h oo nn _ hW.below.size ⟨List.replicate n 0, ?_, by simp; right; decide +kernel, fun b hb => by rw [List.eq_of_mem_replicate hb]; decide⟩
  have e1 : (madeCells (Value.float .f64 0).cells (n * 1)).toList = List.map (Value.float .f64) (List.replicate n 0) := by
    apply List.ext_getElem?
    intro k
    simp [madeCells, Value.cells, Nat.mod_one]
    by_cases hk : k < n <;> simp [hk]
  rw [← e1]; simpa using ho
end
end Sedge
