/-
  Texts laid one behind the other (a claim has at most 60 files): Equil3, Dense, Equil5, Cpy, Dense0, MatD, Shf1, Clone.
-/
import Derived.Deep.CutBlock
import Derived.Deep.DeepCutAuto
import Derived.Laws.CopyOwn
import Derived.Test.YtcmggfpcbijcjaaQEquilScales1
import Derived.Test.YtcmggfpcbijcjaaQEquilScales2
import Derived.Test.YtcmggfpcbijcjaaQEquilScales3
import Derived.Test.YtcmggfpcbijcjaaQEquilScales4
import Derived.Test.YtcmggfpcbijcjaaQEquilScales5
import Derived.Test.YtcmggfpcbijcjaaQEquilScales6
section
/-
  Contract: equil.Factors.
-/
set_option linter.unusedSimpArgs false
set_option linter.unusedVariables false
open Go Go.RowKit Sedge
namespace Go.Proofs.Ytcmggfpcbijcjaa
def rowB (M : Nat → Nat → Nat) (C i : Nat) : Option Int := bestTo (fun j => M i j) (fun j => fexp (M i j)) C
def rowsTo' (M : Nat → Nat → Nat) (C n : Nat) : List Int := (List.range n).map fun i => -(bestI (rowB M C i))
def colB (M : Nat → Nat → Nat) (R : Nat) (rs : List Int) (j : Nat) : Option Int := bestTo (fun i => M i j) (fun i => fexp (M i j) + rs.getD i 0) R
def colsTo' (M : Nat → Nat → Nat) (R : Nat) (rs : List Int) (n : Nat) : List Int := (List.range n).map fun j => -(bestI (colB M R rs j))
theorem rowsTo'_succ (M : Nat → Nat → Nat) (C n : Nat) : rowsTo' M C (n + 1) = rowsTo' M C n ++ [-(bestI (rowB M C n))] := by unfold rowsTo'; rw [List.range_succ, List.map_append]; rfl
theorem colsTo'_succ (M : Nat → Nat → Nat) (R : Nat) (rs : List Int) (n : Nat) : colsTo' M R rs (n + 1) = colsTo' M R rs n ++ [-(bestI (colB M R rs n))] := by unfold colsTo'; rw [List.range_succ, List.map_append]; rfl
theorem rowsTo'_length (M : Nat → Nat → Nat) (C n : Nat) : (rowsTo' M C n).length = n := by simp [rowsTo']
theorem colsTo'_length (M : Nat → Nat → Nat) (R : Nat) (rs : List Int) (n : Nat) : (colsTo' M R rs n).length = n := by simp [colsTo']
theorem rowB_in {M : Nat → Nat → Nat} {C i : Nat} {b : Int} (h : rowB M C i = some b) : -1074 ≤ b ∧ b ≤ 1023 := by
  have : ∀ n b, bestTo (fun j => M i j) (fun j => fexp (M i j)) n = some b → -1074 ≤ b ∧ b ≤ 1023 := fun n => by
    induction n with
    | zero => intro b hb; cases hb
    | succ n ih =>
      intro b hb
      unfold bestTo at hb
      split at hb
      · exact ih b hb
      · have h1 := fexp_range' (M i n)
        cases hq : bestTo (fun j => M i j) (fun j => fexp (M i j)) n with
        | none => rw [hq] at hb; simp at hb; omega
        | some c => have h2 := ih c hq; rw [hq] at hb; simp at hb; omega
  exact this C b h
theorem rowsTo'_in {M : Nat → Nat → Nat} {C n : Nat} (h : ∀ k, k < n → rowB M C k ≠ none) (k : Nat) : -1023 ≤ (rowsTo' M C n).getD k 0 ∧ (rowsTo' M C n).getD k 0 ≤ 1074 := by
  by_cases hk : k < n
  · have e : (rowsTo' M C n).getD k 0 = -(bestI (rowB M C k)) := by
      unfold rowsTo'
      rw [List.getD_eq_getElem?_getD, List.getElem?_map, List.getElem?_range hk]; rfl
    rw [e]
    cases hq : rowB M C k with
    | none => exact absurd hq (h k hk)
    | some b => have := rowB_in hq; show -1023 ≤ -b ∧ -b ≤ 1074; omega
  · rw [List.getD_eq_getElem?_getD, List.getElem?_eq_none (by rw [rowsTo'_length]; omega)]; decide
/-- What comes out. -/
def FactsOut (M : Nat → Nat → Nat) (R C : Nat) (at' : Int) (rs cs : List Int) : Prop :=
  (∃ i, i < R ∧ at' = i + 1 ∧ rowB M C i = none ∧ (∀ k, k < i → rowB M C k ≠ none) ∧ rs = [] ∧ cs = []) ∨
  ((∀ k, k < R → rowB M C k ≠ none) ∧ ∃ j, j < C ∧ at' = R + j + 1 ∧ colB M R (rowsTo' M C R) j = none ∧ (∀ k, k < j → colB M R (rowsTo' M C R) k ≠ none) ∧ rs = [] ∧ cs = []) ∨
  ((∀ k, k < R → rowB M C k ≠ none) ∧ (∀ k, k < C → colB M R (rowsTo' M C R) k ≠ none) ∧ at' = 0 ∧ rs = rowsTo' M C R ∧ cs = colsTo' M R (rowsTo' M C R) C)
theorem FactsOut.unique {M : Nat → Nat → Nat} {R C : Nat} {a b : Int} {r c r' c' : List Int} (h : FactsOut M R C a r c) (k : FactsOut M R C b r' c') : a = b ∧ r = r' ∧ c = c' := by
  rcases h with ⟨i, h1, h2, h3, h4, h5, h6⟩ | ⟨h0, j, h1, h2, h3, h4, h5, h6⟩ | ⟨h0, h1, h2, h3, h4⟩
  · rcases k with ⟨i', k1, k2, k3, k4, k5, k6⟩ | ⟨k0, _⟩ | ⟨k0, _⟩
    · have e : i = i' := by
        rcases Nat.lt_trichotomy i i' with q | q | q
        · exact absurd h3 (k4 i q)
        · exact q
        · exact absurd k3 (h4 i' q)
      subst e
      exact ⟨by rw [h2, k2], by rw [h5, k5], by rw [h6, k6]⟩
    · exact absurd h3 (k0 i h1)
    · exact absurd h3 (k0 i h1)
  · rcases k with ⟨i', k1, k2, k3, k4, k5, k6⟩ | ⟨k0, j', k1, k2, k3, k4, k5, k6⟩ | ⟨k0, k1, _⟩
    · exact absurd k3 (h0 i' k1)
    · have e : j = j' := by
        rcases Nat.lt_trichotomy j j' with q | q | q
        · exact absurd h3 (k4 j q)
        · exact q
        · exact absurd k3 (h4 j' q)
      subst e
      exact ⟨by rw [h2, k2], by rw [h5, k5], by rw [h6, k6]⟩
    · exact absurd h3 (k1 j h1)
  · rcases k with ⟨i', k1, k2, k3, k4, k5, k6⟩ | ⟨k0, j', k1, k2, k3, k4, k5, k6⟩ | ⟨k0, k1, k2, k3, k4⟩
    · exact absurd k3 (h0 i' k1)
    · exact absurd k3 (h1 j' k1)
    · exact ⟨by rw [h2, k2], by rw [h3, k3], by rw [h4, k4]⟩
def errF (a : Int) : Int := if a = 0 then 0 else 4
theorem FactsOut.err {M : Nat → Nat → Nat} {R C : Nat} {a : Int} {r c : List Int} (h : FactsOut M R C a r c) : 0 ≤ a := by
  rcases h with ⟨i, _, h2, _⟩ | ⟨_, j, _, h2, _⟩ | ⟨_, _, h2, _⟩ <;> omega
theorem Box.set1 {w : World} {p : Nat} {cs : Array Value} (h : Box w p cs) (hs : cs.size = 1) (x : Value) : w.setCell ⟨p, 0, none⟩ x = upd w p #[x] := by
  have e : w = upd w p cs := h.self.symm
  rw [e, setCell_upd, upd_upd]
  congr 1
  match cs, hs with
  | ⟨[a]⟩, _ => rfl
theorem Box.set1_ext {w : World} {p : Nat} {cs : Array Value} (h : Box w p cs) (hs : cs.size = 1) (x : Value) (o : Array Obj) (n : Nat) : Sedge.ext (w.setCell ⟨p, 0, none⟩ x) o n = upd (Sedge.ext w o n) p #[x] := by
  rw [h.set1 hs, upd_ext h.lt]
theorem OwnI.upd_ne {w : World} {B : Nat} {v : Value} {zs : List Int} (h : OwnI w B v zs) {p : Nat} (hn : v.ownBlock ≠ some p) (cs : Array Value) : OwnI (upd w p cs) B v zs := by
  obtain ⟨h0, h1⟩ := h
  refine ⟨h0, ?_⟩
  rcases h1 with h1 | ⟨gg, cap, cur, rfl, hB, hh, r⟩
  · exact .inl h1
  · exact .inr ⟨gg, cap, cur, rfl, hB, by rw [block_upd_ne (fun e => hn (by rw [← e]; rfl))]; exact hh, r⟩
theorem _root_.Sedge.OwnI.same {w w' : World} {B : Nat} {v : Value} {zs : List Int} (h : OwnI w B v zs) (hs : ∀ k, v.ownBlock = some k → w'.heap[k]? = w.heap[k]?) : OwnI w' B v zs := by
  obtain ⟨h0, h1⟩ := h
  refine ⟨h0, ?_⟩
  rcases h1 with h1 | ⟨gg, cap, cur, rfl, hB, hh, r⟩
  · exact .inl h1
  · exact .inr ⟨gg, cap, cur, rfl, hB, by rw [hs gg rfl]; exact hh, r⟩
def badE (g : Bool) : Int := if g then 8 else 1
set_option maxRecDepth 100000 in
set_option maxHeartbeats 1000000 in
/-- equil.Factors, of what is no matrix, or not finite. -/
theorem efact_bad (x : MatM) (D : Value) (w : World) (hD : FS w D x.ws) (hwf : x.wf) (hl : x.ws.length ≤ 1000000) (hr : x.rows ≤ 1000) (hc : x.cols ≤ 1000) (hb : x.good = false ∨ finL (numL x) = false) :
    Calls Try.prog 102 #[.agg #[D, .int .i64 x.off, .int .i64 x.rows, .int .i64 x.cols, .int .i64 x.ld]] w (fun e w' => e = .returned (.tuple #[.slice none 0 0, .slice none 0 0, .int .i64 0, .int .i64 (badE x.good)]) ∧ ∃ o n, w' = ext w o n) := by
  have hgd : ∀ w', FS w' D x.ws → Calls Try.prog 130 #[.agg #[D, .int .i64 x.off, .int .i64 x.rows, .int .i64 x.cols, .int .i64 x.ld]] w' (fun e w2 => e = .returned (.bool x.good) ∧ ∃ o n, w2 = ext w' o n) := fun w' h => good_any x D w' h hwf
  have hfi : ∀ w', FS w' D x.ws → Calls Try.prog 174 #[.agg #[D, .int .i64 x.off, .int .i64 x.rows, .int .i64 x.cols, .int .i64 x.ld]] w' (fun e w2 => e = .returned (.bool (x.good && finL (numL x))) ∧ ∃ o n, w2 = ext w' o n) := fun w' h => mfin_any x D w' h hwf hl hr hc
  cases hg : x.good
  · rw [hg] at hgd
    rw [show badE false = 1 from rfl]
    clear hwf hb hfi hg
    go_enter Try.func102, Try.ntmps102
    refine seq_stop ?_
    go_wp2
    refine stop_go (fun W hW => ?_)
    have s1 : w.heap.size < W.heap.size := by rw [hW]; simp only [World.size_alloc]; omega
    have b1 : ∀ i, W.cell? ⟨w.heap.size, i, none⟩ = (#[D, .int .i64 x.off, .int .i64 x.rows, .int .i64 x.cols, .int .i64 x.ld] : Array Value)[i]? := by intro i; rw [hW]; go_simp
    have X1 : Box W (w.heap.size) #[D, .int .i64 x.off, .int .i64 x.rows, .int .i64 x.cols, .int .i64 x.ld] := by rw [hW]; refine Box.grew ?_ ((Grew.refl _).alloc _); exact Box.new' (by first | rfl | (simp only [World.size_alloc]; done) | (simp only [World.size_alloc]; omega))
    have f1 : ∀ i, W.frozen? ⟨w.heap.size, i, none⟩ = false := by intro i; rw [hW]; go_simp
    have s2 : w.heap.size + 1 < W.heap.size := by rw [hW]; simp only [World.size_alloc]; omega
    have b2 : ∀ i, W.cell? ⟨w.heap.size + 1, i, none⟩ = (#[.slice none 0 0] : Array Value)[i]? := by intro i; rw [hW]; go_simp
    have X2 : Box W (w.heap.size + 1) #[.slice none 0 0] := by rw [hW]; exact Box.new' (by first | rfl | (simp only [World.size_alloc]; done) | (simp only [World.size_alloc]; omega))
    have f2 : ∀ i, W.frozen? ⟨w.heap.size + 1, i, none⟩ = false := by intro i; rw [hW]; go_simp
    have g0 : Grew w W := by rw [hW]; exact ((Grew.refl _).alloc _).alloc _
    clear hW
    have hDW := hD.grew g0
    go_wp2_with (first | (go_at_call 130; ((with_reducible refine (hgd _ ?_).mono ?_); (focus (first | (with_reducible assumption) | (with_reducible refine FS.ext ?_ _ _; with_reducible assumption) | (with_reducible refine IS.ext ?_ _ _; with_reducible assumption) | (refine hDu _ ?_; with_reducible assumption) | (refine hOu _ ?_; with_reducible assumption) | (refine hDa _ ?_; with_reducible assumption) | (refine hDb _ ?_; with_reducible assumption) | (refine hDc _ ?_; with_reducible assumption) | (refine hDd _ ?_; with_reducible assumption) | (refine FW.fs ?_ (by omega) _; with_reducible assumption) | (refine WS.fs ?_; with_reducible assumption) | (refine FW.fs ?_ (by omega) _; assumption) | omega | assumption)); rintro e w1 ⟨rfl, o1, n1, rfl⟩)))
    refine bodyPost_ret (v := .tuple #[.slice none 0 0, .slice none 0 0, .int .i64 0, .int .i64 1]) (by simp [results, Try.results102, go_sem, *]) rfl ?_
    exact ⟨rfl, by (show Grew _ _; repeat (first | (with_reducible exact Grew.refl _) | (with_reducible assumption) | (with_reducible exact Grew.same_o) | (with_reducible exact Grew.app_o) | (with_reducible refine Grew.ext ?_ _ _) | (with_reducible refine Grew.alloc ?_ _) | ((with_reducible refine Grew.setCell ?_ ?_ _); rotate_left; (focus (dsimp only; first | omega | (simp only [size_ext, World.size_alloc, Array.size_append]; omega)))) | (with_reducible refine Grew.drewN ?_ _) | (with_reducible refine Grew.drew ?_)))⟩
  · have hff : finL (numL x) = false := by rcases hb with h | h; rw [hg] at h; cases h; exact h
    rw [hg] at hgd
    rw [hg, hff] at hfi
    rw [show badE true = 8 from rfl]
    clear hwf hb hg hff
    go_enter Try.func102, Try.ntmps102
    refine seq_stop ?_
    go_wp2
    refine stop_go (fun W hW => ?_)
    have s1 : w.heap.size < W.heap.size := by rw [hW]; simp only [World.size_alloc]; omega
    have b1 : ∀ i, W.cell? ⟨w.heap.size, i, none⟩ = (#[D, .int .i64 x.off, .int .i64 x.rows, .int .i64 x.cols, .int .i64 x.ld] : Array Value)[i]? := by intro i; rw [hW]; go_simp
    have X1 : Box W (w.heap.size) #[D, .int .i64 x.off, .int .i64 x.rows, .int .i64 x.cols, .int .i64 x.ld] := by rw [hW]; refine Box.grew ?_ ((Grew.refl _).alloc _); exact Box.new' (by first | rfl | (simp only [World.size_alloc]; done) | (simp only [World.size_alloc]; omega))
    have f1 : ∀ i, W.frozen? ⟨w.heap.size, i, none⟩ = false := by intro i; rw [hW]; go_simp
    have s2 : w.heap.size + 1 < W.heap.size := by rw [hW]; simp only [World.size_alloc]; omega
    have b2 : ∀ i, W.cell? ⟨w.heap.size + 1, i, none⟩ = (#[.slice none 0 0] : Array Value)[i]? := by intro i; rw [hW]; go_simp
    have X2 : Box W (w.heap.size + 1) #[.slice none 0 0] := by rw [hW]; exact Box.new' (by first | rfl | (simp only [World.size_alloc]; done) | (simp only [World.size_alloc]; omega))
    have f2 : ∀ i, W.frozen? ⟨w.heap.size + 1, i, none⟩ = false := by intro i; rw [hW]; go_simp
    have g0 : Grew w W := by rw [hW]; exact ((Grew.refl _).alloc _).alloc _
    clear hW
    have hDW := hD.grew g0
    go_wp2_with (first | (go_at_call 130; ((with_reducible refine (hgd _ ?_).mono ?_); (focus (first | (with_reducible assumption) | (with_reducible refine FS.ext ?_ _ _; with_reducible assumption) | (with_reducible refine IS.ext ?_ _ _; with_reducible assumption) | (refine hDu _ ?_; with_reducible assumption) | (refine hOu _ ?_; with_reducible assumption) | (refine hDa _ ?_; with_reducible assumption) | (refine hDb _ ?_; with_reducible assumption) | (refine hDc _ ?_; with_reducible assumption) | (refine hDd _ ?_; with_reducible assumption) | (refine FW.fs ?_ (by omega) _; with_reducible assumption) | (refine WS.fs ?_; with_reducible assumption) | (refine FW.fs ?_ (by omega) _; assumption) | omega | assumption)); rintro e w1 ⟨rfl, o1, n1, rfl⟩)) | (go_at_call 174; ((with_reducible refine (hfi _ ?_).mono ?_); (focus (first | (with_reducible assumption) | (with_reducible refine FS.ext ?_ _ _; with_reducible assumption) | (with_reducible refine IS.ext ?_ _ _; with_reducible assumption) | (refine hDu _ ?_; with_reducible assumption) | (refine hOu _ ?_; with_reducible assumption) | (refine hDa _ ?_; with_reducible assumption) | (refine hDb _ ?_; with_reducible assumption) | (refine hDc _ ?_; with_reducible assumption) | (refine hDd _ ?_; with_reducible assumption) | (refine FW.fs ?_ (by omega) _; with_reducible assumption) | (refine WS.fs ?_; with_reducible assumption) | (refine FW.fs ?_ (by omega) _; assumption) | omega | assumption)); rintro e w1 ⟨rfl, o1, n1, rfl⟩)))
    refine bodyPost_ret (v := .tuple #[.slice none 0 0, .slice none 0 0, .int .i64 0, .int .i64 8]) (by simp [results, Try.results102, go_sem, *]) rfl ?_
    exact ⟨rfl, by (show Grew _ _; repeat (first | (with_reducible exact Grew.refl _) | (with_reducible assumption) | (with_reducible exact Grew.same_o) | (with_reducible exact Grew.app_o) | (with_reducible refine Grew.ext ?_ _ _) | (with_reducible refine Grew.alloc ?_ _) | ((with_reducible refine Grew.setCell ?_ ?_ _); rotate_left; (focus (dsimp only; first | omega | (simp only [size_ext, World.size_alloc, Array.size_append]; omega)))) | (with_reducible refine Grew.drewN ?_ _) | (with_reducible refine Grew.drew ?_)))⟩
theorem owns_shape {w : World} {B n : Nat} {e : TypeId} {v : Value} {xs : List Value} (h : w.ownsRow B e 1 v n xs) : ∃ a l c, v = .slice a l c := by
  obtain ⟨_, h1⟩ := h
  rcases h1 with ⟨rfl, _⟩ | ⟨g, cap, cur, rfl, _⟩
  · exact ⟨_, _, _, rfl⟩
  · exact ⟨_, _, _, rfl⟩
theorem block_ext' {w : World} {o : Array Obj} {n k : Nat} (h : k < w.heap.size) : (Sedge.ext w o n).heap[k]? = w.heap[k]? := (show Grew w (Sedge.ext w o n) from ⟨_, _, rfl⟩).below.block k h
theorem is_nil (w : World) : IS .i64 w (.slice none 0 0) [] := ⟨by simp, none, 0, rfl, fun i hi => by simp at hi⟩
theorem errF_pos {a : Int} (h : 0 < a) : errF a = 4 := by unfold errF; rw [if_neg (by omega)]
theorem errF_zero : errF 0 = 0 := rfl
set_option maxRecDepth 100000 in
set_option maxHeartbeats 4000000 in
/-- equil.Factors, of a finite matrix. -/
theorem efact_ok (x : MatM) (D : Value) (R C : Nat) (w : World) (hD : FS w D x.ws) (hx : x.good = true) (hwf : x.wf) (hl : x.ws.length ≤ 1000000) (hR : x.rows = R) (hC : x.cols = C) (hr : R ≤ 1000) (hc : C ≤ 1000) (hf : finL (numL x) = true) :
    Calls Try.prog 102 #[.agg #[D, .int .i64 x.off, .int .i64 R, .int .i64 C, .int .i64 x.ld]] w (fun e w' => ∃ v1 v2 a rs cs, e = .returned (.tuple #[v1, v2, .int .i64 a, .int .i64 (errF a)]) ∧ FactsOut x.num R C a rs cs ∧ IS .i64 w' v1 rs ∧ IS .i64 w' v2 cs ∧ ∃ o n, w' = ext w o n) := by
  have hgd : ∀ w', FS w' D x.ws → Calls Try.prog 130 #[.agg #[D, .int .i64 x.off, .int .i64 R, .int .i64 C, .int .i64 x.ld]] w' (fun e w2 => e = .returned (.bool true) ∧ ∃ o n, w2 = ext w' o n) := fun w' h => by
    have := good_any x D w' h hwf; rw [hx, hR, hC] at this; exact this
  have hfi : ∀ w', FS w' D x.ws → Calls Try.prog 174 #[.agg #[D, .int .i64 x.off, .int .i64 R, .int .i64 C, .int .i64 x.ld]] w' (fun e w2 => e = .returned (.bool true) ∧ ∃ o n, w2 = ext w' o n) := fun w' h => by
    have := mfin_any x D w' h hwf hl (by omega) (by omega); rw [hx, hf, hR, hC] at this; exact this
  have hrow : ∀ (i : Nat) w', i < R → FS w' D x.ws → Calls Try.prog 132 #[.agg #[D, .int .i64 x.off, .int .i64 R, .int .i64 C, .int .i64 x.ld], .int .i64 i] w' (fun e w2 => e = .returned (.agg #[D, .int .i64 (rowV x i).off, .int .i64 C, .int .i64 x.ld]) ∧ ∃ o n, w2 = ext w' o n) := fun i w' hi h => by
    have := row_any x D i w' h hx hwf (by omega); rw [hR, hC] at this; exact this
  have hrl : ∀ (i : Nat) w', i < R → FS w' D x.ws → Calls Try.prog 176 #[.agg #[D, .int .i64 (rowV x i).off, .int .i64 C, .int .i64 x.ld]] w' (fun e w2 => ∃ v, e = .returned v ∧ FS w2 v (rowV x i).list ∧ ∃ o n, w2 = ext w' o n) := fun i w' hi h => by
    have := elist_any (rowV x i) D w' h (rowV_right hx (by omega)) (rowV_wf hx hwf (by omega) hl) hl
    rw [show (rowV x i).n = (C : Int) from hC] at this
    exact this
  have rowlen : ∀ i, (rowV x i).list.length = C := fun i => by rw [VecM.list_length, show (rowV x i).n = (C : Int) from hC]; simp
  have rownum : ∀ i j, j < C → (rowV x i).list.getD j 0 = x.num i j := fun i j hj => by
    rw [VecM.list_get (by rw [show (rowV x i).n = (C : Int) from hC]; omega)]
    unfold VecM.num MatM.num
    rw [rowV_place (by omega)]; rfl
  have hgr : ∀ (i : Nat) v w', FS w' v (rowV x i).list → Calls Try.prog 175 #[v, .func (.func 177) #[] #[]] w' (fun e w2 => e = .returned (.tuple #[.int .i64 (bestI (rowB x.num C i)), .bool (rowB x.num C i).isSome]) ∧ ∃ o n, w2 = ext w' o n) := fun i v w' h => by
    have := great1_any v _ w' h (by rw [rowlen]; omega)
    rw [rowlen, bestTo_congr (Y := fun j => x.num i j) (f := fun j => fexp (x.num i j)) C (fun k hk => ⟨rownum i k hk, by rw [rownum i k hk]⟩)] at this
    exact this
  have hcol : ∀ (j : Nat) w', j < C → FS w' D x.ws → Calls Try.prog 149 #[.agg #[D, .int .i64 x.off, .int .i64 R, .int .i64 C, .int .i64 x.ld], .int .i64 j] w' (fun e w2 => e = .returned (.agg #[D, .int .i64 (colV x j).off, .int .i64 R, .int .i64 1]) ∧ ∃ o n, w2 = ext w' o n) := fun j w' hj h => by
    have := col_any x D j w' h hx hwf (by omega); rw [hR, hC] at this; exact this
  have hclL : ∀ (j : Nat) w', j < C → FS w' D x.ws → Calls Try.prog 176 #[.agg #[D, .int .i64 (colV x j).off, .int .i64 R, .int .i64 1]] w' (fun e w2 => ∃ v, e = .returned v ∧ FS w2 v (colV x j).list ∧ ∃ o n, w2 = ext w' o n) := fun j w' hj h => by
    have := elist_any (colV x j) D w' h (colv_rightA hx (by omega)) (colv_wf hx hl hwf (by omega)) hl
    rw [show (colV x j).n = (R : Int) from hR] at this
    exact this
  have collen : ∀ j, (colV x j).list.length = R := fun j => by rw [VecM.list_length, show (colV x j).n = (R : Int) from hR]; simp
  have colnum : ∀ j i, i < R → (colV x j).list.getD i 0 = x.num i j := fun j i hi => by
    rw [VecM.list_get (by rw [show (colV x j).n = (R : Int) from hR]; omega)]
    unfold VecM.num MatM.num
    rw [colv_place (by omega)]; rfl
  have hgc : ∀ (j : Nat) v w' p Rv rs, FS w' v (colV x j).list → IS .i64 w' Rv rs → (∀ i, w'.cell? ⟨p, i, none⟩ = (#[Rv] : Array Value)[i]?) → p < w'.heap.size → rs.length = R → (∀ k, -50000 ≤ rs.getD k 0 ∧ rs.getD k 0 ≤ 50000) → Calls Try.prog 175 #[v, .func (.func 179) #[] #[.pointer (some ⟨p, 0, none⟩)]] w' (fun e w2 => e = .returned (.tuple #[.int .i64 (bestI (colB x.num R rs j)), .bool (colB x.num R rs j).isSome]) ∧ ∃ o n, w2 = ext w' o n) := fun j v w' p Rv rs h h2 h3 h4 h5 h6 => by
    have := great2_any v _ p Rv rs w' h (by rw [collen]; omega) h2 h3 h4 (by rw [collen]; omega) h6
    rw [collen, bestTo_congr (Y := fun i => x.num i j) (f := fun i => fexp (x.num i j) + rs.getD i 0) R (fun k hk => ⟨colnum j k hk, by rw [colnum j k hk]⟩)] at this
    exact this
  obtain ⟨M, hM⟩ : ∃ M, M = x.num := ⟨_, rfl⟩
  rw [← hM] at hgr hgc ⊢
  clear hx hwf hR hC hf rowlen rownum collen colnum hM
  go_enter Try.func102, Try.ntmps102
  refine seq_stop ?_
  go_wp2
  refine stop_go (fun W hW => ?_)
  have s1 : w.heap.size < W.heap.size := by rw [hW]; simp only [World.size_alloc]; omega
  have b1 : ∀ i, W.cell? ⟨w.heap.size, i, none⟩ = (#[D, .int .i64 x.off, .int .i64 R, .int .i64 C, .int .i64 x.ld] : Array Value)[i]? := by intro i; rw [hW]; go_simp
  have X1 : Box W (w.heap.size) #[D, .int .i64 x.off, .int .i64 R, .int .i64 C, .int .i64 x.ld] := by rw [hW]; refine Box.grew ?_ ((Grew.refl _).alloc _); exact Box.new' (by first | rfl | (simp only [World.size_alloc]; done) | (simp only [World.size_alloc]; omega))
  have f1 : ∀ i, W.frozen? ⟨w.heap.size, i, none⟩ = false := by intro i; rw [hW]; go_simp
  have s2 : w.heap.size + 1 < W.heap.size := by rw [hW]; simp only [World.size_alloc]; omega
  have b2 : ∀ i, W.cell? ⟨w.heap.size + 1, i, none⟩ = (#[.slice none 0 0] : Array Value)[i]? := by intro i; rw [hW]; go_simp
  have X2 : Box W (w.heap.size + 1) #[.slice none 0 0] := by rw [hW]; exact Box.new' (by first | rfl | (simp only [World.size_alloc]; done) | (simp only [World.size_alloc]; omega))
  have f2 : ∀ i, W.frozen? ⟨w.heap.size + 1, i, none⟩ = false := by intro i; rw [hW]; go_simp
  have g0 : Grew w W := by rw [hW]; exact ((Grew.refl _).alloc _).alloc _
  clear hW
  have hDW := hD.grew g0
  go_upto_region 5 with (first | (go_at_call 130; ((with_reducible refine (hgd _ ?_).mono ?_); (focus (first | (with_reducible assumption) | (with_reducible refine FS.ext ?_ _ _; with_reducible assumption) | (with_reducible refine IS.ext ?_ _ _; with_reducible assumption) | (refine hDu _ ?_; with_reducible assumption) | (refine hOu _ ?_; with_reducible assumption) | (refine hDa _ ?_; with_reducible assumption) | (refine hDb _ ?_; with_reducible assumption) | (refine hDc _ ?_; with_reducible assumption) | (refine hDd _ ?_; with_reducible assumption) | (refine FW.fs ?_ (by omega) _; with_reducible assumption) | (refine WS.fs ?_; with_reducible assumption) | (refine FW.fs ?_ (by omega) _; assumption) | omega | assumption)); rintro e w1 ⟨rfl, o1, n1, rfl⟩)) | (go_at_call 174; ((with_reducible refine (hfi _ ?_).mono ?_); (focus (first | (with_reducible assumption) | (with_reducible refine FS.ext ?_ _ _; with_reducible assumption) | (with_reducible refine IS.ext ?_ _ _; with_reducible assumption) | (refine hDu _ ?_; with_reducible assumption) | (refine hOu _ ?_; with_reducible assumption) | (refine hDa _ ?_; with_reducible assumption) | (refine hDb _ ?_; with_reducible assumption) | (refine hDc _ ?_; with_reducible assumption) | (refine hDd _ ?_; with_reducible assumption) | (refine FW.fs ?_ (by omega) _; with_reducible assumption) | (refine WS.fs ?_; with_reducible assumption) | (refine FW.fs ?_ (by omega) _; assumption) | omega | assumption)); rintro e w1 ⟨rfl, o1, n1, rfl⟩)))
  refine name_any (fun V hV => ?_)
  obtain ⟨p1, hp1⟩ : ∃ p, p = w.heap.size := ⟨_, rfl⟩
  obtain ⟨p2, hp2⟩ : ∃ p, p = w.heap.size + 1 := ⟨_, rfl⟩
  have gWV : Grew W V := by rw [← hV]; (show Grew _ _; (try simp only [← Array.append_assoc]); repeat (first | (with_reducible exact Grew.same_o) | (with_reducible exact Grew.refl _) | (with_reducible assumption) | (with_reducible refine Grew.alloc ?_ _) | (with_reducible refine Grew.app_r ?_) | ((with_reducible refine Grew.setCell ?_ ?_ _); rotate_left; (focus (dsimp only; first | omega | (simp only [size_ext, World.size_alloc, Array.size_append]; omega)))) | (with_reducible refine Grew.ext ?_ _ _) | (with_reducible refine Grew.drewN ?_ _) | (with_reducible refine Grew.drew ?_)))
  have gV : Grew w V := Grew.trans g0 gWV
  have Y1 : Box V p1 #[D, .int .i64 x.off, .int .i64 R, .int .i64 C, .int .i64 x.ld] := by rw [hp1]; exact X1.grew gWV
  have Y2 : Box V p2 #[.slice none 0 0] := by rw [hp2]; exact X2.grew gWV
  have n12 : p1 ≠ p2 := by omega
  have z1 : w.heap.size ≤ p1 := by omega
  have z2 : w.heap.size ≤ p2 := by omega
  have hDV := hD.grew gV
  simp only [← hp2]
  simp only [← hp1]
  clear hV hgd hfi X1 X2 b1 b2 s1 s2 hDW gWV hp1 hp2 g0
  have N0 : IS .i64 V (.slice none 0 0) [] := ⟨by simp, none, 0, rfl, fun i hi => by simp at hi⟩
  have HM1 := hid hcol
  have HM2 := hid hclL
  have HM3 := hid hgc
  have t1 := Y1.cell
  have l1 := Y1.lt
  clear hcol hclL hgc
  go_wp2
  clear t1 l1
  go_loopw [3, 22] (fun u c wr => ∃ (i : Nat) (v : Value), i ≤ R ∧ u = .slice none 0 0 ∧ c = .int .i64 i ∧ Grew w wr ∧ Box wr p1 #[D, .int .i64 x.off, .int .i64 R, .int .i64 C, .int .i64 x.ld] ∧ Box wr p2 #[v] ∧ OwnI wr w.heap.size v (rowsTo' M C i) ∧ (∀ k, k < i → rowB M C k ≠ none) ∧ (∀ k, v.ownBlock = some k → k ∉ [p1, p2])) (fun _ c _ => R - (intOf c).toNat)
  case atStart => exact ⟨0, _, Nat.zero_le _, rfl, rfl, gV, Y1, Y2, OwnI.nil _ _, fun k hk => absurd hk (Nat.not_lt_zero k), fun k hk => by simp [Value.ownBlock] at hk⟩
  case round =>
    clear Y1 Y2 gV hDV N0
    obtain ⟨i, v, hi, rfl, rfl, gr, B1, B2, hown, hall, nv⟩ := hrel
    have t1 := B1.cell
    have t2 := B2.cell
    have f2 := B2.frozen
    have l1 := B1.lt
    have l2 := B2.lt
    have hDr := hD.grew gr
    by_cases hlt : i < R
    · have hown' : ∀ w', Grew wr w' → w'.ownsRow w.heap.size 3 1 v ((rowsTo' M C i).map (Value.int .i64)).length ((rowsTo' M C i).map (Value.int .i64)) := fun w' g => by rw [List.length_map]; exact hown.grew g
      have lu : ((rowsTo' M C i).map (Value.int .i64)).length < 17592186044415 := by rw [List.length_map, rowsTo'_length]; omega
      have hgi := hgr i
      cases hq : rowB M C i with
      | none =>
        rw [hq] at hgi
        simp only [bestI, Option.isSome] at hgi
        have e4 : errF ((i : Int) + 1) = 4 := errF_pos (by omega)
        have rw1 : IntKind.i64.wrap ((i : Int) + 1) = (i : Int) + 1 := IntWalk.i64_in _ (by omega)
        have HQ := hid hq
        have HA := hid hall
        have hof : FactsOut M R C ((i : Int) + 1) [] [] := .inl ⟨i, hlt, rfl, hq, hall, rfl, rfl⟩
        have HOF := hid hof
        have E4 := hid e4
        clear hq hall hof e4 hgr
        go_wp2_with (first | (go_at_call 132; ((with_reducible refine (hrow i _ hlt ?_).mono ?_); (focus (first | (with_reducible assumption) | (with_reducible refine FS.ext ?_ _ _; with_reducible assumption) | (with_reducible refine IS.ext ?_ _ _; with_reducible assumption) | (refine hDu _ ?_; with_reducible assumption) | (refine hOu _ ?_; with_reducible assumption) | (refine hDa _ ?_; with_reducible assumption) | (refine hDb _ ?_; with_reducible assumption) | (refine hDc _ ?_; with_reducible assumption) | (refine hDd _ ?_; with_reducible assumption) | (refine FW.fs ?_ (by omega) _; with_reducible assumption) | (refine WS.fs ?_; with_reducible assumption) | (refine FW.fs ?_ (by omega) _; assumption) | omega | assumption)); rintro e w1 ⟨rfl, o1, n1, rfl⟩)) | (go_at_call 176; ((with_reducible refine (hrl i _ hlt ?_).mono ?_); (focus (first | (with_reducible assumption) | (with_reducible refine FS.ext ?_ _ _; with_reducible assumption) | (with_reducible refine IS.ext ?_ _ _; with_reducible assumption) | (refine hDu _ ?_; with_reducible assumption) | (refine hOu _ ?_; with_reducible assumption) | (refine hDa _ ?_; with_reducible assumption) | (refine hDb _ ?_; with_reducible assumption) | (refine hDc _ ?_; with_reducible assumption) | (refine hDd _ ?_; with_reducible assumption) | (refine FW.fs ?_ (by omega) _; with_reducible assumption) | (refine WS.fs ?_; with_reducible assumption) | (refine FW.fs ?_ (by omega) _; assumption) | omega | assumption)); rintro e w1 ⟨v3, rfl, hv3, o2, n2, rfl⟩; (try simp only [drew_ext, drewN_ext, ext_ext] at hv3))) | (go_at_call 175; ((with_reducible refine (hgi _ _ hv3).mono ?_); rintro e w1 ⟨rfl, o3, n3, rfl⟩)))
        refine bodyPost_ret (v := .tuple #[.slice none 0 0, .slice none 0 0, .int .i64 ((i : Int) + 1), .int .i64 4]) (by simp [results, Try.results102, go_sem, *]) rfl ?_
        exact ⟨_, _, _, [], [], by rw [E4.out], HOF.out, is_nil _, is_nil _, by (show Grew _ _; repeat (first | (with_reducible exact Grew.refl _) | (with_reducible assumption) | (with_reducible exact Grew.same_o) | (with_reducible exact Grew.app_o) | (with_reducible refine Grew.ext ?_ _ _) | (with_reducible refine Grew.alloc ?_ _) | ((with_reducible refine Grew.setCell ?_ ?_ _); rotate_left; (focus (dsimp only; first | omega | (simp only [size_ext, World.size_alloc, Array.size_append]; omega)))) | (with_reducible refine Grew.drewN ?_ _) | (with_reducible refine Grew.drew ?_)))⟩
      | some b =>
        rw [hq] at hgi
        simp only [bestI, Option.isSome] at hgi
        have hbb := rowB_in hq
        have rw1 : IntKind.i64.wrap (-b) = -b := IntWalk.i64_in _ (by omega)
        have hsc := rowsTo'_succ M C i
        rw [hq] at hsc
        have HSC := hid hsc
        have hall2 : ∀ k, k < i + 1 → rowB M C k ≠ none := fun k hk => by
          by_cases e : k = i
          · subst e; rw [hq]; simp
          · exact hall k (by omega)
        have HA := hid hall2
        clear hq hall hall2 hsc hgr hown
        go_wp2_with (first | (go_at_call 132; ((with_reducible refine (hrow i _ hlt ?_).mono ?_); (focus (first | (with_reducible assumption) | (with_reducible refine FS.ext ?_ _ _; with_reducible assumption) | (with_reducible refine IS.ext ?_ _ _; with_reducible assumption) | (refine hDu _ ?_; with_reducible assumption) | (refine hOu _ ?_; with_reducible assumption) | (refine hDa _ ?_; with_reducible assumption) | (refine hDb _ ?_; with_reducible assumption) | (refine hDc _ ?_; with_reducible assumption) | (refine hDd _ ?_; with_reducible assumption) | (refine FW.fs ?_ (by omega) _; with_reducible assumption) | (refine WS.fs ?_; with_reducible assumption) | (refine FW.fs ?_ (by omega) _; assumption) | omega | assumption)); rintro e w1 ⟨rfl, o1, n1, rfl⟩)) | (go_at_call 176; ((with_reducible refine (hrl i _ hlt ?_).mono ?_); (focus (first | (with_reducible assumption) | (with_reducible refine FS.ext ?_ _ _; with_reducible assumption) | (with_reducible refine IS.ext ?_ _ _; with_reducible assumption) | (refine hDu _ ?_; with_reducible assumption) | (refine hOu _ ?_; with_reducible assumption) | (refine hDa _ ?_; with_reducible assumption) | (refine hDb _ ?_; with_reducible assumption) | (refine hDc _ ?_; with_reducible assumption) | (refine hDd _ ?_; with_reducible assumption) | (refine FW.fs ?_ (by omega) _; with_reducible assumption) | (refine WS.fs ?_; with_reducible assumption) | (refine FW.fs ?_ (by omega) _; assumption) | omega | assumption)); rintro e w1 ⟨v3, rfl, hv3, o2, n2, rfl⟩; (try simp only [drew_ext, drewN_ext, ext_ext] at hv3))) | (go_at_call 175; ((with_reducible refine (hgi _ _ hv3).mono ?_); rintro e w1 ⟨rfl, o3, n3, rfl⟩)) | (at_builtin; refine append1_k (z0 := .int .i64 0) iundK iinfoK rfl (W := w) (v := v) (y := .int .i64 (-b)) (xs := (rowsTo' M C i).map (Value.int .i64)) ?_ ?_ rfl lu _ _ rfl rfl rfl ?_ rfl ?_; (focus exact Grew.trans gr (by (show Grew _ _; (try simp only [← Array.append_assoc]); repeat (first | (with_reducible exact Grew.same_o) | (with_reducible exact Grew.refl _) | (with_reducible assumption) | (with_reducible refine Grew.alloc ?_ _) | (with_reducible refine Grew.app_r ?_) | ((with_reducible refine Grew.setCell ?_ ?_ _); rotate_left; (focus (dsimp only; first | omega | (simp only [size_ext, World.size_alloc, Array.size_append]; omega)))) | (with_reducible refine Grew.ext ?_ _ _) | (with_reducible refine Grew.drewN ?_ _) | (with_reducible refine Grew.drew ?_))))); (focus exact hown' _ (by (show Grew _ _; (try simp only [← Array.append_assoc]); repeat (first | (with_reducible exact Grew.same_o) | (with_reducible exact Grew.refl _) | (with_reducible assumption) | (with_reducible refine Grew.alloc ?_ _) | (with_reducible refine Grew.app_r ?_) | ((with_reducible refine Grew.setCell ?_ ?_ _); rotate_left; (focus (dsimp only; first | omega | (simp only [size_ext, World.size_alloc, Array.size_append]; omega)))) | (with_reducible refine Grew.ext ?_ _ _) | (with_reducible refine Grew.drewN ?_ _) | (with_reducible refine Grew.drew ?_))))); (focus (first | rfl | (simp only [size_ext, Array.size_append]; done) | (simp only [size_ext]; done))); intro v2 w2 gw2 zw2 hv2 hk2 hn2; (obtain ⟨va2, vl2, vc2, rfl⟩ := owns_shape hv2); (have hk3 : ∀ k, k < wr.heap.size → v.ownBlock ≠ some k → w2.heap[k]? = wr.heap[k]? := fun k h1 h2 => (hk2 k (by simp only [size_ext]; omega) h2).trans (block_ext' h1)); (have C1 : Box w2 p1 #[D, .int .i64 x.off, .int .i64 R, .int .i64 C, .int .i64 x.ld] := by (obtain ⟨e, he⟩ := B1; exact ⟨e, (hk3 p1 l1 (fun h => nv p1 h (by simp))).trans he⟩)); (have C2 : Box w2 p2 #[v] := by (obtain ⟨e, he⟩ := B2; exact ⟨e, (hk3 p2 l2 (fun h => nv p2 h (by simp))).trans he⟩)); (have q2 := C2.cell); (have m2 := C2.frozen); (have j2 := C2.lt)))
        go_roundw
        case rel =>
          rw [C2.set1 rfl]
          refine ⟨i + 1, _, hlt, rfl, by go_num, gw2.upd z2 _, C1.upd_ne n12 _, C2.upd_self _, OwnI.upd_ne ?_ ?_ _, HA.out, ?_⟩
          · rw [HSC.out]; simpa [OwnI, bestI] using hv2
          · intro h
            rcases hn2 p2 h with h | h
            · exact nv p2 h (by simp)
            · simp only [size_ext] at h; omega
          · intro k hk
            rcases hn2 k hk with h | h
            · exact nv k h
            · simp only [size_ext] at h
              simp only [List.mem_cons, List.not_mem_nil, or_false]; omega
        case measure => simp [intOf]; omega
    · have e : i = R := by omega
      subst e
      obtain ⟨rs, hrs⟩ : ∃ rs, rs = rowsTo' M C i := ⟨_, rfl⟩
      rw [← hrs] at hown
      have lrs : rs.length = i := by rw [hrs, rowsTo'_length]
      have brs : ∀ k, -50000 ≤ rs.getD k 0 ∧ rs.getD k 0 ≤ 50000 := fun k => by
        have := rowsTo'_in hall k
        rw [← hrs] at this; omega
      obtain ⟨av, lv, cv, rfl⟩ := owns_shape hown
      have HALL := hid hall
      have HRS := hid hrs
      have hcolB : ∀ (j : Nat) (b : Int), colB M i rs j = some b → -100000 ≤ b ∧ b ≤ 100000 := fun j b h => bestTo_in (fun k => by have := fexp_range' (M k j); have := brs k; omega) i b h
      have HCB := hid hcolB
      have hcol := HM1.out
      have hclL := HM2.out
      have hgc := HM3.out
      clear hall hrs hgr hrow hrl HM1 HM2 HM3 hcolB
      clear hDr
      go_wp2
      clear t1 t2 f2
      obtain ⟨U0, hU0⟩ : ∃ U0, U0 = wr := ⟨_, rfl⟩
      go_loopw [3, 45] (fun u c wr => ∃ (j : Nat), j ≤ C ∧ c = .int .i64 j ∧ Grew w wr ∧ Box wr p1 #[D, .int .i64 x.off, .int .i64 i, .int .i64 C, .int .i64 x.ld] ∧ Box wr p2 #[.slice av lv cv] ∧ OwnI wr w.heap.size (.slice av lv cv) rs ∧ OwnI wr w.heap.size u (colsTo' M i rs j) ∧ (∀ k, k < j → colB M i rs k ≠ none) ∧ (∀ k, u.ownBlock = some k → k ∉ [p1, p2]) ∧ ApartV u (.slice av lv cv)) (fun _ c _ => C - (intOf c).toNat)
      case atStart => exact ⟨0, Nat.zero_le _, rfl, gr, B1, B2, hown, OwnI.nil _ _, fun k hk => absurd hk (Nat.not_lt_zero k), fun k hk => by simp [Value.ownBlock] at hk, fun k hk => by simp [Value.ownBlock] at hk⟩
      case round =>
        clear hU0 gr B1 B2 hown l1 l2
        obtain ⟨j, hj, rfl, gr, B1, B2, hown, hu, hall, nu, hap⟩ := hrel
        have t1 := B1.cell
        have t2 := B2.cell
        have f2 := B2.frozen
        have l1 := B1.lt
        have l2 := B2.lt
        have hDr := hD.grew gr
        have hIS := hown.is (by rw [lrs]; omega)
        by_cases hlt : j < C
        · have hgj : ∀ v w', FS w' v (colV x j).list → Grew wr w' → Calls Try.prog 175 #[v, .func (.func 179) #[] #[.pointer (some ⟨p2, 0, none⟩)]] w' (fun e w2 => e = .returned (.tuple #[.int .i64 (bestI (colB M i rs j)), .bool (colB M i rs j).isSome]) ∧ ∃ o n, w2 = ext w' o n) := fun v w' h g => hgc j v w' p2 _ rs h (hIS.grew g) (fun k => (B2.grew g).cell k) (B2.grew g).lt lrs brs
          have hu' : ∀ w', Grew wr w' → w'.ownsRow w.heap.size 3 1 u3 ((colsTo' M i rs j).map (Value.int .i64)).length ((colsTo' M i rs j).map (Value.int .i64)) := fun w' g => by rw [List.length_map]; exact hu.grew g
          have lu : ((colsTo' M i rs j).map (Value.int .i64)).length < 17592186044415 := by rw [List.length_map, colsTo'_length]; omega
          cases hq : colB M i rs j with
          | none =>
            rw [hq] at hgj
            simp only [bestI, Option.isSome] at hgj
            have e4 : errF ((i : Int) + j + 1) = 4 := errF_pos (by omega)
            have rw1 : IntKind.i64.wrap ((i : Int) + j) = (i : Int) + j := IntWalk.i64_in _ (by omega)
            have rw2 : IntKind.i64.wrap ((i : Int) + j + 1) = (i : Int) + j + 1 := IntWalk.i64_in _ (by omega)
            have hof : FactsOut M i C ((i : Int) + j + 1) [] [] := .inr (.inl ⟨HALL.out, j, hlt, rfl, by rw [← HRS.out]; exact hq, by rw [← HRS.out]; exact hall, rfl, rfl⟩)
            have HOF := hid hof
            have E4 := hid e4
            clear hq hall hof e4 hgc
            go_upto_region 18 with (first | (go_at_call 149; ((with_reducible refine (hcol j _ hlt ?_).mono ?_); (focus (first | (with_reducible assumption) | (with_reducible refine FS.ext ?_ _ _; with_reducible assumption) | (with_reducible refine IS.ext ?_ _ _; with_reducible assumption) | (refine hDu _ ?_; with_reducible assumption) | (refine hOu _ ?_; with_reducible assumption) | (refine hDa _ ?_; with_reducible assumption) | (refine hDb _ ?_; with_reducible assumption) | (refine hDc _ ?_; with_reducible assumption) | (refine hDd _ ?_; with_reducible assumption) | (refine FW.fs ?_ (by omega) _; with_reducible assumption) | (refine WS.fs ?_; with_reducible assumption) | (refine FW.fs ?_ (by omega) _; assumption) | omega | assumption)); rintro e w1 ⟨rfl, o1, n1, rfl⟩)) | (go_at_call 176; ((with_reducible refine (hclL j _ hlt ?_).mono ?_); (focus (first | (with_reducible assumption) | (with_reducible refine FS.ext ?_ _ _; with_reducible assumption) | (with_reducible refine IS.ext ?_ _ _; with_reducible assumption) | (refine hDu _ ?_; with_reducible assumption) | (refine hOu _ ?_; with_reducible assumption) | (refine hDa _ ?_; with_reducible assumption) | (refine hDb _ ?_; with_reducible assumption) | (refine hDc _ ?_; with_reducible assumption) | (refine hDd _ ?_; with_reducible assumption) | (refine FW.fs ?_ (by omega) _; with_reducible assumption) | (refine WS.fs ?_; with_reducible assumption) | (refine FW.fs ?_ (by omega) _; assumption) | omega | assumption)); rintro e w1 ⟨v3, rfl, hv3, o2, n2, rfl⟩; (try simp only [drew_ext, drewN_ext, ext_ext] at hv3))) | (go_at_call 175; ((with_reducible refine (hgj _ _ hv3 (by (show Grew _ _; (try simp only [← Array.append_assoc]); repeat (first | (with_reducible exact Grew.same_o) | (with_reducible exact Grew.refl _) | (with_reducible assumption) | (with_reducible refine Grew.alloc ?_ _) | (with_reducible refine Grew.app_r ?_) | ((with_reducible refine Grew.setCell ?_ ?_ _); rotate_left; (focus (dsimp only; first | omega | (simp only [size_ext, World.size_alloc, Array.size_append]; omega)))) | (with_reducible refine Grew.ext ?_ _ _) | (with_reducible refine Grew.drewN ?_ _) | (with_reducible refine Grew.drew ?_))))).mono ?_); rintro e w1 ⟨rfl, o3, n3, rfl⟩)))
            refine name_any (fun V1 hV1 => ?_)
            have gV1 : Grew wr V1 := by rw [← hV1]; (show Grew _ _; (try simp only [← Array.append_assoc]); repeat (first | (with_reducible exact Grew.same_o) | (with_reducible exact Grew.refl _) | (with_reducible assumption) | (with_reducible refine Grew.alloc ?_ _) | (with_reducible refine Grew.app_r ?_) | ((with_reducible refine Grew.setCell ?_ ?_ _); rotate_left; (focus (dsimp only; first | omega | (simp only [size_ext, World.size_alloc, Array.size_append]; omega)))) | (with_reducible refine Grew.ext ?_ _ _) | (with_reducible refine Grew.drewN ?_ _) | (with_reducible refine Grew.drew ?_)))
            have D1 := B1.grew gV1
            have D2 := B2.grew gV1
            have grV := Grew.trans gr gV1
            have t1 : ∀ w', But V1 [p2] w' → ∀ k, w'.cell? ⟨p1, k, none⟩ = (#[D, .int .i64 x.off, .int .i64 i, .int .i64 C, .int .i64 x.ld] : Array Value)[k]? := fun w' h k => (h.cell D1.lt (by simpa using n12)).trans (D1.cell k)
            have t2 := D2.cell
            have f2 := D2.frozen
            have l2 := D2.lt
            have B0 := But.refl V1 [p2]
            have hcls : But V1 [p2] (V1.setCell ⟨p2, 0, none⟩ (.slice none 0 0)).drew := by
              rw [D2.set1 rfl]; exact ((But.refl V1 [p2]).upd (.inl (by simp)) _).grew ((Grew.refl _).drew)
            clear hV1 B1 B2 hDr
            refine wp_region_R (But V1 [p2]) [] [(0,0), (0,1), (0,2), (0,3), (0,4), (1,5), (0,6), (0,7), (0,8)] (by kernel_rfl) (by kernel_rfl) (fun _ _ _ _ h _ => h) (B0.grew ((Grew.refl _).drew)) ?_
            go_wp2_with (first | ((with_reducible refine wpR_id ?_); first | (refine wpR_take (v := ?_) rfl rfl ?_ ?_; rotate_left; (focus (intro w' hw'; go_simp; try with_reducible rfl)); simp only [Act.put, List.setIfInBounds_toArray, List.set_cons_zero, List.set_cons_succ]) | (refine wpR_pure (v := ?_) rfl rfl ?_ ?_; rotate_left; (focus (intro w'; go_simp; try with_reducible rfl)); simp only [Act.put, List.setIfInBounds_toArray, List.set_cons_zero, List.set_cons_succ]) | (refine wpR_takeG (v := ?_) rfl rfl rfl rfl rfl ?_ ?_; rotate_left; (focus (intro w' hw'; go_simp; try with_reducible rfl)); simp only [Act.put, List.setIfInBounds_toArray, List.set_cons_zero, List.set_cons_succ]) | (refine wpR_skip rfl rfl rfl rfl rfl rfl ?_; simp only [Act.put, List.setIfInBounds_toArray, List.set_cons_zero, List.set_cons_succ]) | (refine wpR_skipU rfl rfl rfl rfl rfl ?_; simp only [Act.put, List.setIfInBounds_toArray, List.set_cons_zero, List.set_cons_succ]) | (refine wpR_do rfl rfl (fun K hK => ?_)) | (refine wpR_doG rfl rfl rfl rfl rfl (fun K hK => ?_)) | (refine wpR_last rfl rfl (fun K hK => ?_)) | (refine wpR_nil ?_)) | ((with_reducible refine wpR_go ?_ ?_); (focus (with_reducible assumption))) | ((with_reducible refine upon_id ?_); refine upon_fop rfl (by assumption) (by assumption) ?_; intro rr nn hr))
            refine bodyPost_ret (v := .tuple #[.slice none 0 0, .slice none 0 0, .int .i64 ((i : Int) + j + 1), .int .i64 4]) (by simp [results, Try.results102, go_sem, *]) rfl ?_
            exact ⟨_, _, _, [], [], by rw [E4.out], HOF.out, is_nil _, is_nil _, by (show Grew _ _; repeat (first | (with_reducible exact Grew.refl _) | (with_reducible assumption) | (with_reducible exact Grew.same_o) | (with_reducible exact Grew.app_o) | (with_reducible refine Grew.ext ?_ _ _) | (with_reducible refine Grew.alloc ?_ _) | ((with_reducible refine Grew.setCell ?_ ?_ _); rotate_left; (focus (dsimp only; first | omega | (simp only [size_ext, World.size_alloc, Array.size_append]; omega)))) | (with_reducible refine Grew.drewN ?_ _) | (with_reducible refine Grew.drew ?_)))⟩
          | some b =>
            rw [hq] at hgj
            simp only [bestI, Option.isSome] at hgj
            have hbb := HCB.out j b hq
            have rw1 : IntKind.i64.wrap (-b) = -b := IntWalk.i64_in _ (by omega)
            have hsc := colsTo'_succ M i rs j
            rw [hq] at hsc
            have HSC := hid hsc
            have hall2 : ∀ k, k < j + 1 → colB M i rs k ≠ none := fun k hk => by
              by_cases e : k = j
              · subst e; rw [hq]; simp
              · exact hall k (by omega)
            have HA := hid hall2
            clear hq hall hall2 hsc hgc
            go_wp2_with (first | (go_at_call 149; ((with_reducible refine (hcol j _ hlt ?_).mono ?_); (focus (first | (with_reducible assumption) | (with_reducible refine FS.ext ?_ _ _; with_reducible assumption) | (with_reducible refine IS.ext ?_ _ _; with_reducible assumption) | (refine hDu _ ?_; with_reducible assumption) | (refine hOu _ ?_; with_reducible assumption) | (refine hDa _ ?_; with_reducible assumption) | (refine hDb _ ?_; with_reducible assumption) | (refine hDc _ ?_; with_reducible assumption) | (refine hDd _ ?_; with_reducible assumption) | (refine FW.fs ?_ (by omega) _; with_reducible assumption) | (refine WS.fs ?_; with_reducible assumption) | (refine FW.fs ?_ (by omega) _; assumption) | omega | assumption)); rintro e w1 ⟨rfl, o1, n1, rfl⟩)) | (go_at_call 176; ((with_reducible refine (hclL j _ hlt ?_).mono ?_); (focus (first | (with_reducible assumption) | (with_reducible refine FS.ext ?_ _ _; with_reducible assumption) | (with_reducible refine IS.ext ?_ _ _; with_reducible assumption) | (refine hDu _ ?_; with_reducible assumption) | (refine hOu _ ?_; with_reducible assumption) | (refine hDa _ ?_; with_reducible assumption) | (refine hDb _ ?_; with_reducible assumption) | (refine hDc _ ?_; with_reducible assumption) | (refine hDd _ ?_; with_reducible assumption) | (refine FW.fs ?_ (by omega) _; with_reducible assumption) | (refine WS.fs ?_; with_reducible assumption) | (refine FW.fs ?_ (by omega) _; assumption) | omega | assumption)); rintro e w1 ⟨v3, rfl, hv3, o2, n2, rfl⟩; (try simp only [drew_ext, drewN_ext, ext_ext] at hv3))) | (go_at_call 175; ((with_reducible refine (hgj _ _ hv3 (by (show Grew _ _; (try simp only [← Array.append_assoc]); repeat (first | (with_reducible exact Grew.same_o) | (with_reducible exact Grew.refl _) | (with_reducible assumption) | (with_reducible refine Grew.alloc ?_ _) | (with_reducible refine Grew.app_r ?_) | ((with_reducible refine Grew.setCell ?_ ?_ _); rotate_left; (focus (dsimp only; first | omega | (simp only [size_ext, World.size_alloc, Array.size_append]; omega)))) | (with_reducible refine Grew.ext ?_ _ _) | (with_reducible refine Grew.drewN ?_ _) | (with_reducible refine Grew.drew ?_))))).mono ?_); rintro e w1 ⟨rfl, o3, n3, rfl⟩)) | (at_builtin; refine append1_k (z0 := .int .i64 0) iundK iinfoK rfl (W := w) (v := u3) (y := .int .i64 (-b)) (xs := (colsTo' M i rs j).map (Value.int .i64)) ?_ ?_ rfl lu _ _ rfl rfl rfl ?_ rfl ?_; (focus exact Grew.trans gr (by (show Grew _ _; (try simp only [← Array.append_assoc]); repeat (first | (with_reducible exact Grew.same_o) | (with_reducible exact Grew.refl _) | (with_reducible assumption) | (with_reducible refine Grew.alloc ?_ _) | (with_reducible refine Grew.app_r ?_) | ((with_reducible refine Grew.setCell ?_ ?_ _); rotate_left; (focus (dsimp only; first | omega | (simp only [size_ext, World.size_alloc, Array.size_append]; omega)))) | (with_reducible refine Grew.ext ?_ _ _) | (with_reducible refine Grew.drewN ?_ _) | (with_reducible refine Grew.drew ?_))))); (focus exact hu' _ (by (show Grew _ _; (try simp only [← Array.append_assoc]); repeat (first | (with_reducible exact Grew.same_o) | (with_reducible exact Grew.refl _) | (with_reducible assumption) | (with_reducible refine Grew.alloc ?_ _) | (with_reducible refine Grew.app_r ?_) | ((with_reducible refine Grew.setCell ?_ ?_ _); rotate_left; (focus (dsimp only; first | omega | (simp only [size_ext, World.size_alloc, Array.size_append]; omega)))) | (with_reducible refine Grew.ext ?_ _ _) | (with_reducible refine Grew.drewN ?_ _) | (with_reducible refine Grew.drew ?_))))); (focus (first | rfl | (simp only [size_ext, Array.size_append]; done) | (simp only [size_ext]; done))); intro v2 w2 gw2 zw2 hv2 hk2 hn2))
            have hk3 : ∀ k, k < wr.heap.size → u3.ownBlock ≠ some k → w2.heap[k]? = wr.heap[k]? := fun k h1 h2 => (hk2 k (by simp only [size_ext]; omega) h2).trans (block_ext' h1)
            simp only [size_ext] at hn2
            go_roundw
            case rel =>
              refine ⟨j + 1, hlt, by go_num, gw2, ?_, ?_, hown.same (fun k hk => hk3 k (World.ownsRow.lt hown k hk).2 (fun h => hap k h hk)), ?_, HA.out, fun k hk => ?_, fun k hk h2 => ?_⟩
              · obtain ⟨e, he⟩ := B1; exact ⟨e, (hk3 p1 l1 (fun h => nu p1 h (by simp))).trans he⟩
              · obtain ⟨e, he⟩ := B2; exact ⟨e, (hk3 p2 l2 (fun h => nu p2 h (by simp))).trans he⟩
              · rw [HSC.out]; simpa [OwnI, bestI] using hv2
              · rcases hn2 k hk with h | h
                · exact nu k h
                · simp only [List.mem_cons, List.not_mem_nil, or_false]; omega
              · rcases hn2 k hk with h | h
                · exact hap k h h2
                · have := (World.ownsRow.lt hown k h2).2; omega
            case measure => simp [intOf]; omega
        · have e : j = C := by omega
          subst e
          have hof : FactsOut M i j 0 rs (colsTo' M i rs j) := .inr (.inr ⟨HALL.out, fun k hk => by rw [← HRS.out]; exact hall k hk, rfl, HRS.out, by rw [HRS.out]⟩)
          have HOF := hid hof
          have hIu := hu.is (by rw [colsTo'_length]; omega)
          obtain ⟨au, lu2, cu, rfl⟩ := owns_shape hu
          have z2' := z2
          clear hgc hall hof hown hu
          go_wp2
          refine bodyPost_ret (v := .tuple #[.slice av lv cv, .slice au lu2 cu, .int .i64 0, .int .i64 0]) (by simp [results, Try.results102, go_sem, *]) rfl ?_
          rw [B2.set1 rfl, B2.self]
          exact ⟨_, _, _, _, _, by rw [show errF 0 = 0 from rfl], HOF.out, hIS, hIu, gr⟩
end Go.Proofs.Ytcmggfpcbijcjaa
end
section
/-
  Contract: view.Dense with its numbers written out; the example of layer 4.
-/
set_option linter.unusedSimpArgs false
set_option linter.unusedVariables false
open Go Go.RowKit Sedge
namespace Go.Proofs.Ytcmggfpcbijcjaa
/-- The list that Dense makes. -/
def denseTo (r c : Nat) (l : List Nat) (k : Nat) : List Nat := writes (List.replicate (r * c) 0) (fun k => k / c + k % c * r) (fun k => l.getD k 0) k
def denseL (r c : Nat) (l : List Nat) : List Nat := denseTo r c l (min l.length (r * c))
set_option maxRecDepth 100000 in
set_option maxHeartbeats 1000000 in
/-- view.Dense, of sizes within 64. -/
theorem dense_any (r c : Nat) (aL : Option Addr) (ls : List Nat) (w : World) (hL : FS w (.slice aL ls.length ls.length) ls) (hr : r ≤ 64) (hc : c ≤ 64) (hr1 : 1 ≤ r) (hc1 : 1 ≤ c) (hlen : ls.length = r * c) :
   Calls Try.prog 69 #[.int .i64 r, .int .i64 c, .slice aL ls.length ls.length] w (fun e w' => ∃ v, e = .returned (.agg #[v, .int .i64 0, .int .i64 r, .int .i64 c, .int .i64 r]) ∧ WS w' w.heap.size v (denseL r c ls) ∧ ∃ o n, w' = ext w o n) := by
  have hm : r * c ≤ 64 * 64 := Nat.mul_le_mul hr hc
  have h2 : IntKind.i64.wrap ((r : Int) * c) = (r : Int) * c := IntWalk.i64_in _ (by rw [← Int.natCast_mul]; omega)
  have hlL := hL.len
  have d1 : decide ((r : Int) < 0) = false := by simp
  have d2 : decide ((c : Int) < 0) = false := by simp
  have d3 : decide ((64 : Int) < (r : Int)) = false := by simp; omega
  have d4 : decide ((64 : Int) < (c : Int)) = false := by simp; omega
  have d5 : (ls.length : Int) = (r : Int) * c := by rw [hlen, Int.natCast_mul]
  have d6 : decide ((1 : Int) ≤ (r : Int)) = true := by simp; omega
  go_enter Try.func69, Try.ntmps69
  refine seq_stop ?_
  go_wp2
  refine stop_go (fun W hW => ?_)
  have s1 : w.heap.size < W.heap.size := by rw [hW]; simp only [World.size_alloc]; omega
  have b1 : ∀ i, W.cell? ⟨w.heap.size, i, none⟩ = (#[.slice none 0 0, .int .i64 0, .int .i64 0, .int .i64 0, .int .i64 0] : Array Value)[i]? := by intro i; rw [hW]; go_simp
  have f1 : ∀ i, W.frozen? ⟨w.heap.size, i, none⟩ = false := by intro i; rw [hW]; go_simp
  have g0 : Grew w W := by rw [hW]; exact (Grew.refl _).alloc _
  clear hW
  have hLW : FS W (.slice aL ls.length ls.length) ls := hL.grew g0
  go_wp2_with (at_make; refine make_f (L := (r : Int) * (c : Int)) finfo (Grew.refl W) _ _ rfl rfl (r * c) (Int.natCast_mul r c).symm rfl rfl (by omega) ?_; intro oo nn k hk ho; have hF := ho.made)
  refine name_any (fun V hV => ?_)
  have gV : Grew W V := by rw [← hV]; (show Grew _ _; repeat (first | (with_reducible exact Grew.refl _) | (with_reducible assumption) | (with_reducible exact Grew.same_o) | (with_reducible exact Grew.app_o) | (with_reducible refine Grew.ext ?_ _ _) | (with_reducible refine Grew.alloc ?_ _) | ((with_reducible refine Grew.setCell ?_ ?_ _); rotate_left; (focus (dsimp only; first | omega | (simp only [size_ext, World.size_alloc, Array.size_append]; omega)))) | (with_reducible refine Grew.drewN ?_ _) | (with_reducible refine Grew.drew ?_)))
  have sV := gV.below.size
  have k1 : w.heap.size < V.heap.size := by omega
  have k3 : W.heap.size + oo.size < V.heap.size := by rw [← hV]; simp only [World.size_alloc, size_ext]; omega
  have c1 : ∀ i, V.cell? ⟨w.heap.size, i, none⟩ = (#[.slice none 0 0, .int .i64 0, .int .i64 0, .int .i64 0, .int .i64 0] : Array Value)[i]? := fun i => (gV.cell s1).trans (b1 i)
  have z1 : ∀ i, V.frozen? ⟨w.heap.size, i, none⟩ = false := fun i => (gV.frozen s1).trans (f1 i)
  have c3 : ∀ i, V.cell? ⟨W.heap.size + oo.size, i, none⟩ = (#[.slice (some ⟨k, 0, none⟩) (r * c) (r * c), .int .i64 0, .int .i64 r, .int .i64 c, .int .i64 r] : Array Value)[i]? := by subst hV; intro i; go_simp
  have hFV : FW V k (List.replicate (r * c) 0) := by rw [← hV]; (repeat (first | (with_reducible assumption) | ((with_reducible refine FW.ext_set ?_ ?_ ?_ _); rotate_left; (focus (simp only [size_setCell', World.size_alloc, size_ext, size_upd]; omega)); (focus (dsimp only; omega))) | ((with_reducible refine FW.setCell_ne ?_ ?_ _); rotate_left; (focus (dsimp only; omega))) | (with_reducible refine FW.ext ?_ _ _) | (with_reducible refine FW.alloc ?_ _)))
  have hLV : FS V (.slice aL ls.length ls.length) ls := hLW.grew gV
  have gl := hFV.lt
  have q1 : w.heap.size ≠ k := by omega
  have q3 : W.heap.size + oo.size ≠ k := by have := hF.lt; simp only [size_ext] at this; omega
  have HL := hid hlen
  clear hV b1 f1 hL ho
  go_loopw [43] (fun s wr => ∃ (i : Nat) (cs : Array Value) (o : Array Obj) (n : Nat), i ≤ r * c ∧ s = .int .i64 i ∧ wr = ext (upd V k cs) o n ∧ CF cs (denseTo r c ls i)) (fun s _ => r * c - (intOf s).toNat)
  case atStart =>
    obtain ⟨cs, h1, h2⟩ := hFV.self
    exact ⟨0, cs, #[], _, Nat.zero_le _, rfl, by rw [h1]; exact ext_zero.symm, h2⟩
  case round =>
    obtain ⟨i, cs, o2, n2, hi, rfl, hwr, hcs⟩ := hrel
    subst hwr
    by_cases hlt : i < r * c
    · have e1 : i / c < r := by rw [Nat.div_lt_iff_lt_mul (by omega)]; exact hlt
      have e2 : i % c < c := Nat.mod_lt _ (by omega)
      have e3 : i % c * r + r ≤ c * r := by have := Nat.mul_le_mul_right r e2; rw [Nat.succ_mul] at this; exact this
      have e4 : c * r = r * c := Nat.mul_comm c r
      obtain ⟨p, hp⟩ : ∃ p : Nat, p = i / c := ⟨_, rfl⟩
      obtain ⟨q, hq⟩ : ∃ q : Nat, q = i % c := ⟨_, rfl⟩
      rw [← hp] at e1
      rw [← hq] at e2 e3
      have hq1 : (i : Int).tdiv c = (p : Int) := by rw [hp]; rfl
      have hq2 : (i : Int).tmod c = (q : Int) := by rw [hq]; rfl
      have hq3 : (i : Int) / c = (p : Int) := by rw [hp]; rfl
      have hq4 : (i : Int) % c = (q : Int) := by rw [hq]; rfl
      have m0 : (q : Int) * r = ((q * r : Nat) : Int) := (Int.natCast_mul q r).symm
      have w1 : IntKind.i64.wrap ((q : Int) * r) = (q : Int) * r := IntWalk.i64_in _ (by omega)
      have w2 : IntKind.i64.wrap ((p : Int) + (q : Int) * r) = (p : Int) + (q : Int) * r := IntWalk.i64_in _ (by omega)
      have n0 : ((p : Int) + (q : Int) * r).toNat = p + q * r := by omega
      have n1 : 0 ≤ (p : Int) + (q : Int) * r := by omega
      have n3 : (p : Int) + (q : Int) * r < ((r * c : Nat) : Int) := by omega
      have n2' : (c : Int) ≠ 0 := by omega
      have n6 : (p : Int) + (q : Int) * r < (r : Int) * c := by rw [← Int.natCast_mul r c]; exact n3
      have n8 : p + q * r < r * c := by omega
      have n5 : ¬ c = 0 := by omega
      have w0 : IntKind.i64.wrap (p : Int) = p := IntWalk.i64_in _ (by omega)
      have w3 : IntKind.i64.wrap (q : Int) = q := IntWalk.i64_in _ (by omega)
      have n4 : ((c : Int) == 0) = false := by simp; omega
      have fz : ∀ i, V.frozen? ⟨k, i, none⟩ = false := hFV.notFrozen
      have hlen2 : (denseTo r c ls i).length = r * c := by simp [denseTo]
      obtain ⟨r0, hr0, _⟩ := (hFV.mk' hcs o2 n2).get (i := p + q * r) (by rw [hlen2]; omega)
      have hr1 := (cell_ext (by simpa using gl)).symm.trans hr0
      obtain ⟨blk, o, rfl, hblk, hc⟩ := hLW.at.2 (by omega)
      obtain ⟨b, hb0, hf⟩ := hc i (by omega)
      have hb := (gV.cell hblk).trans hb0
      have qb : blk ≠ k := by omega
      have kb : blk < V.heap.size := by omega
      have Hp := hid hp
      have Hq := hid hq
      clear hb0 hc hr0 m0 hp hq
      go_wp2
      refine wp_region_R (Over V k) [] [(0,0), (0,1), (0,2), (0,3), (0,4), (0,5), (0,6), (0,7), (0,8), (0,9), (0,10), (0,11), (0,12), (0,13), (1,14)] (by kernel_rfl) (by kernel_rfl) (fun _ _ _ _ h _ => h) ⟨_, _, _, ext_drew⟩ ?_
      go_wp2_with (first | ((with_reducible refine wpR_id ?_); first | (refine wpR_take (v := ?_) rfl rfl ?_ ?_; rotate_left; (focus (rintro w' ⟨cs', o', n', rfl⟩; go_simp; try with_reducible rfl)); simp only [Act.put, List.setIfInBounds_toArray, List.set_cons_zero, List.set_cons_succ]) | (refine wpR_pure (v := ?_) rfl rfl ?_ ?_; rotate_left; (focus (intro w'; go_simp; try with_reducible rfl)); simp only [Act.put, List.setIfInBounds_toArray, List.set_cons_zero, List.set_cons_succ]) | (refine wpR_takeG (v := ?_) rfl rfl rfl rfl rfl ?_ ?_; rotate_left; (focus (rintro w' ⟨cs', o', n', rfl⟩; go_simp; try with_reducible rfl)); simp only [Act.put, List.setIfInBounds_toArray, List.set_cons_zero, List.set_cons_succ]) | (refine wpR_skip rfl rfl rfl rfl rfl rfl ?_; simp only [Act.put, List.setIfInBounds_toArray, List.set_cons_zero, List.set_cons_succ]) | (refine wpR_skipU rfl rfl rfl rfl rfl ?_; simp only [Act.put, List.setIfInBounds_toArray, List.set_cons_zero, List.set_cons_succ]) | (refine wpR_do rfl rfl (fun K hK => ?_)) | (refine wpR_doG rfl rfl rfl rfl rfl (fun K hK => ?_)) | (refine wpR_last rfl rfl (fun K hK => ?_)) | (refine wpR_nil ?_)) | ((with_reducible refine wpR_go ?_ ?_); (focus exact ⟨_, _, _, rfl⟩)) | ((with_reducible refine upon_id ?_); refine upon_fop rfl (by assumption) (by assumption) ?_; intro rr nn hr))
      go_roundw
      case rel =>
        refine ⟨i + 1, _, _, _, by omega, by go_num, rfl, ?_⟩
        have h8 := hcs.set (i := p + q * r) hf
        unfold denseTo at h8 ⊢; unfold writes
        rw [← Hp.out, ← Hq.out]; exact h8
      case measure => simp [intOf]; omega
    · have e : i = r * c := by omega
      subst e
      have hfw : FW (ext (upd V k cs) o2 n2) k (denseL r c ls) := by unfold denseL; rw [HL.out, Nat.min_self]; exact hFV.mk' hcs _ _
      have gu : Grew w (upd V k cs) := (g0.trans gV).upd (by omega) cs
      go_wp2
      refine bodyPost_ret (v := .agg #[.slice (some ⟨k, 0, none⟩) (r * c) (r * c), .int .i64 0, .int .i64 r, .int .i64 c, .int .i64 r]) (by simp [results, Try.results69, go_sem, *]) rfl ?_
      exact ⟨_, rfl, ⟨k, r * c, by simp [denseL, denseTo], by omega, by (repeat (first | (with_reducible assumption) | ((with_reducible refine FW.ext_set ?_ ?_ ?_ _); rotate_left; (focus (simp only [size_setCell', World.size_alloc, size_ext, size_upd]; omega)); (focus (dsimp only; omega))) | ((with_reducible refine FW.setCell_ne ?_ ?_ _); rotate_left; (focus (dsimp only; omega))) | (with_reducible refine FW.ext ?_ _ _) | (with_reducible refine FW.alloc ?_ _))), by simp [denseL, denseTo]; omega⟩, by (show Grew _ _; repeat (first | (with_reducible exact Grew.refl _) | (with_reducible assumption) | (with_reducible exact Grew.same_o) | (with_reducible exact Grew.app_o) | (with_reducible refine Grew.ext ?_ _ _) | (with_reducible refine Grew.alloc ?_ _) | ((with_reducible refine Grew.setCell ?_ ?_ _); rotate_left; (focus (dsimp only; first | omega | (simp only [size_ext, World.size_alloc, Array.size_append]; omega)))) | (with_reducible refine Grew.drewN ?_ _) | (with_reducible refine Grew.drew ?_)))⟩
end Go.Proofs.Ytcmggfpcbijcjaa
end
section
/-
  Contracts: the law's ints; its example.
-/
set_option linter.unusedSimpArgs false
set_option linter.unusedVariables false
open Go Go.RowKit Sedge
namespace Go.Proofs.Ytcmggfpcbijcjaa
theorem ints_take {xa xb : List Int} (k : Nat) (h : k < xa.length) (hl : xa.length = xb.length) (he : xa.getD k 0 = xb.getD k 0) (ht : xa.take k = xb.take k) : xa.take (k + 1) = xb.take (k + 1) := by
  rw [List.take_add_one, List.take_add_one, ht]
  congr 1
  rw [List.getD_eq_getElem?_getD, List.getD_eq_getElem?_getD, List.getElem?_eq_getElem h, List.getElem?_eq_getElem (by omega)] at he
  rw [List.getElem?_eq_getElem h, List.getElem?_eq_getElem (by omega)]
  simpa using he
set_option maxRecDepth 100000 in
set_option maxHeartbeats 1000000 in
/-- The law's ints. -/
theorem ints_any (VA VB : Value) (xa xb : List Int) (w : World) (hA : IS .i64 w VA xa) (hB : IS .i64 w VB xb) (hla : xa.length ≤ 1000000) (hlb : xb.length ≤ 1000000) :
    Calls Try.prog 104 #[VA, VB] w (fun e w' => e = .returned (.bool (decide (xa = xb))) ∧ ∃ o n, w' = ext w o n) := by
  obtain ⟨aA, cA, rfl⟩ := hA.shape
  obtain ⟨aB, cB, rfl⟩ := hB.shape
  by_cases hl : xa.length = xb.length
  · have d1 : ((xa.length : Int) != xb.length) = false := by simp [hl]
    have HA := hid hA
    have HB := hid hB
    have HL := hid hl
    clear hA hB hl
    go_enter Try.func104, Try.ntmps104
    go_wp2
    go_loopw [5] (fun c wr => ∃ (k : Nat), k ≤ xa.length ∧ c = .int .i64 k ∧ Grew w wr ∧ xa.take k = xb.take k) (fun c _ => xa.length - (intOf c).toNat)
    case atStart => exact ⟨0, Nat.zero_le _, rfl, Grew.refl _, rfl⟩
    case round =>
      obtain ⟨k, hk, rfl, gr, ht⟩ := hrel
      have HT := hid ht
      clear ht
      by_cases hlt : k < xa.length
      · obtain ⟨ba, oa, ea, ka, hca⟩ := HA.out.at.2 (by omega)
        obtain ⟨bb, ob, eb, kb, hcb⟩ := HB.out.at.2 (by have := HL.out; omega)
        subst ea eb
        have ca := hca k hlt
        have cb := hcb k (by have := HL.out; omega)
        obtain ⟨x, hx⟩ : ∃ x, x = xa.getD k 0 := ⟨_, rfl⟩
        obtain ⟨y, hy⟩ : ∃ y, y = xb.getD k 0 := ⟨_, rfl⟩
        rw [← hx] at ca
        rw [← hy] at cb
        have ca1 := (gr.cell ka).trans ca
        have cb1 := (gr.cell kb).trans cb
        have zr := gr.below.size
        have ka1 : ba < wr.heap.size := by omega
        have kb1 : bb < wr.heap.size := by omega
        have hkb : k < xb.length := by have := HL.out; omega
        have HXY := hid (And.intro hx hy)
        clear hca hcb ca cb hx hy
        by_cases hxy : x = y
        · have d2 : (x != y) = false := by simp [hxy]
          have HE := hid hxy
          clear hxy
          go_wp2
          refine wp_region_R (Grew wr) [] [(0,0), (0,1), (0,2), (0,3), (0,4), (0,5), (0,6), (0,7), (0,8)] (by kernel_rfl) (by kernel_rfl) (fun _ _ _ _ h _ => h) (by first | exact ⟨_, _, ext_drew⟩ | exact ⟨_, _, drew_ext0⟩ | (show Grew _ _; repeat (first | (with_reducible exact Grew.refl _) | (with_reducible assumption) | (with_reducible exact Grew.same_o) | (with_reducible exact Grew.app_o) | (with_reducible refine Grew.ext ?_ _ _) | (with_reducible refine Grew.alloc ?_ _) | ((with_reducible refine Grew.setCell ?_ ?_ _); rotate_left; (focus (dsimp only; first | omega | (simp only [size_ext, World.size_alloc, Array.size_append]; omega)))) | (with_reducible refine Grew.drewN ?_ _) | (with_reducible refine Grew.drew ?_)))) ?_
          go_wp2_with (first | ((with_reducible refine wpR_id ?_); first | (refine wpR_take (v := ?_) rfl rfl ?_ ?_; rotate_left; (focus (rintro w' ⟨o', n', rfl⟩; go_simp; try with_reducible rfl)); simp only [Act.put, List.setIfInBounds_toArray, List.set_cons_zero, List.set_cons_succ]) | (refine wpR_pure (v := ?_) rfl rfl ?_ ?_; rotate_left; (focus (intro w'; go_simp; try with_reducible rfl)); simp only [Act.put, List.setIfInBounds_toArray, List.set_cons_zero, List.set_cons_succ]) | (refine wpR_takeG (v := ?_) rfl rfl rfl rfl rfl ?_ ?_; rotate_left; (focus (rintro w' ⟨o', n', rfl⟩; go_simp; try with_reducible rfl)); simp only [Act.put, List.setIfInBounds_toArray, List.set_cons_zero, List.set_cons_succ]) | (refine wpR_skip rfl rfl rfl rfl rfl rfl ?_; simp only [Act.put, List.setIfInBounds_toArray, List.set_cons_zero, List.set_cons_succ]) | (refine wpR_skipU rfl rfl rfl rfl rfl ?_; simp only [Act.put, List.setIfInBounds_toArray, List.set_cons_zero, List.set_cons_succ]) | (refine wpR_do rfl rfl (fun K hK => ?_)) | (refine wpR_doG rfl rfl rfl rfl rfl (fun K hK => ?_)) | (refine wpR_last rfl rfl (fun K hK => ?_)) | (refine wpR_nil ?_)) | ((with_reducible refine wpR_go ?_ ?_); (focus (show Grew _ _; repeat (first | (with_reducible exact Grew.refl _) | (with_reducible assumption) | (with_reducible exact Grew.same_o) | (with_reducible exact Grew.app_o) | (with_reducible refine Grew.ext ?_ _ _) | (with_reducible refine Grew.alloc ?_ _) | ((with_reducible refine Grew.setCell ?_ ?_ _); rotate_left; (focus (dsimp only; first | omega | (simp only [size_ext, World.size_alloc, Array.size_append]; omega)))) | (with_reducible refine Grew.drewN ?_ _) | (with_reducible refine Grew.drew ?_))))) | ((with_reducible refine upon_id ?_); refine upon_fop rfl (by assumption) (by assumption) ?_; intro rr nn hr))
          go_roundw
          case rel => exact ⟨k + 1, hlt, by go_num, Grew.trans gr (by (show Grew _ _; (try simp only [← Array.append_assoc]); repeat (first | (with_reducible exact Grew.same_o) | (with_reducible exact Grew.refl _) | (with_reducible assumption) | (with_reducible refine Grew.alloc ?_ _) | (with_reducible refine Grew.app_r ?_) | ((with_reducible refine Grew.setCell ?_ ?_ _); rotate_left; (focus (dsimp only; first | omega | (simp only [size_ext, World.size_alloc, Array.size_append]; omega)))) | (with_reducible refine Grew.ext ?_ _ _) | (with_reducible refine Grew.drewN ?_ _) | (with_reducible refine Grew.drew ?_)))), ints_take k hlt HL.out (by rw [← HXY.out.1, ← HXY.out.2]; exact HE.out) HT.out⟩
          case measure => simp [intOf]; omega
        · have d2 : (x != y) = true := by simp [hxy]
          have HE := hid hxy
          clear hxy
          go_wp2
          refine wp_region_R (Grew wr) [] [(0,0), (0,1), (0,2), (0,3), (0,4), (0,5), (0,6), (0,7), (0,8)] (by kernel_rfl) (by kernel_rfl) (fun _ _ _ _ h _ => h) (by first | exact ⟨_, _, ext_drew⟩ | exact ⟨_, _, drew_ext0⟩ | (show Grew _ _; repeat (first | (with_reducible exact Grew.refl _) | (with_reducible assumption) | (with_reducible exact Grew.same_o) | (with_reducible exact Grew.app_o) | (with_reducible refine Grew.ext ?_ _ _) | (with_reducible refine Grew.alloc ?_ _) | ((with_reducible refine Grew.setCell ?_ ?_ _); rotate_left; (focus (dsimp only; first | omega | (simp only [size_ext, World.size_alloc, Array.size_append]; omega)))) | (with_reducible refine Grew.drewN ?_ _) | (with_reducible refine Grew.drew ?_)))) ?_
          go_wp2_with (first | ((with_reducible refine wpR_id ?_); first | (refine wpR_take (v := ?_) rfl rfl ?_ ?_; rotate_left; (focus (rintro w' ⟨o', n', rfl⟩; go_simp; try with_reducible rfl)); simp only [Act.put, List.setIfInBounds_toArray, List.set_cons_zero, List.set_cons_succ]) | (refine wpR_pure (v := ?_) rfl rfl ?_ ?_; rotate_left; (focus (intro w'; go_simp; try with_reducible rfl)); simp only [Act.put, List.setIfInBounds_toArray, List.set_cons_zero, List.set_cons_succ]) | (refine wpR_takeG (v := ?_) rfl rfl rfl rfl rfl ?_ ?_; rotate_left; (focus (rintro w' ⟨o', n', rfl⟩; go_simp; try with_reducible rfl)); simp only [Act.put, List.setIfInBounds_toArray, List.set_cons_zero, List.set_cons_succ]) | (refine wpR_skip rfl rfl rfl rfl rfl rfl ?_; simp only [Act.put, List.setIfInBounds_toArray, List.set_cons_zero, List.set_cons_succ]) | (refine wpR_skipU rfl rfl rfl rfl rfl ?_; simp only [Act.put, List.setIfInBounds_toArray, List.set_cons_zero, List.set_cons_succ]) | (refine wpR_do rfl rfl (fun K hK => ?_)) | (refine wpR_doG rfl rfl rfl rfl rfl (fun K hK => ?_)) | (refine wpR_last rfl rfl (fun K hK => ?_)) | (refine wpR_nil ?_)) | ((with_reducible refine wpR_go ?_ ?_); (focus (show Grew _ _; repeat (first | (with_reducible exact Grew.refl _) | (with_reducible assumption) | (with_reducible exact Grew.same_o) | (with_reducible exact Grew.app_o) | (with_reducible refine Grew.ext ?_ _ _) | (with_reducible refine Grew.alloc ?_ _) | ((with_reducible refine Grew.setCell ?_ ?_ _); rotate_left; (focus (dsimp only; first | omega | (simp only [size_ext, World.size_alloc, Array.size_append]; omega)))) | (with_reducible refine Grew.drewN ?_ _) | (with_reducible refine Grew.drew ?_))))) | ((with_reducible refine upon_id ?_); refine upon_fop rfl (by assumption) (by assumption) ?_; intro rr nn hr))
          go_ret
          refine ⟨ret_bool ?_, Grew.trans gr (by (show Grew _ _; (try simp only [← Array.append_assoc]); repeat (first | (with_reducible exact Grew.same_o) | (with_reducible exact Grew.refl _) | (with_reducible assumption) | (with_reducible refine Grew.alloc ?_ _) | (with_reducible refine Grew.app_r ?_) | ((with_reducible refine Grew.setCell ?_ ?_ _); rotate_left; (focus (dsimp only; first | omega | (simp only [size_ext, World.size_alloc, Array.size_append]; omega)))) | (with_reducible refine Grew.ext ?_ _ _) | (with_reducible refine Grew.drewN ?_ _) | (with_reducible refine Grew.drew ?_))))⟩
          symm
          apply decide_eq_false
          intro h
          apply HE.out
          rw [HXY.out.1, HXY.out.2, h]
      · have e : k = xa.length := by omega
        subst e
        go_wp2
        go_ret
        refine ⟨ret_bool ?_, gr⟩
        symm
        apply decide_eq_true
        have h := HT.out
        rw [List.take_length, List.take_of_length_le (by rw [HL.out]; exact Nat.le_refl _)] at h
        exact h
  · have d1 : ((xa.length : Int) != xb.length) = true := by simp; omega
    have hne : ¬ xa = xb := fun h => hl (by rw [h])
    rw [decide_eq_false hne]
    clear hl hne
    go_enter Try.func104, Try.ntmps104
    go_wp2
    go_ret
    exact ⟨rfl, by (show Grew _ _; repeat (first | (with_reducible exact Grew.refl _) | (with_reducible assumption) | (with_reducible exact Grew.same_o) | (with_reducible exact Grew.app_o) | (with_reducible refine Grew.ext ?_ _ _) | (with_reducible refine Grew.alloc ?_ _) | ((with_reducible refine Grew.setCell ?_ ?_ _); rotate_left; (focus (dsimp only; first | omega | (simp only [size_ext, World.size_alloc, Array.size_append]; omega)))) | (with_reducible refine Grew.drewN ?_ _) | (with_reducible refine Grew.drew ?_)))⟩
theorem is_lit2 {w : World} {t : TypeId} (a b : Int) (n : Nat) (hn : n = w.heap.size) : IS .i64 (w.alloc (.cells #[.int .i64 a, .int .i64 b] t)) (.slice (some ⟨n, 0, none⟩) 2 2) [a, b] := by
  subst hn
  have h : Box (w.alloc (.cells #[.int .i64 a, .int .i64 b] t)) w.heap.size #[.int .i64 a, .int .i64 b] := Box.new' rfl
  refine ⟨by simp, some ⟨w.heap.size, 0, none⟩, 2, rfl, fun i hi => ⟨w.heap.size, 0, rfl, ?_⟩⟩
  rw [Nat.zero_add, h.cell]
  obtain rfl | rfl : i = 0 ∨ i = 1 := by simp at hi; omega
  · rfl
  · rfl
def L15 : List Nat := [4620693217682128896, 0, 4607182418800017408, 4611686018427387904]
def M15 : MatM := ⟨denseL 2 2 L15, 0, 2, 2, 2⟩
theorem facts_15 : FactsOut M15.num 2 2 0 [-3, -1] [0, 0] := by
  refine .inr (.inr ⟨?_, ?_, rfl, ?_, ?_⟩)
  · decide +kernel
  · decide +kernel
  · decide +kernel
  · decide +kernel
theorem efact_15 (v : Value) (w : World) (h : FS w v (denseL 2 2 L15)) : Calls Try.prog 102 #[.agg #[v, .int .i64 0, .int .i64 2, .int .i64 2, .int .i64 2]] w (fun e w' => ∃ v1 v2, e = .returned (.tuple #[v1, v2, .int .i64 0, .int .i64 0]) ∧ IS .i64 w' v1 [-3, -1] ∧ IS .i64 w' v2 [0, 0] ∧ ∃ o n, w' = ext w o n) := by
  refine (efact_ok M15 v 2 2 w h (by decide +kernel) (by simp [MatM.wf, I64, M15]) (by decide +kernel) rfl rfl (by decide) (by decide) (by decide +kernel)).mono fun e w' hh => ?_
  obtain ⟨v1, v2, a, rs, cs, rfl, h1, h2, h3, h4⟩ := hh
  obtain ⟨rfl, rfl, rfl⟩ := h1.unique facts_15
  exact ⟨v1, v2, rfl, h2, h3, h4⟩
theorem ints_same (VA VB : Value) (xa : List Int) (w : World) (hA : IS .i64 w VA xa) (hB : IS .i64 w VB xa) (hla : xa.length ≤ 1000000) : Calls Try.prog 104 #[VA, VB] w (fun e w' => e = .returned (.bool true) ∧ ∃ o n, w' = ext w o n) := by
  have := ints_any VA VB xa xa w hA hB hla hla
  rw [decide_eq_true rfl] at this
  exact this
set_option maxRecDepth 100000 in
set_option maxHeartbeats 4000000 in
/-- The document's example. -/
theorem awake15 (w : World) : Calls Try.prog 101 #[] w (fun e w' => e = .returned (.bool true) ∧ ∃ o n, w' = ext w o n) := by
  have h1 : ∀ x ∈ L15, IsF x x := by decide +kernel
  have H1 := hid h1
  clear h1
  have hd2 : ∀ aL w', FS w' (.slice aL 4 4) L15 → Calls Try.prog 69 #[.int .i64 2, .int .i64 2, .slice aL 4 4] w' (fun e w2 => ∃ v, e = .returned (.agg #[v, .int .i64 0, .int .i64 2, .int .i64 2, .int .i64 2]) ∧ FS w2 v (denseL 2 2 L15) ∧ ∃ o n, w2 = ext w' o n) := fun aL w' h => by
    refine (dense_any 2 2 aL L15 w' h (by decide) (by decide) (by decide) (by decide) rfl).mono fun e w2 hh => ?_
    obtain ⟨v, rfl, q1, q2⟩ := hh
    exact ⟨v, rfl, q1.fs, q2⟩
  go_enter Try.func101, Try.ntmps101
  go_wp2_with (first | (go_at_call 69; ((with_reducible refine (hd2 _ _ ?_).mono ?_); (focus (repeat (first | exact FS.lit L15 (by decide) H1.out 4 _ (by simp only [size_ext, World.size_alloc]) | exact FS.lit L15 (by decide) H1.out 4 _ rfl | refine FS.alloc ?_ _ | refine FS.ext ?_ _ _))); rintro e w1 ⟨v, rfl, hv, o1, n1, rfl⟩)) | (go_at_call 102; ((with_reducible refine (efact_15 _ _ hv).mono ?_); rintro e w1 ⟨v1, v2, rfl, hv1, hv2, o2, n2, rfl⟩; (simp only [ext_ext] at hv1 hv2))) | (go_at_call 104; ((with_reducible refine (ints_same _ _ [-3, -1] _ (hv1.grew (by (show Grew _ _; (try simp only [← Array.append_assoc]); repeat (first | (with_reducible exact Grew.same_o) | (with_reducible exact Grew.refl _) | (with_reducible assumption) | (with_reducible refine Grew.alloc ?_ _) | (with_reducible refine Grew.app_r ?_) | ((with_reducible refine Grew.setCell ?_ ?_ _); rotate_left; (focus (dsimp only; first | omega | (simp only [size_ext, World.size_alloc, Array.size_append]; omega)))) | (with_reducible refine Grew.ext ?_ _ _) | (with_reducible refine Grew.drewN ?_ _) | (with_reducible refine Grew.drew ?_))))) (is_lit2 _ _ _ (by simp only [size_ext, World.size_alloc, Array.size_append])) (by decide)).mono ?_); rintro e w3 ⟨rfl, o3, n3, rfl⟩)) | (go_at_call 104; ((with_reducible refine (ints_same _ _ [0, 0] _ (hv2.grew (by (show Grew _ _; (try simp only [← Array.append_assoc]); repeat (first | (with_reducible exact Grew.same_o) | (with_reducible exact Grew.refl _) | (with_reducible assumption) | (with_reducible refine Grew.alloc ?_ _) | (with_reducible refine Grew.app_r ?_) | ((with_reducible refine Grew.setCell ?_ ?_ _); rotate_left; (focus (dsimp only; first | omega | (simp only [size_ext, World.size_alloc, Array.size_append]; omega)))) | (with_reducible refine Grew.ext ?_ _ _) | (with_reducible refine Grew.drewN ?_ _) | (with_reducible refine Grew.drew ?_))))) (is_lit2 _ _ _ (by simp only [size_ext, World.size_alloc, Array.size_append])) (by decide)).mono ?_); rintro e w3 ⟨rfl, o3, n3, rfl⟩)))
  go_ret
  exact ⟨rfl, by (show Grew _ _; repeat (first | (with_reducible exact Grew.refl _) | (with_reducible assumption) | (with_reducible exact Grew.same_o) | (with_reducible exact Grew.app_o) | (with_reducible refine Grew.ext ?_ _ _) | (with_reducible refine Grew.alloc ?_ _) | ((with_reducible refine Grew.setCell ?_ ?_ _); rotate_left; (focus (dsimp only; first | omega | (simp only [size_ext, World.size_alloc, Array.size_append]; omega)))) | (with_reducible refine Grew.drewN ?_ _) | (with_reducible refine Grew.drew ?_)))⟩
end Go.Proofs.Ytcmggfpcbijcjaa
end
section
/-
  A law of copy between slices of floats.
-/
set_option linter.unusedSimpArgs false
set_option linter.unusedVariables false
open Go Go.RowKit Sedge
namespace Go.Proofs.Ytcmggfpcbijcjaa
/-- The row behind a copy. -/
def cpl (ws xs : List Nat) : List Nat := (List.range ws.length).map fun i => if i < xs.length then xs.getD i 0 else ws.getD i 0
theorem cpl_length (ws xs : List Nat) : (cpl ws xs).length = ws.length := by simp [cpl]
theorem cpl_getD (ws xs : List Nat) {i : Nat} (hi : i < ws.length) : (cpl ws xs).getD i 0 = if i < xs.length then xs.getD i 0 else ws.getD i 0 := by
  unfold cpl
  rw [List.getD_eq_getElem?_getD, List.getElem?_map, List.getElem?_range hi]
  rfl
theorem cpl_self {ws xs : List Nat} (h : Nat.min xs.length ws.length = 0) : cpl ws xs = ws := by
  apply List.ext_getElem?
  intro i
  by_cases hi : i < ws.length
  · have hx : xs.length = 0 := by
      rcases Nat.le_total xs.length ws.length with h1 | h1
      · have : Nat.min xs.length ws.length = xs.length := Nat.min_eq_left h1
        omega
      · have : Nat.min xs.length ws.length = ws.length := Nat.min_eq_right h1
        omega
    have h2 := cpl_getD ws xs hi
    rw [if_neg (by omega)] at h2
    rw [List.getD_eq_getElem?_getD, List.getD_eq_getElem?_getD] at h2
    rw [List.getElem?_eq_getElem (by rw [cpl_length]; exact hi), List.getElem?_eq_getElem hi] at h2 ⊢
    simpa using h2
  · rw [List.getElem?_eq_none (by rw [cpl_length]; omega), List.getElem?_eq_none (by omega)]
theorem copyF_K {P : Program} {w : World} {ops : Array Oper} {rest : List Oper} {o : Oper} {a : Act} {Q : Exit → Act → World → Prop} (hgd : o.guard = none) (d s : Operand) (dT sT : TypeId)
    (ho : o.op = .call { callee := .builtin .copy, args := #[d, s], argTypes := #[dT, sT] }) (elem : TypeId) (hu : P.underlying dT = some (.slice elem)) (hsz : (P.info? elem).map (·.size) = some 1)
    (g dCap : Nat) (sp : Option Addr) (sCap : Nat) (ws xs : List Nat) (hd : a.eval d = .slice (some ⟨g, 0, none⟩) ws.length dCap) (hs : a.eval s = .slice sp xs.length sCap)
    (hF : FW w g ws) (hX : FS w (.slice sp xs.length sCap) xs)
    (h : ∀ w', Wrote w w' g (cpl ws xs) → wpList P ops Q rest (a.put o.dst (goInt (Nat.min xs.length ws.length))) w') : wpList P ops Q (o :: rest) a w := by
  by_cases h0 : Nat.min xs.length ws.length = 0
  · refine wpList_copy_nothing hgd d s dT sT ho elem hu hsz _ _ _ _ _ _ hd hs h0 ?_
    have := h w (by rw [cpl_self h0]; exact Wrote.refl hF)
    rw [h0] at this
    exact this
  · have hm1 : Nat.min xs.length ws.length ≤ xs.length := Nat.min_le_left _ _
    have hm2 : Nat.min xs.length ws.length ≤ ws.length := Nat.min_le_right _ _
    obtain ⟨blk, so, rfl, hblk, hc⟩ := hX.at.2 (by omega)
    obtain ⟨f, hf⟩ : ∃ f : Nat → Nat, ∀ j, j < xs.length → w.cell? ⟨blk, so + j, none⟩ = some (.float .f64 (f j)) ∧ IsF (f j) (xs.getD j 0) :=
      ⟨fun j => if hj : j < xs.length then Classical.choose (hc j hj) else 0, fun j hj => by
        simp only [dif_pos hj]; exact Classical.choose_spec (hc j hj)⟩
    obtain ⟨m, hm⟩ : ∃ m, m = Nat.min xs.length ws.length := ⟨_, rfl⟩
    obtain ⟨c, e, hb, hc1, hc2⟩ := hF
    have hlen : ((List.range m).map fun j => Value.float .f64 (f j)).length = m := by simp
    refine wpList_copy_own hgd d s dT sT ho elem hu hsz g 0 ws.length dCap ⟨blk, so, none⟩ xs.length sCap hd hs c e hb ((List.range m).map fun j => .float .f64 (f j)) (by rw [hlen, hm]) ?_ ?_ ?_ ?_
    · intro j v hv
      have hj : j < m := by
        rcases Nat.lt_or_ge j m with h1 | h1
        · exact h1
        · rw [List.getElem?_eq_none (by rw [hlen]; exact h1)] at hv; cases hv
      rw [List.getElem?_map, List.getElem?_range hj] at hv
      obtain rfl : Value.float .f64 (f j) = v := by simpa using hv
      rw [show Addr.add ⟨blk, so, none⟩ j = ⟨blk, so + j, none⟩ by unfold Addr.add; split <;> simp_all]
      exact (hf j (by omega)).1
    · rw [hlen]; omega
    · intro v hv
      simp only [List.mem_map] at hv
      obtain ⟨j, _, rfl⟩ := hv
      rfl
    · rw [hlen, hm]
      refine h _ ⟨_, #[], w.drawn, ext_zero.symm, ?_, ?_⟩
      · rw [cpl_length]
        simp only [List.take_zero, List.nil_append, List.size_toArray, List.length_append, List.length_map, List.length_range, List.length_drop, Array.length_toList]
        omega
      · intro i hi
        rw [cpl_length] at hi
        rw [cpl_getD _ _ hi]
        simp only [List.take_zero, List.nil_append, List.getElem?_toArray]
        by_cases hx : i < xs.length
        · have him : i < m := by
            rw [hm]
            exact Nat.lt_min.2 ⟨hx, hi⟩
          rw [if_pos hx, List.getElem?_append_left (by rw [List.length_map, List.length_range, ← hm]; exact him), List.getElem?_map, List.getElem?_range (by rw [← hm]; exact him)]
          exact ⟨_, rfl, (hf i hx).2⟩
        · rw [if_neg hx]
          have him : m ≤ i := by
            rw [hm]
            exact Nat.le_trans hm1 (by omega)
          rw [List.getElem?_append_right (by rw [List.length_map, List.length_range, ← hm]; exact him), List.length_map, List.length_range, ← hm, List.getElem?_drop, Nat.zero_add, show m + (i - m) = i by omega, Array.getElem?_toList]
          exact hc2 i hi
theorem copyF_K' {P : Program} {w : World} {ops : Array Oper} {rest : List Oper} {o : Oper} {a : Act} {Q : Exit → Act → World → Prop} (hgd : o.guard = none) (d s : Operand) (dT sT : TypeId)
    (ho : o.op = .call { callee := .builtin .copy, args := #[d, s], argTypes := #[dT, sT] }) (elem : TypeId) (hu : P.underlying dT = some (.slice elem)) (hsz : (P.info? elem).map (·.size) = some 1)
    (g dLen dCap : Nat) (sp : Option Addr) (sLen sCap : Nat) (ws xs : List Nat) (hd : a.eval d = .slice (some ⟨g, 0, none⟩) dLen dCap) (hs : a.eval s = .slice sp sLen sCap) (hl : ws.length = dLen)
    (hF : FW w g ws) (hX : FS w (.slice sp sLen sCap) xs)
    (h : ∀ w' z, Wrote w w' g (cpl ws xs) → wpList P ops Q rest (a.put o.dst (goInt z)) w') : wpList P ops Q (o :: rest) a w := by
  have e := hX.at.1
  subst hl e
  exact copyF_K hgd d s dT sT ho elem hu hsz g dCap sp sCap ws xs hd hs hF hX fun w' hw => h w' _ hw
end Go.Proofs.Ytcmggfpcbijcjaa
end
section
/-
  Contract: view.Dense of no numbers.
-/
set_option linter.unusedSimpArgs false
set_option linter.unusedVariables false
open Go Go.RowKit Sedge
namespace Go.Proofs.Ytcmggfpcbijcjaa
set_option maxRecDepth 100000 in
set_option maxHeartbeats 1000000 in
/-- view.Dense, without numbers. -/
theorem dense0k_any (r c : Nat) (w : World) (hr : r ≤ 64) (hc : c ≤ 64) (hr1 : 1 ≤ r) :
   Calls Try.prog 69 #[.int .i64 r, .int .i64 c, .slice none 0 0] w (fun e w' => ∃ k, e = .returned (.agg #[.slice (some ⟨k, 0, none⟩) (r * c) (r * c), .int .i64 0, .int .i64 r, .int .i64 c, .int .i64 r]) ∧ w.heap.size ≤ k ∧ FW w' k (List.replicate (r * c) 0) ∧ ∃ o n, w' = ext w o n) := by
  have hm : r * c ≤ 64 * 64 := Nat.mul_le_mul hr hc
  have h2 : IntKind.i64.wrap ((r : Int) * c) = (r : Int) * c := IntWalk.i64_in _ (by rw [← Int.natCast_mul]; omega)
  have d1 : decide ((r : Int) < 0) = false := by simp
  have d2 : decide ((c : Int) < 0) = false := by simp
  have d3 : decide ((64 : Int) < (r : Int)) = false := by simp; omega
  have d4 : decide ((64 : Int) < (c : Int)) = false := by simp; omega
  have d6 : decide ((1 : Int) ≤ (r : Int)) = true := by simp; omega
  have d7 : (0 : Int) ≤ (r : Int) * c := by rw [← Int.natCast_mul]; omega
  go_enter Try.func69, Try.ntmps69
  refine seq_stop ?_
  go_wp2
  refine stop_go (fun W hW => ?_)
  have s1 : w.heap.size < W.heap.size := by rw [hW]; simp only [World.size_alloc]; omega
  have b1 : ∀ i, W.cell? ⟨w.heap.size, i, none⟩ = (#[.slice none 0 0, .int .i64 0, .int .i64 0, .int .i64 0, .int .i64 0] : Array Value)[i]? := by intro i; rw [hW]; go_simp
  have f1 : ∀ i, W.frozen? ⟨w.heap.size, i, none⟩ = false := by intro i; rw [hW]; go_simp
  have g0 : Grew w W := by rw [hW]; exact (Grew.refl _).alloc _
  clear hW
  go_wp2_with (at_make; refine make_f (L := (r : Int) * (c : Int)) finfo (Grew.refl W) _ _ rfl rfl (r * c) (Int.natCast_mul r c).symm rfl rfl (by omega) ?_; intro oo nn k hk ho; have hF := ho.made)
  refine name_any (fun V hV => ?_)
  have gV : Grew W V := by rw [← hV]; (show Grew _ _; repeat (first | (with_reducible exact Grew.refl _) | (with_reducible assumption) | (with_reducible exact Grew.same_o) | (with_reducible exact Grew.app_o) | (with_reducible refine Grew.ext ?_ _ _) | (with_reducible refine Grew.alloc ?_ _) | ((with_reducible refine Grew.setCell ?_ ?_ _); rotate_left; (focus (dsimp only; first | omega | (simp only [size_ext, World.size_alloc, Array.size_append]; omega)))) | (with_reducible refine Grew.drewN ?_ _) | (with_reducible refine Grew.drew ?_)))
  have sV := gV.below.size
  have k1 : w.heap.size < V.heap.size := by omega
  have k3 : W.heap.size + oo.size < V.heap.size := by rw [← hV]; simp only [World.size_alloc, size_ext]; omega
  have c3 : ∀ i, V.cell? ⟨W.heap.size + oo.size, i, none⟩ = (#[.slice (some ⟨k, 0, none⟩) (r * c) (r * c), .int .i64 0, .int .i64 r, .int .i64 c, .int .i64 r] : Array Value)[i]? := by subst hV; intro i; go_simp
  have c1 : ∀ i, V.cell? ⟨w.heap.size, i, none⟩ = (#[.slice none 0 0, .int .i64 0, .int .i64 0, .int .i64 0, .int .i64 0] : Array Value)[i]? := fun i => (gV.cell s1).trans (b1 i)
  have z1 : ∀ i, V.frozen? ⟨w.heap.size, i, none⟩ = false := fun i => (gV.frozen s1).trans (f1 i)
  have hFV : FW V k (List.replicate (r * c) 0) := by rw [← hV]; (repeat (first | (with_reducible assumption) | ((with_reducible refine FW.ext_set ?_ ?_ ?_ _); rotate_left; (focus (simp only [size_setCell', World.size_alloc, size_ext, size_upd]; omega)); (focus (dsimp only; omega))) | ((with_reducible refine FW.setCell_ne ?_ ?_ _); rotate_left; (focus (dsimp only; omega))) | (with_reducible refine FW.ext ?_ _ _) | (with_reducible refine FW.alloc ?_ _)))
  clear hV b1 f1 ho
  go_loopw [43] (fun s wr => s = .int .i64 0 ∧ wr = V) (fun s _ => 0)
  case atStart => exact ⟨rfl, rfl⟩
  case round =>
    obtain ⟨rfl, rfl⟩ := hrel
    go_wp2
    refine bodyPost_ret (v := .agg #[.slice (some ⟨k, 0, none⟩) (r * c) (r * c), .int .i64 0, .int .i64 r, .int .i64 c, .int .i64 r]) (by simp [results, Try.results69, go_sem, *]) rfl ?_
    have g1 := Grew.trans g0 gV
    exact ⟨k, rfl, by omega, by (repeat (first | (with_reducible assumption) | ((with_reducible refine FW.ext_set ?_ ?_ ?_ _); rotate_left; (focus (simp only [size_setCell', World.size_alloc, size_ext, size_upd]; omega)); (focus (dsimp only; omega))) | ((with_reducible refine FW.setCell_ne ?_ ?_ _); rotate_left; (focus (dsimp only; omega))) | (with_reducible refine FW.ext ?_ _ _) | (with_reducible refine FW.alloc ?_ _))), by (show Grew _ _; repeat (first | (with_reducible exact Grew.refl _) | (with_reducible assumption) | (with_reducible exact Grew.same_o) | (with_reducible exact Grew.app_o) | (with_reducible refine Grew.ext ?_ _ _) | (with_reducible refine Grew.alloc ?_ _) | ((with_reducible refine Grew.setCell ?_ ?_ _); rotate_left; (focus (dsimp only; first | omega | (simp only [size_ext, World.size_alloc, Array.size_append]; omega)))) | (with_reducible refine Grew.drewN ?_ _) | (with_reducible refine Grew.drew ?_)))⟩
end Go.Proofs.Ytcmggfpcbijcjaa
end
section
/-
  Plain: matrices that are laid out whole.
-/
set_option linter.unusedSimpArgs false
set_option linter.unusedVariables false
open Go Go.RowKit Sedge
namespace Go.Proofs.Ytcmggfpcbijcjaa
theorem place_inj {r i j a b : Nat} (hi : i < r) (ha : a < r) (h : i + j * r = a + b * r) : i = a ∧ j = b := by
  have h1 : (i + j * r) % r = i := by rw [Nat.add_mul_mod_self_right, Nat.mod_eq_of_lt hi]
  have h2 : (a + b * r) % r = a := by rw [Nat.add_mul_mod_self_right, Nat.mod_eq_of_lt ha]
  have e : i = a := by rw [← h1, h, h2]
  subst e
  have h3 : j * r = b * r := by omega
  exact ⟨rfl, Nat.eq_of_mul_eq_mul_right (by omega) h3⟩
theorem getD_set_self {l : List Nat} {k v : Nat} (h : k < l.length) : (l.set k v).getD k 0 = v := by
  rw [List.getD_eq_getElem?_getD, List.getElem?_set_self h]; rfl
theorem getD_set_ne {l : List Nat} {k m v : Nat} (h : k ≠ m) : (l.set k v).getD m 0 = l.getD m 0 := by
  rw [List.getD_eq_getElem?_getD, List.getElem?_set_ne h, ← List.getD_eq_getElem?_getD]
theorem place_lt2 {r c i j : Nat} (hi : i < r) (hj : j < c) : i + j * r < r * c := by
  have := Nat.mul_le_mul_right r (show j + 1 ≤ c by omega)
  rw [Nat.add_mul, Nat.mul_comm c r] at this; omega
theorem matd_good {L : List Nat} {r c : Nat} (h : L.length = r * c) (hr : 1 ≤ r) (hc : 1 ≤ c) : MatM.good ⟨L, 0, r, c, r⟩ = true := by
  simp only [MatM.good, fitsB, h, Bool.and_eq_true, Bool.or_eq_true, decide_eq_true_eq]
  have : ((c : Int) - 1) * r + ((r : Int) - 1) < (r * c : Nat) := by rw [Int.sub_mul, Int.one_mul, Int.natCast_mul, Int.mul_comm]; omega
  refine ⟨by omega, .inr ⟨by omega, by omega⟩⟩
theorem matd_place {L : List Nat} {r c i j : Nat} : MatM.place ⟨L, 0, r, c, r⟩ i j = i + j * r := by
  unfold MatM.place
  simp only
  rw [Int.zero_add, ← Int.natCast_mul, ← Int.natCast_add, Int.toNat_natCast]
end Go.Proofs.Ytcmggfpcbijcjaa
end
section
/-
  Contracts: ger.each of ger.Shift's closure; ger.held; ger.Shift.
-/
set_option linter.unusedSimpArgs false
set_option linter.unusedVariables false
open Go Go.RowKit Sedge
namespace Go.Proofs.Ytcmggfpcbijcjaa
/-- What a closure of ger.each does at a place. -/
def DoesAt2 (w : World) (m : MatM) (g : Nat) (q1 q2 : Value) (F : Nat → Nat → Nat → Nat) : Prop :=
  ∀ w' L s, But w [g] w' → FW w' g L → Hold m.place m.rows.toNat m.cols.toNat m.ws L s → ∀ i j : Nat, (i : Int) < m.rows → (j : Int) < m.cols →
    Calls Try.prog 203 #[.int .i64 i, .int .i64 j, .pointer (some ⟨g, (m.off + j * m.ld + i).toNat, none⟩), q1, q2] w' (fun e w2 => e = .returned (.tuple #[]) ∧ Wrote w' w2 g (L.set (m.place i j) (F i j (s i j))))
set_option maxRecDepth 100000 in
set_option maxHeartbeats 2000000 in
/-- ger.each. -/
theorem each2_any (m : MatM) (g ca : Nat) (q1 q2 : Value) (F : Nat → Nat → Nat → Nat) (w : World) (hF : FW w g m.ws) (hm : m.good = true) (hwm : m.wf) (hlm : m.ws.length ≤ 1000000) (hr : m.rows ≤ 1000) (hc : m.cols ≤ 1000)
    (hdo : DoesAt2 w m g q1 q2 F) :
   Calls Try.prog 138 #[.agg #[.slice (some ⟨g, 0, none⟩) m.ws.length ca, .int .i64 m.off, .int .i64 m.rows, .int .i64 m.cols, .int .i64 m.ld], .func (.func 203) #[] #[q1, q2]] w
     (fun e w' => e = .returned (.tuple #[]) ∧ But w [g] w' ∧ ∃ L, FW w' g L ∧ Hold m.place m.rows.toNat m.cols.toNat m.ws L (fun i j => F i j (m.num i j))) := by
  have hn := MatM.good_n hm
  have hltg := hF.lt
  have hpl := MatM.places hm
  have Hm := hid hm
  have hcl : ∀ w', FS w' (.slice (some ⟨g, 0, none⟩) m.ws.length ca) m.ws → True := fun _ _ => trivial
  have hcolA : ∀ (j : Nat) (L : List Nat) w', L.length = m.ws.length → FW w' g L → (j : Int) < m.cols → 0 < m.rows → Calls Try.prog 149 #[.agg #[.slice (some ⟨g, 0, none⟩) m.ws.length ca, .int .i64 m.off, .int .i64 m.rows, .int .i64 m.cols, .int .i64 m.ld], .int .i64 j] w'
      (fun e w2 => e = .returned (.agg #[.slice (some ⟨g, 0, none⟩) m.ws.length ca, .int .i64 (m.off + j * m.ld), .int .i64 m.rows, .int .i64 1]) ∧ ∃ o n, w2 = ext w' o n) := fun j L w' hl h hj h0 => by
    have h1 := h.fs (by omega) ca
    rw [hl] at h1
    have := col_any (withL m L) (.slice (some ⟨g, 0, none⟩) m.ws.length ca) j w' h1 (by rw [withL_good hl]; exact hm) hwm hj
    have e : (colV (withL m L) j).off = m.off + j * m.ld := by unfold colV withL; simp [h0]
    rw [e] at this
    exact this
  by_cases h0 : m.rows = 0
  · have d0 : (m.rows == 0) = true := by simpa using h0
    have hh : Hold m.place m.rows.toNat m.cols.toNat m.ws m.ws (fun i j => F i j (m.num i j)) := ⟨rfl, fun i j hi hj => by omega, fun _ _ => rfl⟩
    clear hdo hm hwm
    go_enter Try.func138, Try.ntmps138
    refine seq_stop ?_
    go_wp2
    refine stop_go (fun W hW => ?_)
    have s1 : w.heap.size < W.heap.size := by rw [hW]; simp only [World.size_alloc]; omega
    have b1 : ∀ i, W.cell? ⟨w.heap.size, i, none⟩ = (#[.slice (some ⟨g, 0, none⟩) m.ws.length ca, .int .i64 m.off, .int .i64 m.rows, .int .i64 m.cols, .int .i64 m.ld] : Array Value)[i]? := by intro i; rw [hW]; go_simp
    have g0 : Grew w W := by rw [hW]; exact (Grew.refl _).alloc _
    clear hW
    go_wp2
    refine bodyPost_ret (v := .tuple #[]) (by simp [results, Try.results138, go_sem, *]) rfl ?_
    exact ⟨rfl, (But.refl w [g]).grew (by (show Grew _ _; repeat (first | (with_reducible exact Grew.refl _) | (with_reducible assumption) | (with_reducible exact Grew.same_o) | (with_reducible exact Grew.app_o) | (with_reducible refine Grew.ext ?_ _ _) | (with_reducible refine Grew.alloc ?_ _) | ((with_reducible refine Grew.setCell ?_ ?_ _); rotate_left; (focus (dsimp only; first | omega | (simp only [size_ext, World.size_alloc, Array.size_append]; omega)))) | (with_reducible refine Grew.drewN ?_ _) | (with_reducible refine Grew.drew ?_)))), m.ws, hF.grew (by (show Grew _ _; repeat (first | (with_reducible exact Grew.refl _) | (with_reducible assumption) | (with_reducible exact Grew.same_o) | (with_reducible exact Grew.app_o) | (with_reducible refine Grew.ext ?_ _ _) | (with_reducible refine Grew.alloc ?_ _) | ((with_reducible refine Grew.setCell ?_ ?_ _); rotate_left; (focus (dsimp only; first | omega | (simp only [size_ext, World.size_alloc, Array.size_append]; omega)))) | (with_reducible refine Grew.drewN ?_ _) | (with_reducible refine Grew.drew ?_)))), hh⟩
  · have d0 : (m.rows == 0) = false := by simpa using h0
    have h1 : 0 < m.rows := by omega
    clear hm hwm
    go_enter Try.func138, Try.ntmps138
    refine seq_stop ?_
    go_wp2
    refine stop_go (fun W hW => ?_)
    have s1 : w.heap.size < W.heap.size := by rw [hW]; simp only [World.size_alloc]; omega
    have b1 : ∀ i, W.cell? ⟨w.heap.size, i, none⟩ = (#[.slice (some ⟨g, 0, none⟩) m.ws.length ca, .int .i64 m.off, .int .i64 m.rows, .int .i64 m.cols, .int .i64 m.ld] : Array Value)[i]? := by intro i; rw [hW]; go_simp
    have g0 : Grew w W := by rw [hW]; exact (Grew.refl _).alloc _
    clear hW
    have zW := g0.below.size
    have bw : ∀ w', But W [g] w' → But w [g] w' := fun w' h => ((But.refl w [g]).grew g0).trans h (fun _ hb => .inl hb)
    have hFW : FW W g m.ws := hF.grew g0
    have cU : ∀ w', But W [g] w' → ∀ i, w'.cell? ⟨w.heap.size, i, none⟩ = (#[.slice (some ⟨g, 0, none⟩) m.ws.length ca, .int .i64 m.off, .int .i64 m.rows, .int .i64 m.cols, .int .i64 m.ld] : Array Value)[i]? := fun w' h i => (h.cell s1 (by simp; omega)).trans (b1 i)
    go_wp2
    go_loopw [12] (fun c wr => ∃ (j : Nat) (L : List Nat), (j : Int) ≤ m.cols ∧ c = .int .i64 j ∧ But W [g] wr ∧ FW wr g L ∧ Hold m.place m.rows.toNat m.cols.toNat m.ws L (stepF F m.num j 0)) (fun c _ => (m.cols - intOf c).toNat)
    case atStart => exact ⟨0, m.ws, hn.2.1, rfl, But.refl _ _, hFW, MatM.hold.congr fun i j _ _ => by simp [stepF]⟩
    case round =>
      obtain ⟨j, L, hj, rfl, hB, hL, hH⟩ := hrel
      have tT := cU _ hB
      have zB := hB.size
      have kT : w.heap.size < wr.heap.size := by omega
      by_cases hlt : (j : Int) < m.cols
      · have hlt' := hid hlt
        have hcj := fun w' (h : FW w' g L) => hcolA j L w' hH.len h hlt h1
        go_wp2_with (first | (go_at_call 149; ((with_reducible refine (hcj _ hL).mono ?_); rintro e w1 ⟨rfl, oc, nc, rfl⟩)))
        refine name_any (fun V hV => ?_)
        have gV : Grew wr V := by rw [← hV]; (show Grew _ _; repeat (first | (with_reducible exact Grew.refl _) | (with_reducible assumption) | (with_reducible exact Grew.same_o) | (with_reducible exact Grew.app_o) | (with_reducible refine Grew.ext ?_ _ _) | (with_reducible refine Grew.alloc ?_ _) | ((with_reducible refine Grew.setCell ?_ ?_ _); rotate_left; (focus (dsimp only; first | omega | (simp only [size_ext, World.size_alloc, Array.size_append]; omega)))) | (with_reducible refine Grew.drewN ?_ _) | (with_reducible refine Grew.drew ?_)))
        have BV : But W [g] V := hB.grew gV
        have cT : ∀ i, V.cell? ⟨wr.heap.size + oc.size, i, none⟩ = (#[.slice (some ⟨g, 0, none⟩) m.ws.length ca, .int .i64 (m.off + j * m.ld), .int .i64 m.rows, .int .i64 1] : Array Value)[i]? := by subst hV; intro i; go_simp
        have kV : wr.heap.size + oc.size < V.heap.size := by rw [← hV]; simp only [World.size_alloc, size_ext]; omega
        obtain ⟨T, hT⟩ : ∃ T, wr.heap.size + oc.size = T := ⟨_, rfl⟩
        have zT : wr.heap.size ≤ T := by omega
        rw [hT] at cT kV
        simp only [hT]
        have ltg2 := hL.lt
        have cV : ∀ w', But V [g] w' → ∀ i, w'.cell? ⟨T, i, none⟩ = (#[.slice (some ⟨g, 0, none⟩) m.ws.length ca, .int .i64 (m.off + j * m.ld), .int .i64 m.rows, .int .i64 1] : Array Value)[i]? := fun w' h i => (h.cell kV (by simp; omega)).trans (cT i)
        have bV : ∀ w', But V [g] w' → But W [g] w' := fun w' h => BV.trans h (fun _ hb => .inl hb)
        have hLV : FW V g L := hL.grew gV
        clear hV hT cT
        go_wp2
        go_loopw [20] (fun c wr => ∃ (i : Nat) (L : List Nat), (i : Int) ≤ m.rows ∧ c = .int .i64 i ∧ But V [g] wr ∧ FW wr g L ∧ Hold m.place m.rows.toNat m.cols.toNat m.ws L (stepF F m.num j i)) (fun c _ => (m.rows - intOf c).toNat)
        case atStart => exact ⟨0, L, by omega, rfl, But.refl _ _, hLV, hH⟩
        case round =>
          obtain ⟨i, L2, hi, rfl, hB2, hL2, hH2⟩ := hrel
          have tV := cV _ hB2
          have zB2 := hB2.size
          have kT2 : T < wr.heap.size := by omega
          by_cases hli : (i : Int) < m.rows
          · have hp := MatM.good_place Hm.out hli hlt'.out
            have r1 : IntKind.i64.wrap (m.off + j * m.ld + i) = m.off + j * m.ld + i := IntWalk.i64_in _ (by omega)
            have e1 : 0 ≤ m.off + j * m.ld + i := by omega
            have e2 : m.off + j * m.ld + i < m.ws.length := by omega
            have hcall := hdo wr L2 _ (bw _ (bV _ hB2)) hL2 hH2 i j hli hlt'.out
            go_wp2_with (first | (go_at_call 203; ((with_reducible refine (hcall).mono ?_); rintro e w1 ⟨rfl, hw1⟩)))
            go_roundw
            case rel =>
              refine ⟨i + 1, _, by omega, by go_num, hB2.wrote hw1 (.inl (by simp)), hw1.fw hL2, (hH2.set hpl (by omega) (by have := hlt'.out; omega)).congr fun r c hr hc => ?_⟩
              unfold stepF
              by_cases hrc : r = i ∧ c = j
              · obtain ⟨rfl, rfl⟩ := hrc
                simp
              · rw [if_neg hrc]
                by_cases h2 : c < j ∨ (c = j ∧ r < i)
                · rw [if_pos h2, if_pos (by omega)]
                · rw [if_neg h2, if_neg (by omega)]
            case measure => simp [intOf]; omega
          · have e : i = m.rows.toNat := by omega
            go_wp2
            go_roundw
            case rel =>
              refine ⟨j + 1, L2, by have := hlt'.out; omega, by go_num, bV _ hB2, hL2, hH2.congr fun r c hr hc => ?_⟩
              unfold stepF
              by_cases h2 : c < j ∨ (c = j ∧ r < i)
              · rw [if_pos h2, if_pos (by omega)]
              · rw [if_neg h2, if_neg (by omega)]
            case measure => (have := hlt'.out; simp [intOf]; omega)
      · go_wp2
        go_end0
        refine ⟨rfl, bw _ hB, L, hL, hH.congr fun r c hr hc => ?_⟩
        unfold stepF
        rw [if_pos (by omega)]
theorem Box.but' {w w' : World} {G : List Nat} {p : Nat} {cs : Array Value} (h : Box w p cs) (hb : But w G w') (hn : p ∉ G) : Box w' p cs := by
  have hl := h.lt
  obtain ⟨e, he⟩ := h
  exact ⟨e, (hb.block p hl hn).trans he⟩
/-- An exponent that counts. -/
def heldZ (k : Int) : Int := max (min k 1073741824) (-1073741824)
theorem heldZ_in (k : Int) : -1073741824 ≤ heldZ k ∧ heldZ k ≤ 1073741824 := by unfold heldZ; omega
set_option maxRecDepth 100000 in
/-- ger.held. -/
theorem held_any (k : Int) (w : World) : Calls Try.prog 204 #[.int .i64 k] w (fun e w' => e = .returned (.int .i64 (heldZ k)) ∧ ∃ o n, w' = ext w o n) := by
  obtain ⟨H, hH⟩ : ∃ H, H = heldZ k := ⟨_, rfl⟩
  rw [← hH]
  unfold heldZ at hH
  have HH := hid hH
  clear hH
  go_enter Try.func204, Try.ntmps204
  go_wp2
  all_goals go_ret
  all_goals refine ⟨ret_int ?_, by (show Grew _ _; repeat (first | (with_reducible exact Grew.refl _) | (with_reducible assumption) | (with_reducible exact Grew.same_o) | (with_reducible exact Grew.app_o) | (with_reducible refine Grew.ext ?_ _ _) | (with_reducible refine Grew.alloc ?_ _) | ((with_reducible refine Grew.setCell ?_ ?_ _); rotate_left; (focus (dsimp only; first | omega | (simp only [size_ext, World.size_alloc, Array.size_append]; omega)))) | (with_reducible refine Grew.drewN ?_ _) | (with_reducible refine Grew.drew ?_)))⟩
  all_goals rw [HH.out]
  all_goals first | omega | (split at * <;> omega)
/-- The shifted number. -/
def shF (rs cs : List Int) (i j x : Nat) : Nat := fscale x (heldZ (heldZ (rs.getD i 0) + heldZ (cs.getD j 0)))
set_option maxRecDepth 100000 in
set_option maxHeartbeats 2000000 in
/-- ger.Shift's closure. -/
theorem shcl_any (i j b x g o p4 p5 : Nat) (VR VC : Value) (rs cs : List Int) (L : List Nat) (w : World) (hF : FW w g L) (ho : o < L.length) (hx : x = L.getD o 0) (hR : IS .i64 w VR rs) (hC : IS .i64 w VC cs) (h4 : ∀ k, w.cell? ⟨p4, k, none⟩ = (#[VR] : Array Value)[k]?) (h5 : ∀ k, w.cell? ⟨p5, k, none⟩ = (#[VC] : Array Value)[k]?) (k4 : p4 < w.heap.size) (k5 : p5 < w.heap.size) (hi : i < rs.length) (hj : j < cs.length) :
    Calls Try.prog 203 #[.int .i64 i, .int .i64 j, .pointer (some ⟨g, o, none⟩), .pointer (some ⟨p4, 0, none⟩), .pointer (some ⟨p5, 0, none⟩)] w (fun e w' => e = .returned (.tuple #[]) ∧ Wrote w w' g (L.set o (shF rs cs i j x))) := by
  obtain ⟨aR, cR, rfl⟩ := hR.shape
  obtain ⟨aC, cC, rfl⟩ := hC.shape
  obtain ⟨bR, oR, e1, kR, hcR⟩ := hR.at.2 (by omega)
  obtain ⟨bC, oC, e2, kC, hcC⟩ := hC.at.2 (by omega)
  subst e1 e2
  have hr := hcR i hi
  have hc := hcC j hj
  unfold shF
  obtain ⟨r, hrr⟩ : ∃ r, r = rs.getD i 0 := ⟨_, rfl⟩
  obtain ⟨c, hcc⟩ : ∃ c, c = cs.getD j 0 := ⟨_, rfl⟩
  rw [← hrr] at hr ⊢
  rw [← hcc] at hc ⊢
  obtain ⟨q, hq1, hq2⟩ := hF.get ho
  rw [← hx] at hq2
  have hlt := hF.lt
  have fz := hF.notFrozen
  have i1 := heldZ_in r
  have i2 := heldZ_in c
  have H1 := fun w' => held_any r w'
  have H2 := fun w' => held_any c w'
  obtain ⟨A, hA⟩ : ∃ A, A = heldZ r := ⟨_, rfl⟩
  obtain ⟨B, hB⟩ : ∃ B, B = heldZ c := ⟨_, rfl⟩
  simp only [← hA] at H1 i1 ⊢
  simp only [← hB] at H2 i2 ⊢
  have rw1 : IntKind.i64.wrap (A + B) = A + B := IntWalk.i64_in _ (by omega)
  have H3 := fun w' => held_any (A + B) w'
  obtain ⟨E, hE⟩ : ∃ E, E = heldZ (A + B) := ⟨_, rfl⟩
  simp only [← hE] at H3 ⊢
  have HS := fun w' => nscale_any q x E w' hq2
  have HF := hid hF
  clear hF hcR hcC hx hR hC hrr hcc hA hB hE
  go_enter Try.func203, Try.ntmps203
  go_upto_region 0 with fail
  refine wp_region_R (Grew w) [18] [(3,0), (3,1), (3,2), (0,3), (0,4), (3,5), (3,6), (0,7), (0,9), (3,10), (3,11), (0,12), (1,8), (1,13), (3,14), (1,15), (1,16), (3,17), (2,18)] (by kernel_rfl) (by kernel_rfl) (fun _ _ _ _ h _ => h) (by first | exact ⟨_, _, ext_drew⟩ | exact ⟨_, _, drew_ext0⟩ | (show Grew _ _; repeat (first | (with_reducible exact Grew.refl _) | (with_reducible assumption) | (with_reducible exact Grew.same_o) | (with_reducible exact Grew.app_o) | (with_reducible refine Grew.ext ?_ _ _) | (with_reducible refine Grew.alloc ?_ _) | ((with_reducible refine Grew.setCell ?_ ?_ _); rotate_left; (focus (dsimp only; first | omega | (simp only [size_ext, World.size_alloc, Array.size_append]; omega)))) | (with_reducible refine Grew.drewN ?_ _) | (with_reducible refine Grew.drew ?_)))) ?_
  go_wp2_with (first | ((with_reducible refine wpR_id ?_); first | (refine wpR_take (v := ?_) rfl rfl ?_ ?_; rotate_left; (focus (rintro w' ⟨o', n', rfl⟩; go_simp; try with_reducible rfl)); simp only [Act.put, List.setIfInBounds_toArray, List.set_cons_zero, List.set_cons_succ]) | (refine wpR_pure (v := ?_) rfl rfl ?_ ?_; rotate_left; (focus (intro w'; go_simp; try with_reducible rfl)); simp only [Act.put, List.setIfInBounds_toArray, List.set_cons_zero, List.set_cons_succ]) | (refine wpR_takeG (v := ?_) rfl rfl rfl rfl rfl ?_ ?_; rotate_left; (focus (rintro w' ⟨o', n', rfl⟩; go_simp; try with_reducible rfl)); simp only [Act.put, List.setIfInBounds_toArray, List.set_cons_zero, List.set_cons_succ]) | (refine wpR_skip rfl rfl rfl rfl rfl rfl ?_; simp only [Act.put, List.setIfInBounds_toArray, List.set_cons_zero, List.set_cons_succ]) | (refine wpR_skipU rfl rfl rfl rfl rfl ?_; simp only [Act.put, List.setIfInBounds_toArray, List.set_cons_zero, List.set_cons_succ]) | (refine wpR_do rfl rfl (fun K hK => ?_)) | (refine wpR_doG rfl rfl rfl rfl rfl (fun K hK => ?_)) | (refine wpR_last rfl rfl (fun K hK => ?_)) | (refine wpR_nil ?_)) | ((with_reducible refine wpR_go ?_ ?_); (focus (show Grew _ _; repeat (first | (with_reducible exact Grew.refl _) | (with_reducible assumption) | (with_reducible exact Grew.same_o) | (with_reducible exact Grew.app_o) | (with_reducible refine Grew.ext ?_ _ _) | (with_reducible refine Grew.alloc ?_ _) | ((with_reducible refine Grew.setCell ?_ ?_ _); rotate_left; (focus (dsimp only; first | omega | (simp only [size_ext, World.size_alloc, Array.size_append]; omega)))) | (with_reducible refine Grew.drewN ?_ _) | (with_reducible refine Grew.drew ?_))))) | ((with_reducible refine upon_id ?_); refine upon_fop rfl (by assumption) (by assumption) ?_; intro rr nn hr) | (go_at_call 204; ((with_reducible refine (H1 _).mono ?_); rintro e w1 ⟨rfl, o1, n1, rfl⟩)) | (go_at_call 204; ((with_reducible refine (H2 _).mono ?_); rintro e w1 ⟨rfl, o1, n1, rfl⟩)) | (go_at_call 204; ((with_reducible refine (H3 _).mono ?_); rintro e w1 ⟨rfl, o1, n1, rfl⟩)) | (go_at_call 162; ((with_reducible refine (HS _).mono ?_); rintro e w1 ⟨r1, rfl, hr1, o1, n1, rfl⟩)))
  go_end0
  exact ⟨rfl, (HF.out.wrote hr1).grew_r (by (show Grew _ _; (try simp only [← Array.append_assoc]); repeat (first | (with_reducible exact Grew.same_o) | (with_reducible exact Grew.refl _) | (with_reducible assumption) | (with_reducible refine Grew.alloc ?_ _) | (with_reducible refine Grew.app_r ?_) | ((with_reducible refine Grew.setCell ?_ ?_ _); rotate_left; (focus (dsimp only; first | omega | (simp only [size_ext, World.size_alloc, Array.size_append]; omega)))) | (with_reducible refine Grew.ext ?_ _ _) | (with_reducible refine Grew.drewN ?_ _) | (with_reducible refine Grew.drew ?_))))⟩
set_option maxRecDepth 100000 in
set_option maxHeartbeats 2000000 in
/-- ger.Shift, where all is well. -/
theorem gshift_ok (m : MatM) (g ca : Nat) (VR VC : Value) (rs cs : List Int) (w : World) (hF : FW w g m.ws) (hm : m.good = true) (hwm : m.wf) (hlm : m.ws.length ≤ 1000000) (hr : m.rows ≤ 1000) (hc : m.cols ≤ 1000)
    (hR : ∀ w', But w [g] w' → IS .i64 w' VR rs) (hC : ∀ w', But w [g] w' → IS .i64 w' VC cs) (lr : (rs.length : Int) = m.rows) (lc : (cs.length : Int) = m.cols) :
    Calls Try.prog 184 #[.agg #[(.slice (some ⟨g, 0, none⟩) m.ws.length ca), .int .i64 m.off, .int .i64 m.rows, .int .i64 m.cols, .int .i64 m.ld], VR, VC] w (fun e w' => e = .returned (.int .i64 0) ∧ But w [g] w' ∧ ∃ L, FW w' g L ∧ Hold m.place m.rows.toNat m.cols.toNat m.ws L (fun i j => shF rs cs i j (m.num i j))) := by
  have hgd : ∀ w', FW w' g m.ws → Calls Try.prog 130 #[.agg #[(.slice (some ⟨g, 0, none⟩) m.ws.length ca), .int .i64 m.off, .int .i64 m.rows, .int .i64 m.cols, .int .i64 m.ld]] w' (fun e w2 => e = .returned (.bool true) ∧ ∃ o n, w2 = ext w' o n) := fun w' h => by
    have := good_any m (.slice (some ⟨g, 0, none⟩) m.ws.length ca) w' (h.fs (by omega) ca) hwm; rw [hm] at this; exact this
  have hpl : ∀ i j : Nat, (i : Int) < m.rows → (j : Int) < m.cols → (m.off + j * m.ld + i).toNat = m.place i j ∧ m.place i j < m.ws.length := fun i j hi hj => by
    have h := MatM.good_place hm hi hj
    have e : (m.off + j * m.ld + i).toNat = m.place i j := by unfold MatM.place; congr 1; omega
    exact ⟨e, by unfold MatM.place; omega⟩
  have hea := fun (w' : World) (h : FW w' g m.ws) q1 q2 hd => each2_any m g ca q1 q2 (fun i j x => shF rs cs i j x) w' h hm hwm hlm hr hc hd
  have hlt := hF.lt
  have hn := MatM.good_n hm
  obtain ⟨aR, cR, rfl⟩ := (hR w (But.refl _ _)).shape
  obtain ⟨aC, cC, rfl⟩ := (hC w (But.refl _ _)).shape
  have d1 : ((rs.length : Int) != m.rows) = false := by simpa using lr
  have d2 : ((cs.length : Int) != m.cols) = false := by simpa using lc
  have HLR := hid lr
  have HLC := hid lc
  have HPL := hid hpl
  clear hm hwm lr lc hpl
  go_enter Try.func184, Try.ntmps184
  refine seq_stop ?_
  go_wp2
  refine stop_go (fun W hW => ?_)
  have s1 : w.heap.size < W.heap.size := by rw [hW]; simp only [World.size_alloc]; omega
  have b1 : ∀ i, W.cell? ⟨w.heap.size, i, none⟩ = (#[(.slice (some ⟨g, 0, none⟩) m.ws.length ca), .int .i64 m.off, .int .i64 m.rows, .int .i64 m.cols, .int .i64 m.ld] : Array Value)[i]? := by intro i; rw [hW]; go_simp
  have X1 : Box W (w.heap.size) #[(.slice (some ⟨g, 0, none⟩) m.ws.length ca), .int .i64 m.off, .int .i64 m.rows, .int .i64 m.cols, .int .i64 m.ld] := by rw [hW]; refine Box.grew ?_ (((Grew.refl _).alloc _).alloc _); exact Box.new' (by first | rfl | (simp only [World.size_alloc]; done) | (simp only [World.size_alloc]; omega))
  have f1 : ∀ i, W.frozen? ⟨w.heap.size, i, none⟩ = false := by intro i; rw [hW]; go_simp
  have s2 : w.heap.size + 1 < W.heap.size := by rw [hW]; simp only [World.size_alloc]; omega
  have b2 : ∀ i, W.cell? ⟨w.heap.size + 1, i, none⟩ = (#[.slice aR rs.length cR] : Array Value)[i]? := by intro i; rw [hW]; go_simp
  have X2 : Box W (w.heap.size + 1) #[.slice aR rs.length cR] := by rw [hW]; refine Box.grew ?_ ((Grew.refl _).alloc _); exact Box.new' (by first | rfl | (simp only [World.size_alloc]; done) | (simp only [World.size_alloc]; omega))
  have f2 : ∀ i, W.frozen? ⟨w.heap.size + 1, i, none⟩ = false := by intro i; rw [hW]; go_simp
  have s3 : w.heap.size + 1 + 1 < W.heap.size := by rw [hW]; simp only [World.size_alloc]; omega
  have b3 : ∀ i, W.cell? ⟨w.heap.size + 1 + 1, i, none⟩ = (#[.slice aC cs.length cC] : Array Value)[i]? := by intro i; rw [hW]; go_simp
  have X3 : Box W (w.heap.size + 1 + 1) #[.slice aC cs.length cC] := by rw [hW]; exact Box.new' (by first | rfl | (simp only [World.size_alloc]; done) | (simp only [World.size_alloc]; omega))
  have f3 : ∀ i, W.frozen? ⟨w.heap.size + 1 + 1, i, none⟩ = false := by intro i; rw [hW]; go_simp
  have g0 : Grew w W := by rw [hW]; exact (((Grew.refl _).alloc _).alloc _).alloc _
  clear hW
  obtain ⟨p4, hp4⟩ : ∃ p, p = w.heap.size + 1 := ⟨_, rfl⟩
  obtain ⟨p5, hp5⟩ : ∃ p, p = w.heap.size + 1 + 1 := ⟨_, rfl⟩
  have hFW := hF.grew g0
  go_upto_region 5 with (first | (go_at_call 130; ((with_reducible refine (hgd _ (hFW.grew (by (show Grew _ _; (try simp only [← Array.append_assoc]); repeat (first | (with_reducible exact Grew.same_o) | (with_reducible exact Grew.refl _) | (with_reducible assumption) | (with_reducible refine Grew.alloc ?_ _) | (with_reducible refine Grew.app_r ?_) | ((with_reducible refine Grew.setCell ?_ ?_ _); rotate_left; (focus (dsimp only; first | omega | (simp only [size_ext, World.size_alloc, Array.size_append]; omega)))) | (with_reducible refine Grew.ext ?_ _ _) | (with_reducible refine Grew.drewN ?_ _) | (with_reducible refine Grew.drew ?_)))))).mono ?_); rintro e w1 ⟨rfl, o1, n1, rfl⟩)))
  refine name_any (fun V hV => ?_)
  have gV : Grew W V := by rw [← hV]; (show Grew _ _; (try simp only [← Array.append_assoc]); repeat (first | (with_reducible exact Grew.same_o) | (with_reducible exact Grew.refl _) | (with_reducible assumption) | (with_reducible refine Grew.alloc ?_ _) | (with_reducible refine Grew.app_r ?_) | ((with_reducible refine Grew.setCell ?_ ?_ _); rotate_left; (focus (dsimp only; first | omega | (simp only [size_ext, World.size_alloc, Array.size_append]; omega)))) | (with_reducible refine Grew.ext ?_ _ _) | (with_reducible refine Grew.drewN ?_ _) | (with_reducible refine Grew.drew ?_)))
  have gw := Grew.trans g0 gV
  have Y3 := X1.grew gV
  have Y4 : Box V p4 #[.slice aR rs.length cR] := by rw [hp4]; exact X2.grew gV
  have Y5 : Box V p5 #[.slice aC cs.length cC] := by rw [hp5]; exact X3.grew gV
  have t3 := Y3.cell
  have l3 := Y3.lt
  have l4 := Y4.lt
  have l5 := Y5.lt
  have hFV := hF.grew gw
  have n4 : p4 ≠ g := by omega
  have n5 : p5 ≠ g := by omega
  have bw : ∀ w', But V [g] w' → But w [g] w' := fun w' h => ((But.refl w [g]).grew gw).trans h (fun _ hb => .inl hb)
  have hd : DoesAt2 V m g (.pointer (some ⟨p4, 0, none⟩)) (.pointer (some ⟨p5, 0, none⟩)) (fun i j x => shF rs cs i j x) := fun w' L s hB hL hH i j hi hj => by
    obtain ⟨e1, e2⟩ := HPL.out i j hi hj
    rw [e1]
    refine shcl_any i j (0) (s i j) g (m.place i j) p4 p5 _ _ rs cs L w' hL (by rw [hH.len]; exact e2) (hH.get i j (by omega) (by omega)).symm (hR w' (bw _ hB)) (hC w' (bw _ hB)) (Box.but' Y4 hB (by simpa using n4)).cell (Box.but' Y5 hB (by simpa using n5)).cell (Box.but' Y4 hB (by simpa using n4)).lt (Box.but' Y5 hB (by simpa using n5)).lt (by have := HLR.out; omega) (by have := HLC.out; omega)
  have hcl := hea V hFV _ _ hd
  simp only [← hp5]
  simp only [← hp4]
  clear hV hp4 hp5 X1 X2 X3 b1 b2 b3 Y3 Y4 Y5 hea hd hgd
  have hmf := hmf
  go_wp2_with (first | (go_at_call 138; ((with_reducible refine (hcl).mono ?_); rintro e w1 ⟨rfl, hB1, L, hL, hH⟩)))
  go_ret
  exact ⟨rfl, bw _ hB1, L, hL, hH⟩
end Go.Proofs.Ytcmggfpcbijcjaa
end
section
/-
  Contract: move.Clone.
-/
set_option linter.unusedSimpArgs false
set_option linter.unusedVariables false
open Go Go.RowKit Sedge
namespace Go.Proofs.Ytcmggfpcbijcjaa
section
variable {P : Program} {o : Oper} {a : Act} {w : World} {K : Act → World → Prop} {Q : Exit → Act → World → Prop}
theorem wp_cp {d : Option Tmp} {x s : Operand} {tt : Array TypeId} {ty : TypeId} {ps : String} {aft : Array Edge} (h : Oper.wp P { dst := d, op := .call { callee := .builtin .copy, args := #[x, s], argTypes := tt }, type := ty, pos := ps, after := aft, guard := none } a w K Q) : Oper.wp P { dst := d, op := .call { callee := .builtin .copy, args := #[x, s], argTypes := tt }, type := ty, pos := ps, after := aft, guard := none } a w K Q := h
/-- 'copy(d, s)' of floats, in a region that draws its order. -/
theorem copyF_R (hgd : o.guard = none) (d s : Operand) (dT sT : TypeId)
    (ho : o.op = .call { callee := .builtin .copy, args := #[d, s], argTypes := #[dT, sT] }) (elem : TypeId) (hu : P.underlying dT = some (.slice elem)) (hsz : (P.info? elem).map (·.size) = some 1)
    (g dl dCap : Nat) (sp : Option Addr) (sl sCap : Nat) (ws xs : List Nat) (hd : a.eval d = .slice (some ⟨g, 0, none⟩) dl dCap) (hs : a.eval s = .slice sp sl sCap) (hl : ws.length = dl) (hl2 : xs.length = sl)
    (hF : FW w g ws) (hX : FS w (.slice sp sl sCap) xs)
    (h : ∀ z w', Wrote w w' g (cpl ws xs) → K (a.put o.dst (goInt z)) w') : o.wp P a w K Q := by
  subst hl hl2
  have h1 := copyF_K (P := P) (ops := #[]) (Q := fun e a w => e = .normal ∧ K a w) (rest := []) hgd d s dT sT ho elem hu hsz g dCap sp sCap ws xs hd hs hF hX (fun w' h1 => ⟨rfl, h _ w' h1⟩)
  unfold wpList at h1
  rw [if_pos (wanted_none hgd)] at h1
  rcases h1 with h1 | ⟨_, _, _, h2, _⟩
  · exact wp_any (Oper.wp_mono (fun a w hh => hh.2) h1)
  · cases h2
end
theorem cpl_all {ws xs : List Nat} (h : ws.length = xs.length) : cpl ws xs = xs := by
  apply List.ext_getElem?
  intro i
  by_cases hi : i < ws.length
  · have h2 := cpl_getD ws xs hi
    rw [if_pos (by omega), List.getD_eq_getElem?_getD, List.getD_eq_getElem?_getD] at h2
    rw [List.getElem?_eq_getElem (by rw [cpl_length]; exact hi), List.getElem?_eq_getElem (by omega)] at h2 ⊢
    simpa using h2
  · rw [List.getElem?_eq_none (by rw [cpl_length]; omega), List.getElem?_eq_none (by omega)]
set_option maxRecDepth 100000 in
set_option maxHeartbeats 1000000 in
/-- view.Dense, of no rows. -/
theorem denseZ_any (c : Nat) (w : World) (hc : c ≤ 64) :
   Calls Try.prog 69 #[.int .i64 0, .int .i64 c, .slice none 0 0] w (fun e w' => ∃ k, e = .returned (.agg #[.slice (some ⟨k, 0, none⟩) 0 0, .int .i64 0, .int .i64 0, .int .i64 c, .int .i64 1]) ∧ w.heap.size ≤ k ∧ FW w' k [] ∧ ∃ o n, w' = ext w o n) := by
  have d2 : decide ((c : Int) < 0) = false := by simp
  have d4 : decide ((64 : Int) < (c : Int)) = false := by simp; omega
  go_enter Try.func69, Try.ntmps69
  refine seq_stop ?_
  go_wp2
  refine stop_go (fun W hW => ?_)
  have s1 : w.heap.size < W.heap.size := by rw [hW]; simp only [World.size_alloc]; omega
  have b1 : ∀ i, W.cell? ⟨w.heap.size, i, none⟩ = (#[.slice none 0 0, .int .i64 0, .int .i64 0, .int .i64 0, .int .i64 0] : Array Value)[i]? := by intro i; rw [hW]; go_simp
  have f1 : ∀ i, W.frozen? ⟨w.heap.size, i, none⟩ = false := by intro i; rw [hW]; go_simp
  have g0 : Grew w W := by rw [hW]; exact (Grew.refl _).alloc _
  clear hW
  go_wp2_with (at_make; refine make_f (L := 0) finfo (Grew.refl W) _ _ rfl rfl 0 rfl rfl rfl (by omega) ?_; intro oo nn k hk ho; have hF := ho.made)
  have hF0 : FW (ext W oo nn) k [] := hF
  refine name_any (fun V hV => ?_)
  have gV : Grew W V := by rw [← hV]; (show Grew _ _; repeat (first | (with_reducible exact Grew.refl _) | (with_reducible assumption) | (with_reducible exact Grew.same_o) | (with_reducible exact Grew.app_o) | (with_reducible refine Grew.ext ?_ _ _) | (with_reducible refine Grew.alloc ?_ _) | ((with_reducible refine Grew.setCell ?_ ?_ _); rotate_left; (focus (dsimp only; first | omega | (simp only [size_ext, World.size_alloc, Array.size_append]; omega)))) | (with_reducible refine Grew.drewN ?_ _) | (with_reducible refine Grew.drew ?_)))
  have sV := gV.below.size
  have k1 : w.heap.size < V.heap.size := by omega
  have k3 : W.heap.size + oo.size < V.heap.size := by rw [← hV]; simp only [World.size_alloc, size_ext]; omega
  have c3 : ∀ i, V.cell? ⟨W.heap.size + oo.size, i, none⟩ = (#[.slice (some ⟨k, 0, none⟩) 0 0, .int .i64 0, .int .i64 0, .int .i64 c, .int .i64 1] : Array Value)[i]? := by subst hV; intro i; go_simp
  have c1 : ∀ i, V.cell? ⟨w.heap.size, i, none⟩ = (#[.slice none 0 0, .int .i64 0, .int .i64 0, .int .i64 0, .int .i64 0] : Array Value)[i]? := fun i => (gV.cell s1).trans (b1 i)
  have z1 : ∀ i, V.frozen? ⟨w.heap.size, i, none⟩ = false := fun i => (gV.frozen s1).trans (f1 i)
  have hFV : FW V k [] := by rw [← hV]; (repeat (first | (with_reducible assumption) | ((with_reducible refine FW.ext_set ?_ ?_ ?_ _); rotate_left; (focus (simp only [size_setCell', World.size_alloc, size_ext, size_upd]; omega)); (focus (dsimp only; omega))) | ((with_reducible refine FW.setCell_ne ?_ ?_ _); rotate_left; (focus (dsimp only; omega))) | (with_reducible refine FW.ext ?_ _ _) | (with_reducible refine FW.alloc ?_ _)))
  clear hV b1 f1 ho
  go_loopw [43] (fun s wr => s = .int .i64 0 ∧ wr = V) (fun s _ => 0)
  case atStart => exact ⟨rfl, rfl⟩
  case round =>
    obtain ⟨rfl, rfl⟩ := hrel
    go_wp2
    refine bodyPost_ret (v := .agg #[.slice (some ⟨k, 0, none⟩) 0 0, .int .i64 0, .int .i64 0, .int .i64 c, .int .i64 1]) (by simp [results, Try.results69, go_sem, *]) rfl ?_
    have g1 := Grew.trans g0 gV
    exact ⟨k, rfl, by omega, by (repeat (first | (with_reducible assumption) | ((with_reducible refine FW.ext_set ?_ ?_ ?_ _); rotate_left; (focus (simp only [size_setCell', World.size_alloc, size_ext, size_upd]; omega)); (focus (dsimp only; omega))) | ((with_reducible refine FW.setCell_ne ?_ ?_ _); rotate_left; (focus (dsimp only; omega))) | (with_reducible refine FW.ext ?_ _ _) | (with_reducible refine FW.alloc ?_ _))), by (show Grew _ _; repeat (first | (with_reducible exact Grew.refl _) | (with_reducible assumption) | (with_reducible exact Grew.same_o) | (with_reducible exact Grew.app_o) | (with_reducible refine Grew.ext ?_ _ _) | (with_reducible refine Grew.alloc ?_ _) | ((with_reducible refine Grew.setCell ?_ ?_ _); rotate_left; (focus (dsimp only; first | omega | (simp only [size_ext, World.size_alloc, Array.size_append]; omega)))) | (with_reducible refine Grew.drewN ?_ _) | (with_reducible refine Grew.drew ?_)))⟩
/-- view.Dense, without numbers. -/
theorem denseA_any (r c : Nat) (w : World) (hr : r ≤ 64) (hc : c ≤ 64) :
   Calls Try.prog 69 #[.int .i64 r, .int .i64 c, .slice none 0 0] w (fun e w' => ∃ k, e = .returned (.agg #[.slice (some ⟨k, 0, none⟩) (r * c) (r * c), .int .i64 0, .int .i64 r, .int .i64 c, .int .i64 (max r 1 : Nat)]) ∧ w.heap.size ≤ k ∧ FW w' k (List.replicate (r * c) 0) ∧ ∃ o n, w' = ext w o n) := by
  rcases Nat.eq_zero_or_pos r with h | h
  · subst h
    have := denseZ_any c w hc
    simpa using this
  · have := dense0k_any r c w hr hc h
    rw [show max r 1 = r by omega]
    exact this
set_option maxRecDepth 100000 in
set_option maxHeartbeats 2000000 in
/-- move.Clone, of sizes within 64. -/
theorem clone_ok (x : MatM) (D : Value) (R C : Nat) (w : World) (hD : FS w D x.ws) (hx : x.good = true) (hwf : x.wf) (hl : x.ws.length ≤ 1000000) (hR : x.rows = R) (hC : x.cols = C) (hr : R ≤ 64) (hc : C ≤ 64) :
   Calls Try.prog 163 #[.agg #[D, .int .i64 x.off, .int .i64 R, .int .i64 C, .int .i64 x.ld]] w (fun e w' => ∃ k, e = .returned (.tuple #[.agg #[.slice (some ⟨k, 0, none⟩) (R * C) (R * C), .int .i64 0, .int .i64 R, .int .i64 C, .int .i64 (max R 1 : Nat)], .int .i64 0]) ∧ w.heap.size ≤ k ∧ FW w' k (numL x) ∧ ∃ o n, w' = ext w o n) := by
  have hgd : ∀ w', FS w' D x.ws → Calls Try.prog 130 #[.agg #[D, .int .i64 x.off, .int .i64 R, .int .i64 C, .int .i64 x.ld]] w' (fun e w2 => e = .returned (.bool true) ∧ ∃ o n, w2 = ext w' o n) := fun w' h => by
    have := good_any x D w' h hwf; rw [hx, hR, hC] at this; exact this
  have hnb : ∀ w', FS w' D x.ws → Calls Try.prog 198 #[.agg #[D, .int .i64 x.off, .int .i64 R, .int .i64 C, .int .i64 x.ld]] w' (fun e w2 => ∃ v, e = .returned v ∧ FS w2 v (numL x) ∧ ∃ o n, w2 = ext w' o n) := fun w' h => by
    have := numbers_any x D w' h hx hwf hl (by omega) (by omega); rw [hR, hC] at this; exact this
  have lN : (numL x).length = R * C := by simp [numL, numTo, hR, hC]
  have hm : R * C ≤ 64 * 64 := Nat.mul_le_mul hr hc
  obtain ⟨N, hN⟩ : ∃ N, N = numL x := ⟨_, rfl⟩
  rw [← hN] at hnb lN ⊢
  have d1 : decide ((64 : Int) < (R : Int)) = false := by simp; omega
  have d2 : decide ((64 : Int) < (C : Int)) = false := by simp; omega
  obtain ⟨LD, hLD⟩ : ∃ LD, LD = max R 1 := ⟨_, rfl⟩
  have hds := fun w' => denseA_any R C w' hr hc
  rw [← hLD] at hds ⊢
  clear hx hwf hR hC hN hLD
  go_enter Try.func163, Try.ntmps163
  refine seq_stop ?_
  go_wp2
  refine stop_go (fun W hW => ?_)
  have s1 : w.heap.size < W.heap.size := by rw [hW]; simp only [World.size_alloc]; omega
  have b1 : ∀ i, W.cell? ⟨w.heap.size, i, none⟩ = (#[D, .int .i64 x.off, .int .i64 R, .int .i64 C, .int .i64 x.ld] : Array Value)[i]? := by intro i; rw [hW]; go_simp
  have X1 : Box W (w.heap.size) #[D, .int .i64 x.off, .int .i64 R, .int .i64 C, .int .i64 x.ld] := by rw [hW]; refine Box.grew ?_ ((Grew.refl _).alloc _); exact Box.new' (by first | rfl | (simp only [World.size_alloc]; done) | (simp only [World.size_alloc]; omega))
  have f1 : ∀ i, W.frozen? ⟨w.heap.size, i, none⟩ = false := by intro i; rw [hW]; go_simp
  have s2 : w.heap.size + 1 < W.heap.size := by rw [hW]; simp only [World.size_alloc]; omega
  have b2 : ∀ i, W.cell? ⟨w.heap.size + 1, i, none⟩ = (#[.slice none 0 0, .int .i64 0, .int .i64 0, .int .i64 0, .int .i64 0] : Array Value)[i]? := by intro i; rw [hW]; go_simp
  have X2 : Box W (w.heap.size + 1) #[.slice none 0 0, .int .i64 0, .int .i64 0, .int .i64 0, .int .i64 0] := by rw [hW]; exact Box.new' (by first | rfl | (simp only [World.size_alloc]; done) | (simp only [World.size_alloc]; omega))
  have f2 : ∀ i, W.frozen? ⟨w.heap.size + 1, i, none⟩ = false := by intro i; rw [hW]; go_simp
  have g0 : Grew w W := by rw [hW]; exact ((Grew.refl _).alloc _).alloc _
  clear hW
  have hDW := hD.grew g0
  go_upto_region 6 with (first | (go_at_call 130; ((with_reducible refine (hgd _ ?_).mono ?_); (focus (first | (with_reducible assumption) | (with_reducible refine FS.ext ?_ _ _; with_reducible assumption) | (with_reducible refine IS.ext ?_ _ _; with_reducible assumption) | (refine hDu _ ?_; with_reducible assumption) | (refine hOu _ ?_; with_reducible assumption) | (refine hDa _ ?_; with_reducible assumption) | (refine hDb _ ?_; with_reducible assumption) | (refine hDc _ ?_; with_reducible assumption) | (refine hDd _ ?_; with_reducible assumption) | (refine FW.fs ?_ (by omega) _; with_reducible assumption) | (refine WS.fs ?_; with_reducible assumption) | (refine FW.fs ?_ (by omega) _; assumption) | omega | assumption)); rintro e w1 ⟨rfl, o1, n1, rfl⟩)) | (go_at_call 69; ((with_reducible refine (hds _).mono ?_); rintro e w1 ⟨k, rfl, hk, hF, o2, n2, rfl⟩)))
  refine name_any (fun V hV => ?_)
  obtain ⟨p1, hp1⟩ : ∃ p, p = w.heap.size := ⟨_, rfl⟩
  obtain ⟨p2, hp2⟩ : ∃ p, p = w.heap.size + 1 := ⟨_, rfl⟩
  obtain ⟨p4, hp4⟩ : ∃ p, p = W.heap.size + (o1.size + o2.size) := ⟨_, rfl⟩
  have gV : Grew W V := by rw [← hV]; (show Grew _ _; (try simp only [← Array.append_assoc]); repeat (first | (with_reducible exact Grew.same_o) | (with_reducible exact Grew.refl _) | (with_reducible assumption) | (with_reducible refine Grew.alloc ?_ _) | (with_reducible refine Grew.app_r ?_) | ((with_reducible refine Grew.setCell ?_ ?_ _); rotate_left; (focus (dsimp only; first | omega | (simp only [size_ext, World.size_alloc, Array.size_append]; omega)))) | (with_reducible refine Grew.ext ?_ _ _) | (with_reducible refine Grew.drewN ?_ _) | (with_reducible refine Grew.drew ?_)))
  have gw := Grew.trans g0 gV
  have Y1 : Box V p1 #[D, .int .i64 x.off, .int .i64 R, .int .i64 C, .int .i64 x.ld] := by rw [hp1]; exact X1.grew gV
  have Y2 : Box V p2 #[.slice none 0 0, .int .i64 0, .int .i64 0, .int .i64 0, .int .i64 0] := by rw [hp2]; exact X2.grew gV
  have Y4 : Box V p4 #[.slice (some ⟨k, 0, none⟩) (R * C) (R * C), .int .i64 0, .int .i64 R, .int .i64 C, .int .i64 LD] := by rw [← hV]; exact Box.new' (by rw [hp4]; simp only [size_ext, Array.size_append])
  simp only [ext_ext] at hF
  have hFV : FW V k (List.replicate (R * C) 0) := by rw [← hV]; exact hF.grew (by (show Grew _ _; (try simp only [← Array.append_assoc]); repeat (first | (with_reducible exact Grew.same_o) | (with_reducible exact Grew.refl _) | (with_reducible assumption) | (with_reducible refine Grew.alloc ?_ _) | (with_reducible refine Grew.app_r ?_) | ((with_reducible refine Grew.setCell ?_ ?_ _); rotate_left; (focus (dsimp only; first | omega | (simp only [size_ext, World.size_alloc, Array.size_append]; omega)))) | (with_reducible refine Grew.ext ?_ _ _) | (with_reducible refine Grew.drewN ?_ _) | (with_reducible refine Grew.drew ?_))))
  have lk := hF.lt
  simp only [size_ext, Array.size_append] at lk hk
  have zk : W.heap.size ≤ k := by omega
  have n1k : p1 ≠ k := by have := Y1.lt; omega
  have n2k : p2 ≠ k := by omega
  have n4k : p4 ≠ k := by omega
  have n24 : p2 ≠ p4 := by omega
  have z2 : w.heap.size ≤ p2 := by omega
  have zwk : w.heap.size ≤ k := by omega
  have hDV := hD.grew gw
  have t1 : ∀ w', But V [k] w' → ∀ i, w'.cell? ⟨p1, i, none⟩ = (#[D, .int .i64 x.off, .int .i64 R, .int .i64 C, .int .i64 x.ld] : Array Value)[i]? := fun w' h i => (h.cell Y1.lt (by simpa using n1k)).trans (Y1.cell i)
  have t4 : ∀ w', But V [k] w' → ∀ i, w'.cell? ⟨p4, i, none⟩ = (#[.slice (some ⟨k, 0, none⟩) (R * C) (R * C), .int .i64 0, .int .i64 R, .int .i64 C, .int .i64 LD] : Array Value)[i]? := fun w' h i => (h.cell Y4.lt (by simpa using n4k)).trans (Y4.cell i)
  have B0 := But.refl V [k]
  simp only [← hp4]
  simp only [← hp2]
  simp only [← hp1]
  clear hV hp1 hp2 hp4 X1 X2 b1 b2 s1 s2 f1 f2 hF hgd hds hDW lk hk
  refine wp_region_R (But V [k]) [] [(0,0), (0,1), (0,2), (1,3), (1,4)] (by kernel_rfl) (by kernel_rfl) (fun _ _ _ _ h _ => h) (B0.grew ((Grew.refl _).drew)) ?_
  refine name_any (fun V1 hV1 => ?_)
  have D1 : But V [k] V1 := by rw [← hV1]; exact B0.grew ((Grew.refl _).drew)
  have gV1 : Grew V V1 := by rw [← hV1]; (show Grew _ _; (try simp only [← Array.append_assoc]); repeat (first | (with_reducible exact Grew.same_o) | (with_reducible exact Grew.refl _) | (with_reducible assumption) | (with_reducible refine Grew.alloc ?_ _) | (with_reducible refine Grew.app_r ?_) | ((with_reducible refine Grew.setCell ?_ ?_ _); rotate_left; (focus (dsimp only; first | omega | (simp only [size_ext, World.size_alloc, Array.size_append]; omega)))) | (with_reducible refine Grew.ext ?_ _ _) | (with_reducible refine Grew.drewN ?_ _) | (with_reducible refine Grew.drew ?_)))
  have F1 := hFV.grew gV1
  have hD1 := hDV.grew gV1
  clear hV1
  go_upto_region 7 with (first | ((with_reducible refine wpR_id ?_); refine wpR_do rfl rfl (fun K hK => ?_); (with_reducible refine wp_cp ?_); refine copyF_R rfl (.tmp 26) (.tmp 28) 24 24 rfl 22 (by kernel_rfl) (by kernel_rfl) k (R * C) (R * C) va (R * C) vc _ N rfl rfl (by simp) lN (F1.ext _ _) hv ?_; intro z w3 hw3; have D3 : But V [k] w3 := (D1.grew (by (show Grew _ _; (try simp only [← Array.append_assoc]); repeat (first | (with_reducible exact Grew.same_o) | (with_reducible exact Grew.refl _) | (with_reducible assumption) | (with_reducible refine Grew.alloc ?_ _) | (with_reducible refine Grew.app_r ?_) | ((with_reducible refine Grew.setCell ?_ ?_ _); rotate_left; (focus (dsimp only; first | omega | (simp only [size_ext, World.size_alloc, Array.size_append]; omega)))) | (with_reducible refine Grew.ext ?_ _ _) | (with_reducible refine Grew.drewN ?_ _) | (with_reducible refine Grew.drew ?_))))).wrote hw3 (.inl (by simp))) | ((with_reducible refine wpR_id ?_); first | (refine wpR_take (v := ?_) rfl rfl ?_ ?_; rotate_left; (focus (intro w' hw'; go_simp; try with_reducible rfl)); simp only [Act.put, List.setIfInBounds_toArray, List.set_cons_zero, List.set_cons_succ]) | (refine wpR_pure (v := ?_) rfl rfl ?_ ?_; rotate_left; (focus (intro w'; go_simp; try with_reducible rfl)); simp only [Act.put, List.setIfInBounds_toArray, List.set_cons_zero, List.set_cons_succ]) | (refine wpR_takeG (v := ?_) rfl rfl rfl rfl rfl ?_ ?_; rotate_left; (focus (intro w' hw'; go_simp; try with_reducible rfl)); simp only [Act.put, List.setIfInBounds_toArray, List.set_cons_zero, List.set_cons_succ]) | (refine wpR_skip rfl rfl rfl rfl rfl rfl ?_; simp only [Act.put, List.setIfInBounds_toArray, List.set_cons_zero, List.set_cons_succ]) | (refine wpR_skipU rfl rfl rfl rfl rfl ?_; simp only [Act.put, List.setIfInBounds_toArray, List.set_cons_zero, List.set_cons_succ]) | (refine wpR_do rfl rfl (fun K hK => ?_)) | (refine wpR_doG rfl rfl rfl rfl rfl (fun K hK => ?_)) | (refine wpR_last rfl rfl (fun K hK => ?_)) | (refine wpR_nil ?_)) | ((with_reducible refine wpR_go ?_ ?_); (focus (with_reducible assumption))) | ((with_reducible refine upon_id ?_); refine upon_fop rfl (by assumption) (by assumption) ?_; intro rr nn hr) | (go_at_call 198; ((with_reducible refine (hnb _ hD1).mono ?_); rintro e w1 ⟨v, rfl, hv, o3, n3, rfl⟩; (obtain ⟨va, vc, rfl⟩ := hv.shape); (rw [lN] at hv); (have D2 : But V [k] (ext V1 o3 n3) := D1.grew (by (show Grew _ _; (try simp only [← Array.append_assoc]); repeat (first | (with_reducible exact Grew.same_o) | (with_reducible exact Grew.refl _) | (with_reducible assumption) | (with_reducible refine Grew.alloc ?_ _) | (with_reducible refine Grew.app_r ?_) | ((with_reducible refine Grew.setCell ?_ ?_ _); rotate_left; (focus (dsimp only; first | omega | (simp only [size_ext, World.size_alloc, Array.size_append]; omega)))) | (with_reducible refine Grew.ext ?_ _ _) | (with_reducible refine Grew.drewN ?_ _) | (with_reducible refine Grew.drew ?_))))))))
  have F3 := hw3.fw (F1.ext o3 n3)
  rw [cpl_all (by rw [List.length_replicate]; exact lN.symm)] at F3
  have q4 := t4 _ D3
  have Y2' := Box.but' Y2 D3 (by simpa using n2k)
  have q2 := Y2'.cell
  have f2 := Y2'.frozen
  have l2 := Y2'.lt
  have z3 := D3.size
  have l4 : p4 < w3.heap.size := Nat.lt_of_lt_of_le Y4.lt z3
  have g3 : Grew w w3 := D3.grew0 gw (by intro q hq; simp at hq; omega)
  clear t1 t4 hnb hw3 D3
  go_wp2
  refine bodyPost_ret (v := .tuple #[.agg #[.slice (some ⟨k, 0, none⟩) (R * C) (R * C), .int .i64 0, .int .i64 R, .int .i64 C, .int .i64 LD], .int .i64 0]) (by simp [results, Try.results163, go_sem, *]) rfl ?_
  exact ⟨k, rfl, zwk, by (repeat (first | (with_reducible assumption) | ((with_reducible refine FW.ext_set ?_ ?_ ?_ _); rotate_left; (focus (simp only [size_setCell', World.size_alloc, size_ext, size_upd]; omega)); (focus (dsimp only; omega))) | ((with_reducible refine FW.setCell_ne ?_ ?_ _); rotate_left; (focus (dsimp only; omega))) | (with_reducible refine FW.ext ?_ _ _) | (with_reducible refine FW.alloc ?_ _))), by (show Grew _ _; repeat (first | (with_reducible exact Grew.refl _) | (with_reducible assumption) | (with_reducible exact Grew.same_o) | (with_reducible exact Grew.app_o) | (with_reducible refine Grew.ext ?_ _ _) | (with_reducible refine Grew.alloc ?_ _) | ((with_reducible refine Grew.setCell ?_ ?_ _); rotate_left; (focus (dsimp only; first | omega | (simp only [size_ext, World.size_alloc, Array.size_append]; omega)))) | (with_reducible refine Grew.drewN ?_ _) | (with_reducible refine Grew.drew ?_)))⟩
end Go.Proofs.Ytcmggfpcbijcjaa
end
