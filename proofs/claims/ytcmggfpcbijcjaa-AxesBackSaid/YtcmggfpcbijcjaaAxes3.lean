/-
  Contracts: axes.Sign.
-/
import Derived.Test.YtcmggfpcbijcjaaAxes2
import Derived.Test.YtcmggfpcbijcjaaLawSums
set_option linter.unusedSimpArgs false
set_option linter.unusedVariables false
open Go Go.RowKit Sedge
namespace Go.Proofs.Ytcmggfpcbijcjaa
theorem ownF_same {e : TypeId} {w w' : World} {B : Nat} {v : Value} {xs : List Nat} (h : OwnF e w B v xs) (hs : ∀ k, B ≤ k → w'.heap[k]? = w.heap[k]?) : OwnF e w' B v xs := by
  obtain ⟨bs, ⟨h0, h1⟩, h2, h3⟩ := h
  refine ⟨bs, ⟨h0, ?_⟩, h2, h3⟩
  rcases h1 with h1 | ⟨gg, cap, cur, hv, hB, hh, r⟩
  · exact .inl h1
  · exact .inr ⟨gg, cap, cur, hv, hB, by rw [hs gg hB]; exact hh, r⟩
theorem upd_other {w : World} {T k : Nat} {c c' : Array Value} {o : Array Obj} {n : Nat} (h : k ≠ T) : (ext (upd w T c) o n).heap[k]? = (ext (upd w T c') o n).heap[k]? := by
  have e : ∀ c : Array Value, (ext (upd w T c) o n).heap = (upd w T c).heap ++ o := fun _ => rfl
  rw [e, e, Array.getElem?_append, Array.getElem?_append, size_upd, size_upd, block_upd_ne h, block_upd_ne h]
theorem gt_eq0 {r X : Nat} (hr : IsF r X) : (FloatKind.f64.format.order r 0 == some .gt) = fgt X 0 := by unfold fgt; rw [← hr.order isF_zero]; rfl
/-- What sign a number has: 1 or -1. -/
def sgF (z : Nat) : Nat := if (fgt z 0 || feq z 0) = true then 4607182418800017408 else 13830554455654793216
set_option maxRecDepth 100000 in
set_option maxHeartbeats 1000000 in
/-- axes.Sign's closure. -/
theorem sgcl_any (i pl blk T b z : Nat) (v : Value) (xs : List Nat) (W1 w : World) (gw : Grew (upd W1 T #[v]) w) (hown : OwnF 22 w W1.heap.size v xs) (kT : T < W1.heap.size) (hT : ∀ i, (upd W1 T #[v]).cell? ⟨T, i, none⟩ = (#[v] : Array Value)[i]?)
    (hc : w.cell? ⟨blk, pl, none⟩ = some (.float .f64 b)) (hf : IsF b z) (fz : ∀ i, (upd W1 T #[v]).frozen? ⟨T, i, none⟩ = false) (hlen : xs.length ≤ 1000000) :
   Calls Try.prog 173 #[.int .i64 i, .pointer (some ⟨blk, pl, none⟩), .pointer (some ⟨T, 0, none⟩)] w
     (fun e w' => e = .returned (.tuple #[]) ∧ ∃ v' o n, w' = ext (upd W1 T #[v']) o n ∧ OwnF 22 w' W1.heap.size v' (xs ++ [sgF z])) := by
  obtain ⟨U, hU⟩ : ∃ U, upd W1 T #[v] = U := ⟨_, rfl⟩
  have zU : U.heap.size = W1.heap.size := by rw [← hU]; exact size_upd
  have kU : T < U.heap.size := by omega
  rw [← zU] at hown
  rw [hU] at gw hT fz
  have hT' := fun i => (gw.cell kU).trans (hT i)
  have HU := hid hU
  have c1 : IsF 4607182418800017408 4607182418800017408 := by decide +kernel
  have c2 : IsF 13830554455654793216 13830554455654793216 := by decide +kernel
  have C1 := hid c1
  have C2 := hid c2
  have HZ := hid zU
  clear hU c1 c2 zU
  cases hp : fgt z 0
  · cases hq : feq z 0
    · have Q := hid (show sgF z = 13830554455654793216 by unfold sgF; rw [hp, hq]; rfl)
      have d1 := (gt_eq0 hf).trans hp
      have d2 := eq_is hf isF_zero hq
      go_enter Try.func173, Try.ntmps173
      go_wp2_with (first | ((at_builtin; refine append1_f (W := U) (v := v) (xs := xs) (y := sgF z) finfo ?_ ?_ ?_ ((by omega)) _ _ rfl rfl rfl ?_ rfl ?_; (focus (refine Grew.trans gw ?_; (show Grew _ _; repeat (first | (with_reducible exact Grew.refl _) | (with_reducible assumption) | (with_reducible refine Grew.ext ?_ _ _) | (with_reducible refine Grew.alloc ?_ _) | ((with_reducible refine Grew.setCell ?_ ?_ _); rotate_left; (focus (dsimp only; first | omega | (simp only [size_ext, World.size_alloc, Array.size_append]; omega)))) | (with_reducible refine Grew.drewN ?_ _) | (with_reducible refine Grew.drew ?_))))); (focus (refine OwnF.grew (w := w) ?_ ?_; (focus (with_reducible assumption)); (focus (show Grew _ _; repeat (first | (with_reducible exact Grew.refl _) | (with_reducible assumption) | (with_reducible refine Grew.ext ?_ _ _) | (with_reducible refine Grew.alloc ?_ _) | ((with_reducible refine Grew.setCell ?_ ?_ _); rotate_left; (focus (dsimp only; first | omega | (simp only [size_ext, World.size_alloc, Array.size_append]; omega)))) | (with_reducible refine Grew.drewN ?_ _) | (with_reducible refine Grew.drew ?_)))))); (focus ((rw [Q.out]; exact C2.out))); (focus (first | rfl | (simp only [size_ext, World.size_alloc, Array.size_append]; done) | (simp only [size_ext, World.size_alloc, Array.size_append]; omega))); intro v oo nn ho hn); obtain ⟨a9, c9, rfl⟩ := ho.length))
      go_end0
      refine ⟨rfl, _, _, _, (by rw [← HU.out, setCell_upd]; rfl), ?_⟩
      rw [HZ.out, show (xs ++ [sgF z]).length = xs.length + 1 by simp] at ho
      refine ownF_same ho fun k hk => ?_
      have hne : k ≠ T := by have := HZ.out; omega
      rw [← HU.out, setCell_upd]
      exact upd_other hne
    · have Q := hid (show sgF z = 4607182418800017408 by unfold sgF; rw [hp, hq]; rfl)
      have d1 := (gt_eq0 hf).trans hp
      have d2 := eq_is hf isF_zero hq
      go_enter Try.func173, Try.ntmps173
      go_wp2_with (first | ((at_builtin; refine append1_f (W := U) (v := v) (xs := xs) (y := sgF z) finfo ?_ ?_ ?_ ((by omega)) _ _ rfl rfl rfl ?_ rfl ?_; (focus (refine Grew.trans gw ?_; (show Grew _ _; repeat (first | (with_reducible exact Grew.refl _) | (with_reducible assumption) | (with_reducible refine Grew.ext ?_ _ _) | (with_reducible refine Grew.alloc ?_ _) | ((with_reducible refine Grew.setCell ?_ ?_ _); rotate_left; (focus (dsimp only; first | omega | (simp only [size_ext, World.size_alloc, Array.size_append]; omega)))) | (with_reducible refine Grew.drewN ?_ _) | (with_reducible refine Grew.drew ?_))))); (focus (refine OwnF.grew (w := w) ?_ ?_; (focus (with_reducible assumption)); (focus (show Grew _ _; repeat (first | (with_reducible exact Grew.refl _) | (with_reducible assumption) | (with_reducible refine Grew.ext ?_ _ _) | (with_reducible refine Grew.alloc ?_ _) | ((with_reducible refine Grew.setCell ?_ ?_ _); rotate_left; (focus (dsimp only; first | omega | (simp only [size_ext, World.size_alloc, Array.size_append]; omega)))) | (with_reducible refine Grew.drewN ?_ _) | (with_reducible refine Grew.drew ?_)))))); (focus ((rw [Q.out]; exact C1.out))); (focus (first | rfl | (simp only [size_ext, World.size_alloc, Array.size_append]; done) | (simp only [size_ext, World.size_alloc, Array.size_append]; omega))); intro v oo nn ho hn); obtain ⟨a9, c9, rfl⟩ := ho.length))
      go_end0
      refine ⟨rfl, _, _, _, (by rw [← HU.out, setCell_upd]; rfl), ?_⟩
      rw [HZ.out, show (xs ++ [sgF z]).length = xs.length + 1 by simp] at ho
      refine ownF_same ho fun k hk => ?_
      have hne : k ≠ T := by have := HZ.out; omega
      rw [← HU.out, setCell_upd]
      exact upd_other hne
  · cases hq : feq z 0
    · have Q := hid (show sgF z = 4607182418800017408 by unfold sgF; rw [hp, hq]; rfl)
      have d1 := (gt_eq0 hf).trans hp
      have d2 := eq_is hf isF_zero hq
      go_enter Try.func173, Try.ntmps173
      go_wp2_with (first | ((at_builtin; refine append1_f (W := U) (v := v) (xs := xs) (y := sgF z) finfo ?_ ?_ ?_ ((by omega)) _ _ rfl rfl rfl ?_ rfl ?_; (focus (refine Grew.trans gw ?_; (show Grew _ _; repeat (first | (with_reducible exact Grew.refl _) | (with_reducible assumption) | (with_reducible refine Grew.ext ?_ _ _) | (with_reducible refine Grew.alloc ?_ _) | ((with_reducible refine Grew.setCell ?_ ?_ _); rotate_left; (focus (dsimp only; first | omega | (simp only [size_ext, World.size_alloc, Array.size_append]; omega)))) | (with_reducible refine Grew.drewN ?_ _) | (with_reducible refine Grew.drew ?_))))); (focus (refine OwnF.grew (w := w) ?_ ?_; (focus (with_reducible assumption)); (focus (show Grew _ _; repeat (first | (with_reducible exact Grew.refl _) | (with_reducible assumption) | (with_reducible refine Grew.ext ?_ _ _) | (with_reducible refine Grew.alloc ?_ _) | ((with_reducible refine Grew.setCell ?_ ?_ _); rotate_left; (focus (dsimp only; first | omega | (simp only [size_ext, World.size_alloc, Array.size_append]; omega)))) | (with_reducible refine Grew.drewN ?_ _) | (with_reducible refine Grew.drew ?_)))))); (focus ((rw [Q.out]; exact C1.out))); (focus (first | rfl | (simp only [size_ext, World.size_alloc, Array.size_append]; done) | (simp only [size_ext, World.size_alloc, Array.size_append]; omega))); intro v oo nn ho hn); obtain ⟨a9, c9, rfl⟩ := ho.length))
      go_end0
      refine ⟨rfl, _, _, _, (by rw [← HU.out, setCell_upd]; rfl), ?_⟩
      rw [HZ.out, show (xs ++ [sgF z]).length = xs.length + 1 by simp] at ho
      refine ownF_same ho fun k hk => ?_
      have hne : k ≠ T := by have := HZ.out; omega
      rw [← HU.out, setCell_upd]
      exact upd_other hne
    · have Q := hid (show sgF z = 4607182418800017408 by unfold sgF; rw [hp, hq]; rfl)
      have d1 := (gt_eq0 hf).trans hp
      have d2 := eq_is hf isF_zero hq
      go_enter Try.func173, Try.ntmps173
      go_wp2_with (first | ((at_builtin; refine append1_f (W := U) (v := v) (xs := xs) (y := sgF z) finfo ?_ ?_ ?_ ((by omega)) _ _ rfl rfl rfl ?_ rfl ?_; (focus (refine Grew.trans gw ?_; (show Grew _ _; repeat (first | (with_reducible exact Grew.refl _) | (with_reducible assumption) | (with_reducible refine Grew.ext ?_ _ _) | (with_reducible refine Grew.alloc ?_ _) | ((with_reducible refine Grew.setCell ?_ ?_ _); rotate_left; (focus (dsimp only; first | omega | (simp only [size_ext, World.size_alloc, Array.size_append]; omega)))) | (with_reducible refine Grew.drewN ?_ _) | (with_reducible refine Grew.drew ?_))))); (focus (refine OwnF.grew (w := w) ?_ ?_; (focus (with_reducible assumption)); (focus (show Grew _ _; repeat (first | (with_reducible exact Grew.refl _) | (with_reducible assumption) | (with_reducible refine Grew.ext ?_ _ _) | (with_reducible refine Grew.alloc ?_ _) | ((with_reducible refine Grew.setCell ?_ ?_ _); rotate_left; (focus (dsimp only; first | omega | (simp only [size_ext, World.size_alloc, Array.size_append]; omega)))) | (with_reducible refine Grew.drewN ?_ _) | (with_reducible refine Grew.drew ?_)))))); (focus ((rw [Q.out]; exact C1.out))); (focus (first | rfl | (simp only [size_ext, World.size_alloc, Array.size_append]; done) | (simp only [size_ext, World.size_alloc, Array.size_append]; omega))); intro v oo nn ho hn); obtain ⟨a9, c9, rfl⟩ := ho.length))
      go_end0
      refine ⟨rfl, _, _, _, (by rw [← HU.out, setCell_upd]; rfl), ?_⟩
      rw [HZ.out, show (xs ++ [sgF z]).length = xs.length + 1 by simp] at ho
      refine ownF_same ho fun k hk => ?_
      have hne : k ≠ T := by have := HZ.out; omega
      rw [← HU.out, setCell_upd]
      exact upd_other hne
def sgTo (x : VecM) (i : Nat) : List Nat := (List.range i).map fun r => sgF (x.num r)
theorem sgTo_succ (x : VecM) (i : Nat) : sgTo x (i + 1) = sgTo x i ++ [sgF (x.num i)] := by unfold sgTo; rw [List.range_succ, List.map_append]; rfl
/-- The state of axes.Sign: the captured list, as long as it has got. -/
def RW2 (x : VecM) (T : Nat) (W1 : World) (i : Nat) (w' : World) : Prop := ∃ v o n, w' = ext (upd W1 T #[v]) o n ∧ OwnF 22 w' W1.heap.size v (sgTo x i)
theorem upd_self {w : World} {T : Nat} {c : Array Value} {e : TypeId} {f : Nat × Nat} (h : w.heap[T]? = some (.cells c e f)) : upd w T c = w := by
  unfold upd
  cases w with | mk hp tp dr os' out => ?_
  simp only [World.mk.injEq, true_and, and_true] at *
  apply Array.ext_getElem?
  intro i
  rw [Array.getElem?_modify]
  split
  · rename_i he; subst he; rw [h]; rfl
  · rfl
theorem upd_block {w : World} {T : Nat} {c c' : Array Value} {e : TypeId} {f : Nat × Nat} (h : w.heap[T]? = some (.cells c e f)) : (upd w T c').heap[T]? = some (.cells c' e f) := by
  unfold upd
  simp only [Array.getElem?_modify, if_true, h]
  rfl
set_option maxRecDepth 100000 in
set_option maxHeartbeats 1000000 in
/-- axes.Sign. -/
theorem sign_any (x : VecM) (D : Value) (w : World) (hD : FS w D x.ws) (hx : x.right = true) (hwf : x.wf) (hl : x.ws.length ≤ 1000000) :
   Calls Try.prog 97 #[.agg #[D, .int .i64 x.off, .int .i64 x.n, .int .i64 x.inc]] w (fun e w' => ∃ v, e = .returned (.tuple #[v, .int .i64 0]) ∧ FS w' v (sgTo x x.n.toNat) ∧ ∃ o n, w' = ext w o n) := by
  obtain ⟨aD, cD, rfl⟩ := hD.shape
  have hnl := VecM.right_nle hx hl
  have hrt : ∀ w', FS w' (.slice aD x.ws.length cD) x.ws → Calls Try.prog 135 #[.agg #[.slice aD x.ws.length cD, .int .i64 x.off, .int .i64 x.n, .int .i64 x.inc]] w' (fun e w2 => e = .returned (.bool true) ∧ ∃ o n, w2 = ext w' o n) := fun w' h => by
    have := right_any x _ w' h hwf; rw [hx] at this; exact this
  have hEach : ∀ (T : Nat) (w' : World), Grew w w' → w.heap.size ≤ T → w'.heap[T]? = some (.cells #[.slice none 0 0] 24 (0, 0)) →
      Calls Try.prog 117 #[.agg #[.slice aD x.ws.length cD, .int .i64 x.off, .int .i64 x.n, .int .i64 x.inc], .func (.func 173) #[] #[.pointer (some ⟨T, 0, none⟩)]] w' (fun e w2 => e = .returned (.tuple #[]) ∧ Grew w w2 ∧ w'.heap.size ≤ w2.heap.size ∧ ∃ v, FS w2 v (sgTo x x.n.toNat) ∧ (∀ i, w2.cell? ⟨T, i, none⟩ = (#[v] : Array Value)[i]?) ∧ ∀ b i, b < w.heap.size + 1 → b ≠ T → b < w'.heap.size → w2.cell? ⟨b, i, none⟩ = w'.cell? ⟨b, i, none⟩) := fun T w' h1 h2 h3 => by
    have hTlt := some_lt' h3
    obtain ⟨gb, go, hA⟩ : ∃ gb go, 0 < x.n → aD = some ⟨gb, go, none⟩ := by
      by_cases h : 0 < x.n
      · obtain ⟨gb, go, e, _⟩ := hD.at.2 (by have := VecM.right_place hx (i := 0) (by omega); omega)
        exact ⟨gb, go, fun _ => e⟩
      · exact ⟨0, 0, fun h' => absurd h' h⟩
    have hBut : ∀ W1 i w2, Grew w' W1 → RW2 x T W1 i w2 → But W1 [T] w2 := fun W1 i w2 hg hR => by
      obtain ⟨v, o, n, rfl, _⟩ := hR
      exact ((But.refl W1 [T]).upd (.inl (by simp)) _).grew ⟨_, _, rfl⟩
    refine (eachSign x aD gb go cD _ (fun W1 i w2 => Grew w' W1 ∧ RW2 x T W1 i w2) [T] w' hx hl hA ?_ ?_ (by simp; exact hTlt) ?_).mono fun e w2 hh => ?_
    · intro W1 hg
      refine ⟨hg, .slice none 0 0, #[], W1.drawn, ?_, by simpa [sgTo] using OwnF.nil _ _ _⟩
      rw [upd_self (by rw [hg.below.block T hTlt]; exact h3)]; exact ext_zero.symm
    · intro W1 i w2 hR
      exact hBut W1 i w2 hR.1 hR.2
    · intro W1 i w2 hg hi hR
      obtain ⟨_, hR⟩ := hR
      have hB := hBut W1 i w2 hg hR
      obtain ⟨v, o, n, hw2, hown⟩ := hR
      have hb1 : W1.heap[T]? = some (.cells #[.slice none 0 0] 24 (0, 0)) := by rw [hg.below.block T hTlt]; exact h3
      have hb2 := upd_block (c' := #[v]) hb1
      have gall : Grew w w2 := hB.grew0 (Grew.trans h1 hg) (by simp; exact h2)
      have hDw := hD.grew gall
      rw [hA (by omega)] at hDw
      obtain ⟨blk, o', e', _, hc⟩ := hDw.at.2 (by have := VecM.right_place hx hi; omega)
      cases e'
      obtain ⟨b, hb, hf⟩ := hc (x.place i) (VecM.place_lt hx hi)
      refine (sgcl_any i (go + x.place i) gb T b (x.num i) v (sgTo x i) W1 w2 ⟨o, n, hw2⟩ hown (some_lt' hb1) (fun i => cell_of_block hb2) hb hf (fun i => by unfold World.frozen?; simp [hb2]) (by simp [sgTo]; omega)).mono fun e w3 hh => ?_
      obtain ⟨e1, v', o2, n2, e2, e3⟩ := hh
      exact ⟨e1, hg, v', o2, n2, e2, by rw [sgTo_succ]; exact e3⟩
    · obtain ⟨e1, W1, g1, _, hR⟩ := hh
      have hB := hBut W1 _ w2 g1 hR
      obtain ⟨v, o, n, hw2, hown⟩ := hR
      have hb1 : W1.heap[T]? = some (.cells #[.slice none 0 0] 24 (0, 0)) := by rw [g1.below.block T hTlt]; exact h3
      have hb2 := upd_block (c' := #[v]) hb1
      have z1 := g1.below.size
      refine ⟨e1, hB.grew0 (Grew.trans h1 g1) (by simp; exact h2), by have := hB.size; omega, v, hown.fs (by simp [sgTo]; omega), fun i => ?_, fun b i h4 h5 h6 => ?_⟩
      · rw [hw2, cell_ext (by rw [size_upd]; omega)]; exact cell_of_block hb2
      · exact (hB.cell (by omega) (by simpa using h5)).trans (g1.cell h6)
  clear hx hwf
  have hmf := hmf
  go_enter Try.func97, Try.ntmps97
  refine seq_stop ?_
  go_wp2
  refine stop_go (fun W hW => ?_)
  have s1 : w.heap.size < W.heap.size := by rw [hW]; simp only [World.size_alloc]; omega
  have b1 : ∀ i, W.cell? ⟨w.heap.size, i, none⟩ = (#[.slice aD x.ws.length cD, .int .i64 x.off, .int .i64 x.n, .int .i64 x.inc] : Array Value)[i]? := by intro i; rw [hW]; go_simp
  have g0 : Grew w W := by rw [hW]; exact (Grew.refl _).alloc _
  clear hW
  have hDW := hD.grew g0
  have zW := g0.below.size
  go_wp2_with (first | (go_at_call 135; ((with_reducible refine (hrt _ ?_).mono ?_); (focus (first | (with_reducible assumption) | (with_reducible refine FS.ext ?_ _ _; with_reducible assumption) | (with_reducible refine IS.ext ?_ _ _; with_reducible assumption) | (refine hDu _ ?_; with_reducible assumption) | (refine hOu _ ?_; with_reducible assumption) | (refine hDa _ ?_; with_reducible assumption) | (refine hDb _ ?_; with_reducible assumption) | (refine hDc _ ?_; with_reducible assumption) | (refine hDd _ ?_; with_reducible assumption) | (refine FW.fs ?_ (by omega) _; with_reducible assumption) | (refine WS.fs ?_; with_reducible assumption) | (refine FW.fs ?_ (by omega) _; assumption) | omega | assumption)); rintro e w1 ⟨rfl, oa, na, rfl⟩)))
  refine name_call (fun V hV => ?_)
  have hblk : V.heap[W.heap.size + oa.size]? = some (.cells #[.slice none 0 0] 24 (0, 0)) := by
    rw [← hV]
    rw [show W.heap.size + oa.size = (ext W oa na).heap.size by rw [size_ext]]
    generalize ext W oa na = Z
    show (Z.heap.push _)[Z.heap.size]? = _
    simp
  have gV : Grew w V := by rw [← hV]; exact Grew.trans g0 (by (show Grew _ _; repeat (first | (with_reducible exact Grew.refl _) | (with_reducible assumption) | (with_reducible refine Grew.ext ?_ _ _) | (with_reducible refine Grew.alloc ?_ _) | ((with_reducible refine Grew.setCell ?_ ?_ _); rotate_left; (focus (dsimp only; first | omega | (simp only [size_ext, World.size_alloc, Array.size_append]; omega)))) | (with_reducible refine Grew.drewN ?_ _) | (with_reducible refine Grew.drew ?_))))
  have hc := hEach _ V gV (by omega) hblk
  obtain ⟨T, hT⟩ : ∃ T, T = W.heap.size + oa.size := ⟨_, rfl⟩
  rw [← hT] at hc
  simp only [← hT]
  clear hEach hV hblk hT
  refine hc.mono ?_
  rintro e w1 ⟨rfl, g1, z1, v, hv, hc1, _⟩
  go_wp2
  refine bodyPost_ret (v := .tuple #[v, .int .i64 0]) (by simp [results, Try.results97, go_sem, *]) rfl ?_
  exact ⟨v, rfl, hv, g1⟩
set_option maxRecDepth 100000 in
set_option maxHeartbeats 1000000 in
/-- axes.Sign of what is no vector. -/
theorem sign_no (x : VecM) (D : Value) (w : World) (hD : FS w D x.ws) (hx : x.right = false) (hwf : x.wf) :
   Calls Try.prog 97 #[.agg #[D, .int .i64 x.off, .int .i64 x.n, .int .i64 x.inc]] w (fun e w' => e = .returned (.tuple #[.slice none 0 0, .int .i64 1]) ∧ ∃ o n, w' = ext w o n) := by
  have hrt : ∀ w', FS w' D x.ws → Calls Try.prog 135 #[.agg #[D, .int .i64 x.off, .int .i64 x.n, .int .i64 x.inc]] w' (fun e w2 => e = .returned (.bool false) ∧ ∃ o n, w2 = ext w' o n) := fun w' h => by
    have := right_any x _ w' h hwf; rw [hx] at this; exact this
  clear hx hwf
  go_enter Try.func97, Try.ntmps97
  refine seq_stop ?_
  go_wp2
  refine stop_go (fun W hW => ?_)
  have s1 : w.heap.size < W.heap.size := by rw [hW]; simp only [World.size_alloc]; omega
  have b1 : ∀ i, W.cell? ⟨w.heap.size, i, none⟩ = (#[D, .int .i64 x.off, .int .i64 x.n, .int .i64 x.inc] : Array Value)[i]? := by intro i; rw [hW]; go_simp
  have g0 : Grew w W := by rw [hW]; exact (Grew.refl _).alloc _
  clear hW
  have hDW := hD.grew g0
  go_wp2_with (first | (go_at_call 135; ((with_reducible refine (hrt _ ?_).mono ?_); (focus (first | (with_reducible assumption) | (with_reducible refine FS.ext ?_ _ _; with_reducible assumption) | (with_reducible refine IS.ext ?_ _ _; with_reducible assumption) | (refine hDu _ ?_; with_reducible assumption) | (refine hOu _ ?_; with_reducible assumption) | (refine hDa _ ?_; with_reducible assumption) | (refine hDb _ ?_; with_reducible assumption) | (refine hDc _ ?_; with_reducible assumption) | (refine hDd _ ?_; with_reducible assumption) | (refine FW.fs ?_ (by omega) _; with_reducible assumption) | (refine WS.fs ?_; with_reducible assumption) | (refine FW.fs ?_ (by omega) _; assumption) | omega | assumption)); rintro e w1 ⟨rfl, oa, na, rfl⟩)))
  refine bodyPost_ret (v := .tuple #[.slice none 0 0, .int .i64 1]) (by simp [results, Try.results97, go_sem, *]) rfl ?_
  exact ⟨rfl, by (show Grew _ _; repeat (first | (with_reducible exact Grew.refl _) | (with_reducible assumption) | (with_reducible refine Grew.ext ?_ _ _) | (with_reducible refine Grew.alloc ?_ _) | ((with_reducible refine Grew.setCell ?_ ?_ _); rotate_left; (focus (dsimp only; first | omega | (simp only [size_ext, World.size_alloc, Array.size_append]; omega)))) | (with_reducible refine Grew.drewN ?_ _) | (with_reducible refine Grew.drew ?_)))⟩
end Go.Proofs.Ytcmggfpcbijcjaa
