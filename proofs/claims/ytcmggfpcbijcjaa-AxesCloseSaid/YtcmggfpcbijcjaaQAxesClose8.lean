/-
  Texts laid one behind the other (a claim has at most 60 files): Axes3, Fork, Bnd, Ger3, Axes4.
-/
import Derived.Test.YtcmggfpcbijcjaaQAxesClose1
import Derived.Test.YtcmggfpcbijcjaaQAxesClose2
import Derived.Test.YtcmggfpcbijcjaaQAxesClose3
import Derived.Test.YtcmggfpcbijcjaaQAxesClose4
import Derived.Test.YtcmggfpcbijcjaaQAxesClose5
import Derived.Test.YtcmggfpcbijcjaaQAxesClose6
import Derived.Test.YtcmggfpcbijcjaaQAxesClose7
section
/-
  Contracts: axes.Sign.
-/
set_option linter.unusedSimpArgs false
set_option linter.unusedVariables false
open Go Go.RowKit Sedge
namespace Go.Proofs.Ytcmggfpcbijcjaa
theorem ownF_same {e : TypeId} {w w' : World} {B : Nat} {v : Value} {xs : List Nat} (h : OwnF e w B v xs) (hs : ∀ k, B ≤ k → w'.heap[k]? = w.heap[k]?) : OwnF e w' B v xs := by
  obtain ⟨bs, ⟨h0, h1⟩, h2, h3⟩ := h
  refine ⟨bs, ⟨h0, ?_⟩, h2, h3⟩
  rcases h1 with h1 | ⟨gg, cap, cur, hv, hB, hh, r⟩
  · exact .inl h1
  · exact .inr ⟨gg, cap, cur, hv, hB, by rw [hs gg hB]; exact hh, r⟩
theorem upd_other {w : World} {T k : Nat} {c c' : Array Value} {o : Array Obj} {n : Nat} (h : k ≠ T) : (ext (upd w T c) o n).heap[k]? = (ext (upd w T c') o n).heap[k]? := by
  have e : ∀ c : Array Value, (ext (upd w T c) o n).heap = (upd w T c).heap ++ o := fun _ => rfl
  rw [e, e, Array.getElem?_append, Array.getElem?_append, size_upd, size_upd, block_upd_ne h, block_upd_ne h]
theorem gt_eq0 {r X : Nat} (hr : IsF r X) : (FloatKind.f64.format.order r 0 == some .gt) = fgt X 0 := by unfold fgt; rw [← hr.order isF_zero]; rfl
/-- What sign a number has: 1 or -1. -/
def sgF (z : Nat) : Nat := if (fgt z 0 || feq z 0) = true then 4607182418800017408 else 13830554455654793216
set_option maxRecDepth 100000 in
set_option maxHeartbeats 1000000 in
/-- axes.Sign's closure. -/
theorem sgcl_any (i pl blk T b z : Nat) (v : Value) (xs : List Nat) (W1 w : World) (gw : Grew (upd W1 T #[v]) w) (hown : OwnF 22 w W1.heap.size v xs) (kT : T < W1.heap.size) (hT : ∀ i, (upd W1 T #[v]).cell? ⟨T, i, none⟩ = (#[v] : Array Value)[i]?)
    (hc : w.cell? ⟨blk, pl, none⟩ = some (.float .f64 b)) (hf : IsF b z) (fz : ∀ i, (upd W1 T #[v]).frozen? ⟨T, i, none⟩ = false) (hlen : xs.length ≤ 1000000) :
   Calls Try.prog 173 #[.int .i64 i, .pointer (some ⟨blk, pl, none⟩), .pointer (some ⟨T, 0, none⟩)] w
     (fun e w' => e = .returned (.tuple #[]) ∧ ∃ v' o n, w' = ext (upd W1 T #[v']) o n ∧ OwnF 22 w' W1.heap.size v' (xs ++ [sgF z])) := by
  obtain ⟨U, hU⟩ : ∃ U, upd W1 T #[v] = U := ⟨_, rfl⟩
  have zU : U.heap.size = W1.heap.size := by rw [← hU]; exact size_upd
  have kU : T < U.heap.size := by omega
  rw [← zU] at hown
  rw [hU] at gw hT fz
  have hT' := fun i => (gw.cell kU).trans (hT i)
  have HU := hid hU
  have c1 : IsF 4607182418800017408 4607182418800017408 := by decide +kernel
  have c2 : IsF 13830554455654793216 13830554455654793216 := by decide +kernel
  have C1 := hid c1
  have C2 := hid c2
  have HZ := hid zU
  clear hU c1 c2 zU
  cases hp : fgt z 0
  · cases hq : feq z 0
    · have Q := hid (show sgF z = 13830554455654793216 by unfold sgF; rw [hp, hq]; rfl)
      have d1 := (gt_eq0 hf).trans hp
      have d2 := eq_is hf isF_zero hq
      go_enter Try.func173, Try.ntmps173
      go_wp2_with (first | ((at_builtin; refine append1_f (W := U) (v := v) (xs := xs) (y := sgF z) finfo ?_ ?_ ?_ ((by omega)) _ _ rfl rfl rfl ?_ rfl ?_; (focus (refine Grew.trans gw ?_; (show Grew _ _; repeat (first | (with_reducible exact Grew.refl _) | (with_reducible assumption) | (with_reducible refine Grew.ext ?_ _ _) | (with_reducible refine Grew.alloc ?_ _) | ((with_reducible refine Grew.setCell ?_ ?_ _); rotate_left; (focus (dsimp only; first | omega | (simp only [size_ext, World.size_alloc, Array.size_append]; omega)))) | (with_reducible refine Grew.drewN ?_ _) | (with_reducible refine Grew.drew ?_))))); (focus (refine OwnF.grew (w := w) ?_ ?_; (focus (with_reducible assumption)); (focus (show Grew _ _; repeat (first | (with_reducible exact Grew.refl _) | (with_reducible assumption) | (with_reducible refine Grew.ext ?_ _ _) | (with_reducible refine Grew.alloc ?_ _) | ((with_reducible refine Grew.setCell ?_ ?_ _); rotate_left; (focus (dsimp only; first | omega | (simp only [size_ext, World.size_alloc, Array.size_append]; omega)))) | (with_reducible refine Grew.drewN ?_ _) | (with_reducible refine Grew.drew ?_)))))); (focus ((rw [Q.out]; exact C2.out))); (focus (first | rfl | (simp only [size_ext, World.size_alloc, Array.size_append]; done) | (simp only [size_ext, World.size_alloc, Array.size_append]; omega))); intro v oo nn ho hn); obtain ⟨a9, c9, rfl⟩ := ho.length))
      go_end0
      refine ⟨rfl, _, _, _, (by rw [← HU.out, setCell_upd]; rfl), ?_⟩
      rw [HZ.out, show (xs ++ [sgF z]).length = xs.length + 1 by simp] at ho
      refine ownF_same ho fun k hk => ?_
      have hne : k ≠ T := by have := HZ.out; omega
      rw [← HU.out, setCell_upd]
      exact upd_other hne
    · have Q := hid (show sgF z = 4607182418800017408 by unfold sgF; rw [hp, hq]; rfl)
      have d1 := (gt_eq0 hf).trans hp
      have d2 := eq_is hf isF_zero hq
      go_enter Try.func173, Try.ntmps173
      go_wp2_with (first | ((at_builtin; refine append1_f (W := U) (v := v) (xs := xs) (y := sgF z) finfo ?_ ?_ ?_ ((by omega)) _ _ rfl rfl rfl ?_ rfl ?_; (focus (refine Grew.trans gw ?_; (show Grew _ _; repeat (first | (with_reducible exact Grew.refl _) | (with_reducible assumption) | (with_reducible refine Grew.ext ?_ _ _) | (with_reducible refine Grew.alloc ?_ _) | ((with_reducible refine Grew.setCell ?_ ?_ _); rotate_left; (focus (dsimp only; first | omega | (simp only [size_ext, World.size_alloc, Array.size_append]; omega)))) | (with_reducible refine Grew.drewN ?_ _) | (with_reducible refine Grew.drew ?_))))); (focus (refine OwnF.grew (w := w) ?_ ?_; (focus (with_reducible assumption)); (focus (show Grew _ _; repeat (first | (with_reducible exact Grew.refl _) | (with_reducible assumption) | (with_reducible refine Grew.ext ?_ _ _) | (with_reducible refine Grew.alloc ?_ _) | ((with_reducible refine Grew.setCell ?_ ?_ _); rotate_left; (focus (dsimp only; first | omega | (simp only [size_ext, World.size_alloc, Array.size_append]; omega)))) | (with_reducible refine Grew.drewN ?_ _) | (with_reducible refine Grew.drew ?_)))))); (focus ((rw [Q.out]; exact C1.out))); (focus (first | rfl | (simp only [size_ext, World.size_alloc, Array.size_append]; done) | (simp only [size_ext, World.size_alloc, Array.size_append]; omega))); intro v oo nn ho hn); obtain ⟨a9, c9, rfl⟩ := ho.length))
      go_end0
      refine ⟨rfl, _, _, _, (by rw [← HU.out, setCell_upd]; rfl), ?_⟩
      rw [HZ.out, show (xs ++ [sgF z]).length = xs.length + 1 by simp] at ho
      refine ownF_same ho fun k hk => ?_
      have hne : k ≠ T := by have := HZ.out; omega
      rw [← HU.out, setCell_upd]
      exact upd_other hne
  · cases hq : feq z 0
    · have Q := hid (show sgF z = 4607182418800017408 by unfold sgF; rw [hp, hq]; rfl)
      have d1 := (gt_eq0 hf).trans hp
      have d2 := eq_is hf isF_zero hq
      go_enter Try.func173, Try.ntmps173
      go_wp2_with (first | ((at_builtin; refine append1_f (W := U) (v := v) (xs := xs) (y := sgF z) finfo ?_ ?_ ?_ ((by omega)) _ _ rfl rfl rfl ?_ rfl ?_; (focus (refine Grew.trans gw ?_; (show Grew _ _; repeat (first | (with_reducible exact Grew.refl _) | (with_reducible assumption) | (with_reducible refine Grew.ext ?_ _ _) | (with_reducible refine Grew.alloc ?_ _) | ((with_reducible refine Grew.setCell ?_ ?_ _); rotate_left; (focus (dsimp only; first | omega | (simp only [size_ext, World.size_alloc, Array.size_append]; omega)))) | (with_reducible refine Grew.drewN ?_ _) | (with_reducible refine Grew.drew ?_))))); (focus (refine OwnF.grew (w := w) ?_ ?_; (focus (with_reducible assumption)); (focus (show Grew _ _; repeat (first | (with_reducible exact Grew.refl _) | (with_reducible assumption) | (with_reducible refine Grew.ext ?_ _ _) | (with_reducible refine Grew.alloc ?_ _) | ((with_reducible refine Grew.setCell ?_ ?_ _); rotate_left; (focus (dsimp only; first | omega | (simp only [size_ext, World.size_alloc, Array.size_append]; omega)))) | (with_reducible refine Grew.drewN ?_ _) | (with_reducible refine Grew.drew ?_)))))); (focus ((rw [Q.out]; exact C1.out))); (focus (first | rfl | (simp only [size_ext, World.size_alloc, Array.size_append]; done) | (simp only [size_ext, World.size_alloc, Array.size_append]; omega))); intro v oo nn ho hn); obtain ⟨a9, c9, rfl⟩ := ho.length))
      go_end0
      refine ⟨rfl, _, _, _, (by rw [← HU.out, setCell_upd]; rfl), ?_⟩
      rw [HZ.out, show (xs ++ [sgF z]).length = xs.length + 1 by simp] at ho
      refine ownF_same ho fun k hk => ?_
      have hne : k ≠ T := by have := HZ.out; omega
      rw [← HU.out, setCell_upd]
      exact upd_other hne
    · have Q := hid (show sgF z = 4607182418800017408 by unfold sgF; rw [hp, hq]; rfl)
      have d1 := (gt_eq0 hf).trans hp
      have d2 := eq_is hf isF_zero hq
      go_enter Try.func173, Try.ntmps173
      go_wp2_with (first | ((at_builtin; refine append1_f (W := U) (v := v) (xs := xs) (y := sgF z) finfo ?_ ?_ ?_ ((by omega)) _ _ rfl rfl rfl ?_ rfl ?_; (focus (refine Grew.trans gw ?_; (show Grew _ _; repeat (first | (with_reducible exact Grew.refl _) | (with_reducible assumption) | (with_reducible refine Grew.ext ?_ _ _) | (with_reducible refine Grew.alloc ?_ _) | ((with_reducible refine Grew.setCell ?_ ?_ _); rotate_left; (focus (dsimp only; first | omega | (simp only [size_ext, World.size_alloc, Array.size_append]; omega)))) | (with_reducible refine Grew.drewN ?_ _) | (with_reducible refine Grew.drew ?_))))); (focus (refine OwnF.grew (w := w) ?_ ?_; (focus (with_reducible assumption)); (focus (show Grew _ _; repeat (first | (with_reducible exact Grew.refl _) | (with_reducible assumption) | (with_reducible refine Grew.ext ?_ _ _) | (with_reducible refine Grew.alloc ?_ _) | ((with_reducible refine Grew.setCell ?_ ?_ _); rotate_left; (focus (dsimp only; first | omega | (simp only [size_ext, World.size_alloc, Array.size_append]; omega)))) | (with_reducible refine Grew.drewN ?_ _) | (with_reducible refine Grew.drew ?_)))))); (focus ((rw [Q.out]; exact C1.out))); (focus (first | rfl | (simp only [size_ext, World.size_alloc, Array.size_append]; done) | (simp only [size_ext, World.size_alloc, Array.size_append]; omega))); intro v oo nn ho hn); obtain ⟨a9, c9, rfl⟩ := ho.length))
      go_end0
      refine ⟨rfl, _, _, _, (by rw [← HU.out, setCell_upd]; rfl), ?_⟩
      rw [HZ.out, show (xs ++ [sgF z]).length = xs.length + 1 by simp] at ho
      refine ownF_same ho fun k hk => ?_
      have hne : k ≠ T := by have := HZ.out; omega
      rw [← HU.out, setCell_upd]
      exact upd_other hne
def sgTo (x : VecM) (i : Nat) : List Nat := (List.range i).map fun r => sgF (x.num r)
theorem sgTo_succ (x : VecM) (i : Nat) : sgTo x (i + 1) = sgTo x i ++ [sgF (x.num i)] := by unfold sgTo; rw [List.range_succ, List.map_append]; rfl
/-- The state of axes.Sign: the captured list, as long as it has got. -/
def RW2 (x : VecM) (T : Nat) (W1 : World) (i : Nat) (w' : World) : Prop := ∃ v o n, w' = ext (upd W1 T #[v]) o n ∧ OwnF 22 w' W1.heap.size v (sgTo x i)
theorem upd_self {w : World} {T : Nat} {c : Array Value} {e : TypeId} {f : Nat × Nat} (h : w.heap[T]? = some (.cells c e f)) : upd w T c = w := by
  unfold upd
  cases w with | mk hp tp dr os' out => ?_
  simp only [World.mk.injEq, true_and, and_true] at *
  apply Array.ext_getElem?
  intro i
  rw [Array.getElem?_modify]
  split
  · rename_i he; subst he; rw [h]; rfl
  · rfl
theorem upd_block {w : World} {T : Nat} {c c' : Array Value} {e : TypeId} {f : Nat × Nat} (h : w.heap[T]? = some (.cells c e f)) : (upd w T c').heap[T]? = some (.cells c' e f) := by
  unfold upd
  simp only [Array.getElem?_modify, if_true, h]
  rfl
set_option maxRecDepth 100000 in
set_option maxHeartbeats 1000000 in
/-- axes.Sign. -/
theorem sign_any (x : VecM) (D : Value) (w : World) (hD : FS w D x.ws) (hx : x.right = true) (hwf : x.wf) (hl : x.ws.length ≤ 1000000) :
   Calls Try.prog 97 #[.agg #[D, .int .i64 x.off, .int .i64 x.n, .int .i64 x.inc]] w (fun e w' => ∃ v, e = .returned (.tuple #[v, .int .i64 0]) ∧ FS w' v (sgTo x x.n.toNat) ∧ ∃ o n, w' = ext w o n) := by
  obtain ⟨aD, cD, rfl⟩ := hD.shape
  have hnl := VecM.right_nle hx hl
  have hrt : ∀ w', FS w' (.slice aD x.ws.length cD) x.ws → Calls Try.prog 135 #[.agg #[.slice aD x.ws.length cD, .int .i64 x.off, .int .i64 x.n, .int .i64 x.inc]] w' (fun e w2 => e = .returned (.bool true) ∧ ∃ o n, w2 = ext w' o n) := fun w' h => by
    have := right_any x _ w' h hwf; rw [hx] at this; exact this
  have hEach : ∀ (T : Nat) (w' : World), Grew w w' → w.heap.size ≤ T → w'.heap[T]? = some (.cells #[.slice none 0 0] 24 (0, 0)) →
      Calls Try.prog 117 #[.agg #[.slice aD x.ws.length cD, .int .i64 x.off, .int .i64 x.n, .int .i64 x.inc], .func (.func 173) #[] #[.pointer (some ⟨T, 0, none⟩)]] w' (fun e w2 => e = .returned (.tuple #[]) ∧ Grew w w2 ∧ w'.heap.size ≤ w2.heap.size ∧ ∃ v, FS w2 v (sgTo x x.n.toNat) ∧ (∀ i, w2.cell? ⟨T, i, none⟩ = (#[v] : Array Value)[i]?) ∧ ∀ b i, b < w.heap.size + 1 → b ≠ T → b < w'.heap.size → w2.cell? ⟨b, i, none⟩ = w'.cell? ⟨b, i, none⟩) := fun T w' h1 h2 h3 => by
    have hTlt := some_lt' h3
    obtain ⟨gb, go, hA⟩ : ∃ gb go, 0 < x.n → aD = some ⟨gb, go, none⟩ := by
      by_cases h : 0 < x.n
      · obtain ⟨gb, go, e, _⟩ := hD.at.2 (by have := VecM.right_place hx (i := 0) (by omega); omega)
        exact ⟨gb, go, fun _ => e⟩
      · exact ⟨0, 0, fun h' => absurd h' h⟩
    have hBut : ∀ W1 i w2, Grew w' W1 → RW2 x T W1 i w2 → But W1 [T] w2 := fun W1 i w2 hg hR => by
      obtain ⟨v, o, n, rfl, _⟩ := hR
      exact ((But.refl W1 [T]).upd (.inl (by simp)) _).grew ⟨_, _, rfl⟩
    refine (eachSign x aD gb go cD _ (fun W1 i w2 => Grew w' W1 ∧ RW2 x T W1 i w2) [T] w' hx hl hA ?_ ?_ (by simp; exact hTlt) ?_).mono fun e w2 hh => ?_
    · intro W1 hg
      refine ⟨hg, .slice none 0 0, #[], W1.drawn, ?_, by simpa [sgTo] using OwnF.nil _ _ _⟩
      rw [upd_self (by rw [hg.below.block T hTlt]; exact h3)]; exact ext_zero.symm
    · intro W1 i w2 hR
      exact hBut W1 i w2 hR.1 hR.2
    · intro W1 i w2 hg hi hR
      obtain ⟨_, hR⟩ := hR
      have hB := hBut W1 i w2 hg hR
      obtain ⟨v, o, n, hw2, hown⟩ := hR
      have hb1 : W1.heap[T]? = some (.cells #[.slice none 0 0] 24 (0, 0)) := by rw [hg.below.block T hTlt]; exact h3
      have hb2 := upd_block (c' := #[v]) hb1
      have gall : Grew w w2 := hB.grew0 (Grew.trans h1 hg) (by simp; exact h2)
      have hDw := hD.grew gall
      rw [hA (by omega)] at hDw
      obtain ⟨blk, o', e', _, hc⟩ := hDw.at.2 (by have := VecM.right_place hx hi; omega)
      cases e'
      obtain ⟨b, hb, hf⟩ := hc (x.place i) (VecM.place_lt hx hi)
      refine (sgcl_any i (go + x.place i) gb T b (x.num i) v (sgTo x i) W1 w2 ⟨o, n, hw2⟩ hown (some_lt' hb1) (fun i => cell_of_block hb2) hb hf (fun i => by unfold World.frozen?; simp [hb2]) (by simp [sgTo]; omega)).mono fun e w3 hh => ?_
      obtain ⟨e1, v', o2, n2, e2, e3⟩ := hh
      exact ⟨e1, hg, v', o2, n2, e2, by rw [sgTo_succ]; exact e3⟩
    · obtain ⟨e1, W1, g1, _, hR⟩ := hh
      have hB := hBut W1 _ w2 g1 hR
      obtain ⟨v, o, n, hw2, hown⟩ := hR
      have hb1 : W1.heap[T]? = some (.cells #[.slice none 0 0] 24 (0, 0)) := by rw [g1.below.block T hTlt]; exact h3
      have hb2 := upd_block (c' := #[v]) hb1
      have z1 := g1.below.size
      refine ⟨e1, hB.grew0 (Grew.trans h1 g1) (by simp; exact h2), by have := hB.size; omega, v, hown.fs (by simp [sgTo]; omega), fun i => ?_, fun b i h4 h5 h6 => ?_⟩
      · rw [hw2, cell_ext (by rw [size_upd]; omega)]; exact cell_of_block hb2
      · exact (hB.cell (by omega) (by simpa using h5)).trans (g1.cell h6)
  clear hx hwf
  have hmf := hmf
  go_enter Try.func97, Try.ntmps97
  refine seq_stop ?_
  go_wp2
  refine stop_go (fun W hW => ?_)
  have s1 : w.heap.size < W.heap.size := by rw [hW]; simp only [World.size_alloc]; omega
  have b1 : ∀ i, W.cell? ⟨w.heap.size, i, none⟩ = (#[.slice aD x.ws.length cD, .int .i64 x.off, .int .i64 x.n, .int .i64 x.inc] : Array Value)[i]? := by intro i; rw [hW]; go_simp
  have g0 : Grew w W := by rw [hW]; exact (Grew.refl _).alloc _
  clear hW
  have hDW := hD.grew g0
  have zW := g0.below.size
  go_wp2_with (first | (go_at_call 135; ((with_reducible refine (hrt _ ?_).mono ?_); (focus (first | (with_reducible assumption) | (with_reducible refine FS.ext ?_ _ _; with_reducible assumption) | (with_reducible refine IS.ext ?_ _ _; with_reducible assumption) | (refine hDu _ ?_; with_reducible assumption) | (refine hOu _ ?_; with_reducible assumption) | (refine hDa _ ?_; with_reducible assumption) | (refine hDb _ ?_; with_reducible assumption) | (refine hDc _ ?_; with_reducible assumption) | (refine hDd _ ?_; with_reducible assumption) | (refine FW.fs ?_ (by omega) _; with_reducible assumption) | (refine WS.fs ?_; with_reducible assumption) | (refine FW.fs ?_ (by omega) _; assumption) | omega | assumption)); rintro e w1 ⟨rfl, oa, na, rfl⟩)))
  refine name_call (fun V hV => ?_)
  have hblk : V.heap[W.heap.size + oa.size]? = some (.cells #[.slice none 0 0] 24 (0, 0)) := by
    rw [← hV]
    rw [show W.heap.size + oa.size = (ext W oa na).heap.size by rw [size_ext]]
    generalize ext W oa na = Z
    show (Z.heap.push _)[Z.heap.size]? = _
    simp
  have gV : Grew w V := by rw [← hV]; exact Grew.trans g0 (by (show Grew _ _; repeat (first | (with_reducible exact Grew.refl _) | (with_reducible assumption) | (with_reducible refine Grew.ext ?_ _ _) | (with_reducible refine Grew.alloc ?_ _) | ((with_reducible refine Grew.setCell ?_ ?_ _); rotate_left; (focus (dsimp only; first | omega | (simp only [size_ext, World.size_alloc, Array.size_append]; omega)))) | (with_reducible refine Grew.drewN ?_ _) | (with_reducible refine Grew.drew ?_))))
  have hc := hEach _ V gV (by omega) hblk
  obtain ⟨T, hT⟩ : ∃ T, T = W.heap.size + oa.size := ⟨_, rfl⟩
  rw [← hT] at hc
  simp only [← hT]
  clear hEach hV hblk hT
  refine hc.mono ?_
  rintro e w1 ⟨rfl, g1, z1, v, hv, hc1, _⟩
  go_wp2
  refine bodyPost_ret (v := .tuple #[v, .int .i64 0]) (by simp [results, Try.results97, go_sem, *]) rfl ?_
  exact ⟨v, rfl, hv, g1⟩
set_option maxRecDepth 100000 in
set_option maxHeartbeats 1000000 in
/-- axes.Sign of what is no vector. -/
theorem sign_no (x : VecM) (D : Value) (w : World) (hD : FS w D x.ws) (hx : x.right = false) (hwf : x.wf) :
   Calls Try.prog 97 #[.agg #[D, .int .i64 x.off, .int .i64 x.n, .int .i64 x.inc]] w (fun e w' => e = .returned (.tuple #[.slice none 0 0, .int .i64 1]) ∧ ∃ o n, w' = ext w o n) := by
  have hrt : ∀ w', FS w' D x.ws → Calls Try.prog 135 #[.agg #[D, .int .i64 x.off, .int .i64 x.n, .int .i64 x.inc]] w' (fun e w2 => e = .returned (.bool false) ∧ ∃ o n, w2 = ext w' o n) := fun w' h => by
    have := right_any x _ w' h hwf; rw [hx] at this; exact this
  clear hx hwf
  go_enter Try.func97, Try.ntmps97
  refine seq_stop ?_
  go_wp2
  refine stop_go (fun W hW => ?_)
  have s1 : w.heap.size < W.heap.size := by rw [hW]; simp only [World.size_alloc]; omega
  have b1 : ∀ i, W.cell? ⟨w.heap.size, i, none⟩ = (#[D, .int .i64 x.off, .int .i64 x.n, .int .i64 x.inc] : Array Value)[i]? := by intro i; rw [hW]; go_simp
  have g0 : Grew w W := by rw [hW]; exact (Grew.refl _).alloc _
  clear hW
  have hDW := hD.grew g0
  go_wp2_with (first | (go_at_call 135; ((with_reducible refine (hrt _ ?_).mono ?_); (focus (first | (with_reducible assumption) | (with_reducible refine FS.ext ?_ _ _; with_reducible assumption) | (with_reducible refine IS.ext ?_ _ _; with_reducible assumption) | (refine hDu _ ?_; with_reducible assumption) | (refine hOu _ ?_; with_reducible assumption) | (refine hDa _ ?_; with_reducible assumption) | (refine hDb _ ?_; with_reducible assumption) | (refine hDc _ ?_; with_reducible assumption) | (refine hDd _ ?_; with_reducible assumption) | (refine FW.fs ?_ (by omega) _; with_reducible assumption) | (refine WS.fs ?_; with_reducible assumption) | (refine FW.fs ?_ (by omega) _; assumption) | omega | assumption)); rintro e w1 ⟨rfl, oa, na, rfl⟩)))
  refine bodyPost_ret (v := .tuple #[.slice none 0 0, .int .i64 1]) (by simp [results, Try.results97, go_sem, *]) rfl ?_
  exact ⟨rfl, by (show Grew _ _; repeat (first | (with_reducible exact Grew.refl _) | (with_reducible assumption) | (with_reducible refine Grew.ext ?_ _ _) | (with_reducible refine Grew.alloc ?_ _) | ((with_reducible refine Grew.setCell ?_ ?_ _); rotate_left; (focus (dsimp only; first | omega | (simp only [size_ext, World.size_alloc, Array.size_append]; omega)))) | (with_reducible refine Grew.drewN ?_ _) | (with_reducible refine Grew.drew ?_)))⟩
end Go.Proofs.Ytcmggfpcbijcjaa
end
section
/-
  A region that draws, and where several operations act in no fixed order: a tree of orders.
-/
set_option linter.unusedSimpArgs false
set_option linter.unusedVariables false
namespace Sedge
open Go Go.RowKit
/-- A tree of orders: step k i t (kind 0: the same in every world of the class; 3: in every world); alt i t m: either i acts, then t; or one of m; stop: no more. -/
inductive OT where
  | done
  | step (k i : Nat) (t : OT)
  | alt (i : Nat) (t m : OT)
  | stop
def OT.alts : OT → List Nat
  | .alt i _ m => i :: m.alts
  | _ => []
def OT.fuel : OT → Nat
  | .done => 0
  | .step _ _ t => t.fuel + 1
  | .alt _ t _ => t.fuel + 1
  | .stop => 0
section
variable {P : Program} {ops : Array Oper} {Q : Exit → Act → World → Prop} {S : World → Prop}
def wpF (P : Program) (ops : Array Oper) (Q : Exit → Act → World → Prop) (S : World → Prop) : OT → Act → World → Prop
  | .done, a, w => Q .normal a w
  | .stop, _, _ => True
  | .step k i t, a, w =>
    match ops[i]? with
    | none => False
    | some o =>
      if Region.wanted o (yielded ops a.tmps) = true then
        ∃ v, (∀ w', (k = 0 → S w') → (execOp a.eval o).run P w' = .ok (.value v) w') ∧ wpF P ops Q S t (a.put o.dst v) w
      else wpF P ops Q S t (a.put o.dst undef) w
  | .alt i t m, a, w =>
    (match ops[i]? with
    | none => False
    | some o => o.guard = none ∧ o.wp P a w (fun a' w' => S w' ∧ wpF P ops Q S t a' w') Q) ∧ wpF P ops Q S m a w
def okF (ops : Array Oper) : OT → Array Bool → Bool → Bool
  | .done, listed, _ => (Region.ready .any ops listed).isEmpty
  | .stop, _, inner => inner
  | .step _ i t, listed, inner => !inner && (Region.ready .any ops listed).contains i && Region.free .any ops listed i && okF ops t (listed.setIfInBounds i true) false
  | .alt i t m, listed, inner => (inner || Region.ready .any ops listed == i :: m.alts) && okF ops t (listed.setIfInBounds i true) false && t.fuel == (match m with | .alt _ t' _ => t'.fuel | _ => t.fuel) && okF ops m listed true
theorem wanted_none' {o : Oper} {y : Nat → Option Bool} (hg : o.guard = none) : Region.wanted o y = true := by unfold Region.wanted; rw [hg]
theorem anyF (hsel : Region.noSelect ops = true) (hQ : ∀ c a d v w, Q (.panic c) (Act.put a d v) w → Q (.panic c) a w) : ∀ (t : OT),
    (∀ listed a w, okF ops t listed false = true → S w → wpF P ops Q S t a w → AnyT P .any ops Q S (fun _ => false) t.fuel listed a w) ∧
    (∀ listed a w n, okF ops t listed true = true → S w → wpF P ops Q S t a w → (∀ i t' m, t = .alt i t' m → t'.fuel = n) →
      ∀ j ∈ t.alts, wpOp P ops Q j (fun a' w' => (false = false → S w → S w') ∧ AnyT P .any ops Q S (fun _ => false) n (listed.setIfInBounds j true) a' w') a w)
  | .done => ⟨fun listed a w hok _ h => ⟨by simpa [okF] using hok, h⟩, fun _ _ _ _ _ _ _ _ j hj => by cases hj⟩
  | .stop => ⟨fun listed a w hok _ _ => by simp [okF] at hok, fun _ _ _ _ _ _ _ _ j hj => by cases hj⟩
  | .step k i t => by
    refine ⟨fun listed a w hok hS h => ?_, fun _ _ _ _ _ _ _ _ j hj => by cases hj⟩
    simp only [okF, Bool.and_eq_true, Bool.not_false, true_and] at hok
    obtain ⟨⟨h1, h2⟩, h3⟩ := hok
    unfold wpF at h
    cases ho : ops[i]? with
    | none => rw [ho] at h; exact h.elim
    | some o =>
      rw [ho] at h
      simp only at h
      by_cases hw : Region.wanted o (yielded ops a.tmps) = true
      · rw [if_pos hw] at h
        obtain ⟨v, hv, hn⟩ := h
        exact anyT_first (tail := fun _ => false) ho hsel hQ rfl (fun _ _ _ h => by cases h) t.fuel listed a w (Region.free_spec ho h2) (by simpa using h1) (.inl ⟨hw, fun w' hw' => hv w' fun _ => hw'⟩) hS ((anyF hsel hQ t).1 _ _ _ h3 hS hn)
      · rw [if_neg hw] at h
        exact anyT_first (tail := fun _ => false) ho hsel hQ rfl (fun _ _ _ h => by cases h) t.fuel listed a w (Region.free_spec ho h2) (by simpa using h1) (.inr ⟨by simpa using hw, rfl⟩) hS ((anyF hsel hQ t).1 _ _ _ h3 hS h)
  | .alt i t m => by
    have two : ∀ listed a w n, okF ops t (listed.setIfInBounds i true) false = true → okF ops m listed true = true → t.fuel = (match m with | .alt _ t' _ => t'.fuel | _ => t.fuel) → S w → wpF P ops Q S (.alt i t m) a w → t.fuel = n →
        ∀ j ∈ (OT.alt i t m).alts, wpOp P ops Q j (fun a' w' => (false = false → S w → S w') ∧ AnyT P .any ops Q S (fun _ => false) n (listed.setIfInBounds j true) a' w') a w := by
      intro listed a w n h1 h2 h3 hS h hn j hj
      unfold wpF at h
      obtain ⟨h4, h5⟩ := h
      rcases List.mem_cons.1 hj with rfl | hj
      · cases ho : ops[j]? with
        | none => rw [ho] at h4; exact h4.elim
        | some o =>
          rw [ho] at h4
          obtain ⟨hg, hwp⟩ := h4
          unfold wpOp
          rw [ho]
          simp only [wanted_none' hg, if_true]
          exact .inl (Oper.wp_mono (fun a' w' h' => ⟨fun _ _ => h'.1, by rw [← hn]; exact (anyF hsel hQ t).1 _ _ _ h1 h'.1 h'.2⟩) hwp)
      · refine (anyF hsel hQ m).2 listed a w n h2 hS h5 (fun i' t' m' hm => ?_) j hj
        subst hm
        simp only at h3
        omega
    refine ⟨fun listed a w hok hS h => ?_, fun listed a w n hok hS h hn => ?_⟩
    · simp only [okF, Bool.false_or, Bool.and_eq_true, beq_iff_eq] at hok
      obtain ⟨⟨⟨h1, h2⟩, h3⟩, h4⟩ := hok
      show AnyT P .any ops Q S _ (t.fuel + 1) listed a w
      refine ⟨fun h0 => (by rw [h1] at h0; cases h0), fun j hj => ?_⟩
      rw [h1] at hj
      exact two listed a w t.fuel h2 h4 h3 hS h rfl j hj
    · simp only [okF, Bool.true_or, Bool.true_and, Bool.and_eq_true, beq_iff_eq] at hok
      obtain ⟨⟨h2, h3⟩, h4⟩ := hok
      exact two listed a w n h2 h4 h3 hS h (hn i t m rfl)
theorem wp_region_F {id : Nat} {a : Act} {w : World} {l : List Oper} (S : World → Prop) (t : OT) (hm : P.follows .mixedOrders = true)
    (hB : (Region.noSelect l.toArray && okF l.toArray t (Array.replicate l.length false) false && t.fuel == l.length) = true)
    (hQ : ∀ c t df w, Q (.panic c) ⟨t, df⟩ w → ∀ t', Q (.panic c) ⟨t', df⟩ w) (hS : S w.drew)
    (h : wpF P l.toArray Q S t a w.drew) : (Code.region id l.toArray true).wp P Q a w := by
  simp only [Bool.and_eq_true, beq_iff_eq] at hB
  refine wp_region_any hm (any_of_anyT (S := S) (tail := fun _ => false) _ _ _ _ ?_)
  have hQ' : ∀ c a d v w, Q (.panic c) (Act.put a d v) w → Q (.panic c) a w := fun c a d v w h => by
    cases d with
    | none => exact h
    | some d => exact hQ c _ _ w h _
  have := (anyF (P := P) (Q := Q) (S := S) hB.1.1 hQ' t).1 (Array.replicate l.length false) a w.drew hB.1.2 hS h
  rw [hB.2] at this
  simpa using this
variable {l : List Oper}
theorem wpF_id {r : OT} {a : Act} {w : World} (h : wpF P ops Q S r a w) : wpF P ops Q S r a w := h
theorem wpF_done {a : Act} {w : World} (h : Q .normal a w) : wpF P ops Q S .done a w := h
theorem wpF_stop {a : Act} {w : World} : wpF P ops Q S .stop a w := trivial
theorem wpF_take {i : Nat} {o : Oper} {r : OT} {a : Act} {w : World} {v : Value} (ho : nth l i = some o) (hg : o.guard = none)
    (hv : ∀ w', S w' → (execOp a.eval o).run P w' = .ok (.value v) w')
    (h : wpF P l.toArray Q S r (a.put o.dst v) w) : wpF P l.toArray Q S (.step 0 i r) a w := by
  have hw := wanted_none (y := yielded l.toArray a.tmps) hg
  unfold wpF; rw [← nth_eq, ho]; simp only [hw, if_true]; exact ⟨v, fun w' h0 => hv w' (by simpa using h0), h⟩
theorem wpF_alt {i : Nat} {o : Oper} {r m : OT} {a : Act} {w : World} (ho : nth l i = some o) (hg : o.guard = none)
    (h : ∀ K : Act → World → Prop, (∀ a w, S w ∧ wpF P l.toArray Q S r a w → K a w) → o.wp P a w K Q) (hm : wpF P l.toArray Q S m a w) : wpF P l.toArray Q S (.alt i r m) a w := by
  unfold wpF; rw [← nth_eq, ho]; exact ⟨⟨hg, h _ fun _ _ h => h⟩, hm⟩
theorem wpF_go {r : OT} {a : Act} {w : World} (hS : S w) (h : wpF P ops Q S r a w) : S w ∧ wpF P ops Q S r a w := ⟨hS, h⟩
attribute [irreducible] wpF
end
end Sedge
end
section
/-
  Contracts: ref01.Scale; resid.Bounds and its reference.
-/
set_option linter.unusedSimpArgs false
set_option linter.unusedVariables false
open Go Go.RowKit Sedge Ieee
namespace Go.Proofs.Ytcmggfpcbijcjaa
theorem word_zero_of {b : Nat} (hb : b < 2 ^ 64) (hk : pKind b = 0) (hm : pMag b = 0) : b = D64.word (pNeg b) 0 := by
  have p63 : (2:Nat) ^ 63 = 9223372036854775808 := by decide
  have p64 : (2:Nat) ^ 64 = 18446744073709551616 := by decide
  have hSW : SW = 9223372036854775808 := by decide +kernel
  have hBN : BN = 4503599627370496 := by decide +kernel
  have he : expo b = 0 := by
    by_cases h : expo b = 0
    · exact h
    · exfalso
      unfold pMag at hm
      unfold pKind at hk
      rw [hBN] at hm
      by_cases h2 : expo b = 2047
      · rw [if_pos h2] at hk
        split at hk <;> simp at hk
      · simp [h, h2] at hm
  have hf : frac b = 0 := by
    unfold pMag at hm
    simp [he] at hm
    exact hm
  rw [word_sN, p63]
  unfold pNeg sN
  unfold expo frac at *
  rw [hBN] at *
  rw [hSW]
  rw [p64] at hb
  by_cases h : b / 9223372036854775808 = 1
  · simp [h]; omega
  · simp [h]; omega
set_option maxRecDepth 100000 in
set_option maxHeartbeats 1000000 in
/-- straightedgeref01.Scale. -/
theorem rscale_any (b x : Nat) (k : Int) (w : World) (hx : IsF b x) : Calls Try.prog 165 #[.float .f64 b, .int .i64 k] w (fun e w' => ∃ r, e = .returned (.float .f64 r) ∧ IsF r (fscale x k) ∧ w = w') := by
  have hb : b < 18446744073709551616 := hx.1
  by_cases hk : pKind b = 0
  · have e := isF_of_kind hx (by omega)
    subst e
    have hm := pMag_lt b
    have he := pExp_ge b hk
    have hmk : ∀ w', Calls Try.prog 199 #[.bool (pNeg b), .int .u64 (pMag b), .int .i64 (pExp b + kcl k)] w' (fun e w2 => ∃ r, e = .returned (.float .f64 r) ∧ IsF r (fscale b k) ∧ w' = w2) := fun w' => by
      refine (make_any (pNeg b) (pMag b) _ w' hm (by unfold kcl; omega)).mono fun e w2 hh => ?_
      obtain ⟨r, rfl, h1, h2⟩ := hh
      refine ⟨r, rfl, ?_, h2⟩
      have e : mkF (pNeg b) (pMag b) (pExp b + kcl k) = fscale b k := by
        unfold mkF fscale
        by_cases h0 : pMag b = 0
        · rw [if_pos h0, if_neg (by simp [h0])]; exact (word_zero_of hx.1 hk h0).symm
        · rw [if_neg h0, if_pos ⟨hk, h0⟩]
      rwa [e] at h1
    have d0 : ((pKind b : Int) == 0) = true := by rw [hk]; rfl
    have d0' : decide ((pKind b : Int) = 0) = true := by rw [hk]; rfl
    clear hm
    have Hk := hid hk
    clear hk hx
    by_cases c1 : k < -5000
    · have e2 : kcl k = -5000 := by unfold kcl; omega
      have d1 : decide (5000 < k) = false := by simp; omega
      have d2 : decide (k < -5000) = true := by simpa using c1
      rw [e2] at hmk
      have r1 : IntKind.i64.wrap (pExp b + (-5000)) = pExp b + (-5000) := IntWalk.i64_in _ (by omega)
      go_enter Try.func165, Try.ntmps165
      go_wp2_with (first | (go_at_call 116; ((with_reducible refine (parts_any b _ hb).mono ?_); rintro e w1 ⟨rfl, rfl⟩)) | (go_at_call 199; ((with_reducible refine (hmk _).mono ?_); rintro e w1 ⟨r, rfl, hr, rfl⟩)))
      go_ret
      exact ⟨r, rfl, hr, rfl⟩
    · by_cases c2 : 5000 < k
      · have e2 : kcl k = 5000 := by unfold kcl; omega
        have d1 : decide (5000 < k) = true := by simpa using c2
        rw [e2] at hmk
        have r1 : IntKind.i64.wrap (pExp b + 5000) = pExp b + 5000 := IntWalk.i64_in _ (by omega)
        go_enter Try.func165, Try.ntmps165
        go_wp2_with (first | (go_at_call 116; ((with_reducible refine (parts_any b _ hb).mono ?_); rintro e w1 ⟨rfl, rfl⟩)) | (go_at_call 199; ((with_reducible refine (hmk _).mono ?_); rintro e w1 ⟨r, rfl, hr, rfl⟩)))
        go_ret
        exact ⟨r, rfl, hr, rfl⟩
      · have e2 : kcl k = k := by unfold kcl; omega
        have d1 : decide (5000 < k) = false := by simpa using c2
        have d2 : decide (k < -5000) = false := by simpa using c1
        rw [e2] at hmk
        have r1 : IntKind.i64.wrap (pExp b + k) = pExp b + k := IntWalk.i64_in _ (by omega)
        go_enter Try.func165, Try.ntmps165
        go_wp2_with (first | (go_at_call 116; ((with_reducible refine (parts_any b _ hb).mono ?_); rintro e w1 ⟨rfl, rfl⟩)) | (go_at_call 199; ((with_reducible refine (hmk _).mono ?_); rintro e w1 ⟨r, rfl, hr, rfl⟩)))
        go_ret
        exact ⟨r, rfl, hr, rfl⟩
  · have d0 : ((pKind b : Int) == 0) = false := by simp; omega
    have d0' : decide ((pKind b : Int) = 0) = false := by simp; omega
    have e2 : fscale x k = x := by
      unfold fscale
      rw [if_neg]
      intro h2
      rw [← hx.kind] at h2
      exact hk h2.1
    rw [e2]
    have HX := hid hx
    clear hk hx e2
    go_enter Try.func165, Try.ntmps165
    go_wp2_with (first | (go_at_call 116; ((with_reducible refine (parts_any b _ hb).mono ?_); rintro e w1 ⟨rfl, rfl⟩)))
    go_ret
    exact ⟨b, rfl, HX.out, rfl⟩
/-- float64(n + 3). -/
def gF (n : Nat) : Nat := floatOfInt .f64 ((n : Int) + 3)
theorem gF_isF (n : Nat) : IsF (gF n) (gF n) := by
  unfold gF floatOfInt FloatKind.nearest FloatKind.encode FloatKind.format Format.write
  exact nearest_isF _ _ _
def bndAt (n x b : Nat) : Nat := fadd (fadd (fabs x) (fmul (fscale (gF n) (-52)) b)) (fscale (gF n) (-1070))
def bndTo (L M : List Nat) (i : Nat) : List Nat := (List.range i).map fun j => bndAt L.length (L.getD j 0) (M.getD j 0)
def bndL (L M : List Nat) : List Nat := bndTo L M L.length
theorem bndTo_succ (L M : List Nat) (i : Nat) : bndTo L M (i + 1) = bndTo L M i ++ [bndAt L.length (L.getD i 0) (M.getD i 0)] := by unfold bndTo; rw [List.range_succ, List.map_append]; rfl
theorem bndTo_length (L M : List Nat) (i : Nat) : (bndTo L M i).length = i := by simp [bndTo]
theorem bndL_length (L M : List Nat) : (bndL L M).length = L.length := bndTo_length _ _ _
set_option maxRecDepth 100000 in
set_option maxHeartbeats 1000000 in
/-- resid.Bounds, where the lists are not of one length. -/
theorem bounds_no (X Y : Value) (L M : List Nat) (w : World) (hX : FS w X L) (hY : FS w Y M) (hne : M.length ≠ L.length) :
   Calls Try.prog 92 #[X, Y] w (fun e w' => e = .returned (.tuple #[.slice none 0 0, .int .i64 3]) ∧ ∃ o n, w' = ext w o n) := by
  obtain ⟨aX, cX, rfl⟩ := hX.shape
  obtain ⟨aY, cY, rfl⟩ := hY.shape
  have d1 : ((M.length : Int) == (L.length : Int)) = false := by simp; omega
  go_enter Try.func92, Try.ntmps92
  go_wp2
  refine bodyPost_ret (v := .tuple #[.slice none 0 0, .int .i64 3]) (by simp [results, Try.results92, go_sem, *]) rfl ?_
  exact ⟨rfl, #[], w.drawn, ext_zero.symm⟩
set_option maxRecDepth 100000 in
set_option maxHeartbeats 2000000 in
/-- resid.Bounds. -/
theorem bounds_any (X Y : Value) (L M : List Nat) (w : World) (hX : FS w X L) (hY : FS w Y M) (hl : L.length ≤ 1000000) (hlm : M.length = L.length) :
   Calls Try.prog 92 #[X, Y] w (fun e w' => ∃ v, e = .returned (.tuple #[v, .int .i64 0]) ∧ OwnF 22 w' w.heap.size v (bndL L M) ∧ ∃ o n, w' = ext w o n) := by
  obtain ⟨aX, cX, rfl⟩ := hX.shape
  obtain ⟨aY, cY, rfl⟩ := hY.shape
  obtain ⟨N, hN⟩ : ∃ N, N = L.length := ⟨_, rfl⟩
  rw [hlm] at hY ⊢
  rw [← hN] at hX hY hl ⊢
  have r1 : IntKind.i64.wrap ((N : Int) + 3) = N + 3 := IntWalk.i64_in _ (by omega)
  obtain ⟨g, hg⟩ : ∃ g, g = gF N := ⟨_, rfl⟩
  have g1 : floatOfInt .f64 ((N : Int) + 3) = g := hg.symm
  have hgF : IsF g g := by rw [hg]; exact gF_isF N
  have HG := hid hg
  have HLM := hid hlm
  have HNN := hid hN
  clear hg hlm hN
  go_enter Try.func92, Try.ntmps92
  go_wp2_with (first | (go_at_call 162; ((with_reducible refine (nscale_any g g (-52) _ hgF).mono ?_); rintro e w1 ⟨s, rfl, hs, o1, n1, rfl⟩)) | (go_at_call 162; ((with_reducible refine (nscale_any g g (-1070) _ hgF).mono ?_); rintro e w1 ⟨t, rfl, ht, o2, n2, rfl⟩)))
  go_loopw [9, 28] (fun v c wr => ∃ (i : Nat) (o : Array Obj) (n : Nat), i ≤ N ∧ c = .int .i64 i ∧ wr = ext w o n ∧ OwnF 22 wr w.heap.size v (bndTo L M i)) (fun _ c _ => N - (intOf c).toNat)
  case atStart => exact ⟨0, _, _, Nat.zero_le _, rfl, rfl, by simpa [bndTo] using OwnF.nil _ _ _⟩
  case round =>
    obtain ⟨i, o3, n3, hi, rfl, hwr, hown⟩ := hrel
    have gw : Grew w wr := ⟨_, _, hwr⟩
    clear hwr
    by_cases hlt : i < N
    · obtain ⟨blk, o, cap', ex, hblk, hc⟩ := (hX.grew gw).open (by rw [← HNN.out]; omega)
      simp only [Value.slice.injEq] at ex
      obtain ⟨rfl, -, rfl⟩ := ex
      obtain ⟨b, hb, hf⟩ := hc i (by rw [← HNN.out]; omega)
      obtain ⟨blk2, o', cap2, ex, hblk2, hc2⟩ := (hY.grew gw).open (by rw [HLM.out, ← HNN.out]; omega)
      simp only [Value.slice.injEq] at ex
      obtain ⟨rfl, -, rfl⟩ := ex
      obtain ⟨b2, hb2, hf2⟩ := hc2 i (by rw [HLM.out, ← HNN.out]; omega)
      have hll : (bndTo L M i).length = i := bndTo_length _ _ _
      clear hc hc2
      go_wp2
      refine wp_region_F (Grew wr) (.step 0 0 (.step 0 2 (.step 0 3 (.step 0 4 (.step 0 5 (.step 0 6 (.alt 1 (.alt 7 (.alt 8 (.step 0 9 .done) .stop) .stop) (.alt 7 (.alt 1 (.alt 8 (.step 0 9 .done) .stop) .stop) .stop)))))))) (by kernel_rfl) (by kernel_rfl) (fun _ _ _ _ h _ => h) (by first | exact ⟨_, _, ext_drew⟩ | exact ⟨_, _, drew_ext0⟩ | (show Grew _ _; repeat (first | (with_reducible exact Grew.refl _) | (with_reducible assumption) | (with_reducible refine Grew.ext ?_ _ _) | (with_reducible refine Grew.alloc ?_ _) | ((with_reducible refine Grew.setCell ?_ ?_ _); rotate_left; (focus (dsimp only; first | omega | (simp only [size_ext, World.size_alloc, Array.size_append]; omega)))) | (with_reducible refine Grew.drewN ?_ _) | (with_reducible refine Grew.drew ?_)))) ?_
      go_wp2_with (first | ((with_reducible refine wpF_id ?_); first | (refine wpF_take (v := ?_) rfl rfl ?_ ?_; rotate_left; (focus (rintro w' ⟨o', n', rfl⟩; go_simp; try with_reducible rfl)); simp only [Act.put, List.setIfInBounds_toArray, List.set_cons_zero, List.set_cons_succ]) | (refine wpF_alt rfl rfl (fun K hK => ?_) ?_) | (exact wpF_stop) | (refine wpF_done ?_)) | ((with_reducible refine wpF_go ?_ ?_); (focus (show Grew _ _; repeat (first | (with_reducible exact Grew.refl _) | (with_reducible assumption) | (with_reducible refine Grew.ext ?_ _ _) | (with_reducible refine Grew.alloc ?_ _) | ((with_reducible refine Grew.setCell ?_ ?_ _); rotate_left; (focus (dsimp only; omega))) | (with_reducible refine Grew.drewN ?_ _) | (with_reducible refine Grew.drew ?_))))) | ((with_reducible refine upon_id ?_); refine upon_fop rfl (by assumption) (by assumption) ?_; intro rr nn hr) | (go_at_call 164; ((with_reducible refine (mabs_any b _ _ hf).mono ?_); rintro e w1 ⟨ra, rfl, hra, rfl⟩)) | (at_builtin; refine append1_f (W := w) (v := u9) (xs := bndTo L M i) (y := bndAt L.length (L.getD i 0) (M.getD i 0)) finfo ?_ ?_ ?_ ((by rw [hll]; omega)) _ _ rfl rfl rfl ?_ rfl ?_; (focus (refine Grew.trans gw ?_; (show Grew _ _; repeat (first | (with_reducible exact Grew.refl _) | (with_reducible assumption) | (with_reducible refine Grew.ext ?_ _ _) | (with_reducible refine Grew.alloc ?_ _) | ((with_reducible refine Grew.setCell ?_ ?_ _); rotate_left; (focus (dsimp only; first | omega | (simp only [size_ext, World.size_alloc, Array.size_append]; omega)))) | (with_reducible refine Grew.drewN ?_ _) | (with_reducible refine Grew.drew ?_))))); (focus (refine OwnF.grew (w := wr) ?_ ?_; (focus (with_reducible assumption)); (focus (show Grew _ _; repeat (first | (with_reducible exact Grew.refl _) | (with_reducible assumption) | (with_reducible refine Grew.ext ?_ _ _) | (with_reducible refine Grew.alloc ?_ _) | ((with_reducible refine Grew.setCell ?_ ?_ _); rotate_left; (focus (dsimp only; first | omega | (simp only [size_ext, World.size_alloc, Array.size_append]; omega)))) | (with_reducible refine Grew.drewN ?_ _) | (with_reducible refine Grew.drew ?_)))))); (focus (unfold bndAt; rw [← HNN.out, ← HG.out]; exact hr)); (focus (first | rfl | (simp only [size_ext, World.size_alloc, Array.size_append]; done) | (simp only [size_ext, World.size_alloc, Array.size_append]; omega))); intro v oo nn ho hn))
      all_goals (
        go_roundw
        case rel => exact ⟨i + 1, oo, nn, by omega, by go_num, rfl, by rw [bndTo_succ]; exact ho⟩
        case measure => simp [intOf]; omega)
    · have e : i = N := by omega
      subst e
      go_wp2
      refine bodyPost_ret (v := .tuple #[u9, .int .i64 0]) (by simp [results, Try.results92, go_sem, *]) rfl ?_
      exact ⟨_, rfl, by unfold bndL; rw [← HNN.out]; exact hown, by (show Grew _ _; repeat (first | (with_reducible exact Grew.refl _) | (with_reducible assumption) | (with_reducible refine Grew.ext ?_ _ _) | (with_reducible refine Grew.alloc ?_ _) | ((with_reducible refine Grew.setCell ?_ ?_ _); rotate_left; (focus (dsimp only; first | omega | (simp only [size_ext, World.size_alloc, Array.size_append]; omega)))) | (with_reducible refine Grew.drewN ?_ _) | (with_reducible refine Grew.drew ?_)))⟩
end Go.Proofs.Ytcmggfpcbijcjaa
end
section
/-
  Contracts: view.Dense without numbers; (M).Copy and straightedgeref08.Ger.
-/
set_option linter.unusedSimpArgs false
set_option linter.unusedVariables false
open Go Go.RowKit Sedge
namespace Go.Proofs.Ytcmggfpcbijcjaa
section
variable {P : Program} {o : Oper} {a : Act} {w : World} {K : Act → World → Prop} {Q : Exit → Act → World → Prop}
theorem wp_any (h : o.wp P a w K (fun e a w => e = .normal ∧ K a w)) : o.wp P a w K Q := by
  unfold Oper.wp at *
  generalize (execOp a.eval o).run P w = r at *
  cases r with
  | ok n w' =>
    cases n <;> simp only [Oper.upon] at h ⊢ <;> try exact h
    refine h.mono fun e w2 hh => ?_
    cases e with
    | returned v => exact hh
    | panicked c => exact absurd hh.1 (by simp)
    | outgrown => obtain ⟨_, _, h1, _⟩ := hh; cases h1
  | halt k w' =>
    cases k <;> simp only [Oper.upon] at h ⊢ <;> first | exact h | exact absurd h.1 (by simp)
theorem wp_id (h : o.wp P a w K Q) : o.wp P a w K Q := h
theorem wp_app {d : Option Tmp} {s x : Operand} {tt : Array TypeId} {ty : TypeId} {ps : String} {aft : Array Edge} (h : Oper.wp P { dst := d, op := .call { callee := .builtin .append, args := #[s, x], argTypes := tt }, type := ty, pos := ps, after := aft, guard := none } a w K Q) : Oper.wp P { dst := d, op := .call { callee := .builtin .append, args := #[s, x], argTypes := tt }, type := ty, pos := ps, after := aft, guard := none } a w K Q := h
/-- 'append(s, src...)', in a region that draws its order. -/
theorem appendN_K {t e : TypeId} (T : ElemF P t e) {W : World} (hW : Grew W w) {v : Value} {xs : List Nat} (hown : OwnF e w W.heap.size v xs) {D : Value} {ws : List Nat} (hD : FS w D ws)
    (hlen : xs.length + ws.length < 17592186044415) (s x : Operand) (hg : o.guard = none)
    (ho : o.op = .call { callee := .builtin .append, args := #[s, x], argTypes := #[t, t] }) (hs : a.eval s = v) (hx : a.eval x = D)
    (h : ∀ v' oo nn, OwnF e (ext W oo nn) W.heap.size v' (xs ++ ws) → (v ≠ .slice none 0 0 → v' ≠ .slice none 0 0) → K (a.put o.dst v') (ext W oo nn)) : o.wp P a w K Q := by
  have h1 := appendN_f (P := P) (ops := #[]) (Q := fun e a w => e = .normal ∧ K a w) (rest := []) T hW hown hD hlen s x hg ho hs hx (fun v' oo nn h1 h2 => ⟨rfl, h v' oo nn h1 h2⟩)
  unfold wpList at h1
  rw [if_pos (wanted_none hg)] at h1
  rcases h1 with h1 | ⟨_, _, _, h2, _⟩
  · exact wp_any (Oper.wp_mono (fun a w hh => hh.2) h1)
  · cases h2
end
set_option maxRecDepth 100000 in
set_option maxHeartbeats 1000000 in
/-- view.Dense, of sizes within 64, without numbers. -/
theorem dense0_any (r c : Nat) (w : World) (hr : r ≤ 64) (hc : c ≤ 64) (hr1 : 1 ≤ r) (hc1 : 1 ≤ c) :
   Calls Try.prog 69 #[.int .i64 r, .int .i64 c, .slice none 0 0] w (fun e w' => ∃ v, e = .returned (.agg #[v, .int .i64 0, .int .i64 r, .int .i64 c, .int .i64 r]) ∧ WS w' w.heap.size v (List.replicate (r * c) 0) ∧ ∃ o n, w' = ext w o n) := by
  have hm : r * c ≤ 64 * 64 := Nat.mul_le_mul hr hc
  have h2 : IntKind.i64.wrap ((r : Int) * c) = (r : Int) * c := IntWalk.i64_in _ (by rw [← Int.natCast_mul]; omega)
  have h3 : (0 : Int) ≤ (r : Int) * c := by rw [← Int.natCast_mul]; omega
  have d1 : decide ((r : Int) < 0) = false := by simp
  have d2 : decide ((c : Int) < 0) = false := by simp
  have d3 : decide ((64 : Int) < (r : Int)) = false := by simp; omega
  have d4 : decide ((64 : Int) < (c : Int)) = false := by simp; omega
  have d6 : decide ((1 : Int) ≤ (r : Int)) = true := by simp; omega
  have d7 : decide ((0 : Int) ≤ (r : Int) * c) = true := by simpa using h3
  go_enter Try.func69, Try.ntmps69
  refine seq_stop ?_
  go_wp2
  refine stop_go (fun W hW => ?_)
  have s1 : w.heap.size < W.heap.size := by rw [hW]; simp only [World.size_alloc]; omega
  have b1 : ∀ i, W.cell? ⟨w.heap.size, i, none⟩ = (#[.slice none 0 0, .int .i64 0, .int .i64 0, .int .i64 0, .int .i64 0] : Array Value)[i]? := by intro i; rw [hW]; go_simp
  have f1 : ∀ i, W.frozen? ⟨w.heap.size, i, none⟩ = false := by intro i; rw [hW]; go_simp
  have g0 : Grew w W := by rw [hW]; exact (Grew.refl _).alloc _
  clear hW
  go_wp2_with (at_make; refine make_f (L := (r : Int) * (c : Int)) finfo (Grew.refl W) _ _ rfl rfl (r * c) (Int.natCast_mul r c).symm rfl rfl (by omega) ?_; intro oo nn k hk ho; have hF := ho.made)
  refine name_any (fun V hV => ?_)
  have gV : Grew W V := by rw [← hV]; (show Grew _ _; repeat (first | (with_reducible exact Grew.refl _) | (with_reducible assumption) | (with_reducible refine Grew.ext ?_ _ _) | (with_reducible refine Grew.alloc ?_ _) | ((with_reducible refine Grew.setCell ?_ ?_ _); rotate_left; (focus (dsimp only; first | omega | (simp only [size_ext, World.size_alloc, Array.size_append]; omega)))) | (with_reducible refine Grew.drewN ?_ _) | (with_reducible refine Grew.drew ?_)))
  have sV := gV.below.size
  have k1 : w.heap.size < V.heap.size := by omega
  have k3 : W.heap.size + oo.size < V.heap.size := by rw [← hV]; simp only [World.size_alloc, size_ext]; omega
  have c1 : ∀ i, V.cell? ⟨w.heap.size, i, none⟩ = (#[.slice none 0 0, .int .i64 0, .int .i64 0, .int .i64 0, .int .i64 0] : Array Value)[i]? := fun i => (gV.cell s1).trans (b1 i)
  have z1 : ∀ i, V.frozen? ⟨w.heap.size, i, none⟩ = false := fun i => (gV.frozen s1).trans (f1 i)
  have c3 : ∀ i, V.cell? ⟨W.heap.size + oo.size, i, none⟩ = (#[.slice (some ⟨k, 0, none⟩) (r * c) (r * c), .int .i64 0, .int .i64 r, .int .i64 c, .int .i64 r] : Array Value)[i]? := by subst hV; intro i; go_simp
  have hFV : FW V k (List.replicate (r * c) 0) := by rw [← hV]; (repeat (first | (with_reducible assumption) | ((with_reducible refine FW.ext_set ?_ ?_ ?_ _); rotate_left; (focus (simp only [size_setCell', World.size_alloc, size_ext, size_upd]; omega)); (focus (dsimp only; omega))) | ((with_reducible refine FW.setCell_ne ?_ ?_ _); rotate_left; (focus (dsimp only; omega))) | (with_reducible refine FW.ext ?_ _ _) | (with_reducible refine FW.alloc ?_ _)))
  have q1 : w.heap.size ≠ k := by omega
  clear hV b1 f1 ho
  go_loopw [43] (fun s wr => s = .int .i64 0 ∧ wr = V) (fun s _ => 0)
  case atStart => exact ⟨rfl, rfl⟩
  case round =>
    obtain ⟨rfl, rfl⟩ := hrel
    go_wp2
    refine bodyPost_ret (v := .agg #[.slice (some ⟨k, 0, none⟩) (r * c) (r * c), .int .i64 0, .int .i64 r, .int .i64 c, .int .i64 r]) (by simp [results, Try.results69, go_sem, *]) rfl ?_
    exact ⟨_, rfl, ⟨k, _, by rw [List.length_replicate], by omega, by (repeat (first | (with_reducible assumption) | ((with_reducible refine FW.ext_set ?_ ?_ ?_ _); rotate_left; (focus (simp only [size_setCell', World.size_alloc, size_ext, size_upd]; omega)); (focus (dsimp only; omega))) | ((with_reducible refine FW.setCell_ne ?_ ?_ _); rotate_left; (focus (dsimp only; omega))) | (with_reducible refine FW.ext ?_ _ _) | (with_reducible refine FW.alloc ?_ _))), by rw [List.length_replicate]; omega⟩, by have gwr := g0.trans gV; (show Grew _ _; repeat (first | (with_reducible exact Grew.refl _) | (with_reducible assumption) | (with_reducible refine Grew.ext ?_ _ _) | (with_reducible refine Grew.alloc ?_ _) | ((with_reducible refine Grew.setCell ?_ ?_ _); rotate_left; (focus (dsimp only; first | omega | (simp only [size_ext, World.size_alloc, Array.size_append]; omega)))) | (with_reducible refine Grew.drewN ?_ _) | (with_reducible refine Grew.drew ?_)))⟩
set_option maxRecDepth 100000 in
set_option maxHeartbeats 1000000 in
/-- (M).Copy. -/
theorem mcopy_any (R C : Int) (A : Value) (T : List Nat) (w : World) (hA : FS w A T) (hl : T.length ≤ 1000000) :
   Calls Try.prog 140 #[.agg #[.int .i64 R, .int .i64 C, A]] w (fun e w' => ∃ v, e = .returned (.agg #[.int .i64 R, .int .i64 C, v]) ∧ WS w' w.heap.size v T ∧ ∃ o n, w' = ext w o n) := by
  obtain ⟨aA, cA, rfl⟩ := hA.shape
  go_enter Try.func140, Try.ntmps140
  refine seq_stop ?_
  go_wp2
  refine stop_go (fun W hW => ?_)
  have s1 : w.heap.size < W.heap.size := by rw [hW]; simp only [World.size_alloc]; omega
  have b1 : ∀ i, W.cell? ⟨w.heap.size, i, none⟩ = (#[.int .i64 R, .int .i64 C, .slice aA T.length cA] : Array Value)[i]? := by intro i; rw [hW]; go_simp
  have f1 : ∀ i, W.frozen? ⟨w.heap.size, i, none⟩ = false := by intro i; rw [hW]; go_simp
  have s2 : w.heap.size + 1 < W.heap.size := by rw [hW]; simp only [World.size_alloc]; omega
  have b2 : ∀ i, W.cell? ⟨w.heap.size + 1, i, none⟩ = (#[.int .i64 0, .int .i64 0, .slice none 0 0] : Array Value)[i]? := by intro i; rw [hW]; go_simp
  have f2 : ∀ i, W.frozen? ⟨w.heap.size + 1, i, none⟩ = false := by intro i; rw [hW]; go_simp
  have g0 : Grew w W := by rw [hW]; exact ((Grew.refl _).alloc _).alloc _
  clear hW
  have hAW : FS W (.slice aA T.length cA) T := hA.grew g0
  go_wp2
  refine wp_region_R (Grew W) [9] [(3,0), (0,1), (3,2), (0,3), (3,5), (0,6), (1,4), (1,7), (0,8), (2,9)] (by kernel_rfl) (by kernel_rfl) (fun _ _ _ _ h _ => h) (by first | exact ⟨_, _, ext_drew⟩ | exact ⟨_, _, drew_ext0⟩ | (show Grew _ _; repeat (first | (with_reducible exact Grew.refl _) | (with_reducible assumption) | (with_reducible refine Grew.ext ?_ _ _) | (with_reducible refine Grew.alloc ?_ _) | ((with_reducible refine Grew.setCell ?_ ?_ _); rotate_left; (focus (dsimp only; first | omega | (simp only [size_ext, World.size_alloc, Array.size_append]; omega)))) | (with_reducible refine Grew.drewN ?_ _) | (with_reducible refine Grew.drew ?_)))) ?_
  refine name_any (fun W2 hW2 => ?_)
  have g2 : Grew W W2 := by rw [← hW2]; (show Grew _ _; repeat (first | (with_reducible exact Grew.refl _) | (with_reducible assumption) | (with_reducible refine Grew.ext ?_ _ _) | (with_reducible refine Grew.alloc ?_ _) | ((with_reducible refine Grew.setCell ?_ ?_ _); rotate_left; (focus (dsimp only; first | omega | (simp only [size_ext, World.size_alloc, Array.size_append]; omega)))) | (with_reducible refine Grew.drewN ?_ _) | (with_reducible refine Grew.drew ?_)))
  have hAW2 := hAW.grew g2
  have gww : Grew w W2 := g0.trans g2
  have zW := g0.below.size
  have z2 := g2.below.size
  have b12 := fun i => (g2.cell s1).trans (b1 i)
  have b22 := fun i => (g2.cell s2).trans (b2 i)
  have f22 := fun i => (g2.frozen s2).trans (f2 i)
  have s12 : w.heap.size < W2.heap.size := by omega
  have s22 : w.heap.size + 1 < W2.heap.size := by omega
  clear hW2
  go_wp2_with (first | ((with_reducible refine wpR_id ?_); refine wpR_do rfl rfl (fun K hK => ?_); (with_reducible refine wp_app ?_); refine appendN_K finfo (Grew.refl W2 |>.alloc _) (OwnF.empty rfl (Nat.le_refl _)) (FS.alloc hAW2 _) (by simp; omega) _ _ rfl rfl rfl rfl ?_; intro v oo nn ho hn; obtain ⟨g, cap, rfl, hg, hF, hL⟩ := ho.ws (hn notnil) (by simp; omega); simp only [List.nil_append] at hF hL) | ((with_reducible refine wpR_id ?_); first | (refine wpR_take (v := ?_) rfl rfl ?_ ?_; rotate_left; (focus (rintro w' ⟨o', n', rfl⟩; go_simp; try with_reducible rfl)); simp only [Act.put, List.setIfInBounds_toArray, List.set_cons_zero, List.set_cons_succ]) | (refine wpR_pure (v := ?_) rfl rfl ?_ ?_; rotate_left; (focus (intro w'; go_simp; try with_reducible rfl)); simp only [Act.put, List.setIfInBounds_toArray, List.set_cons_zero, List.set_cons_succ]) | (refine wpR_takeG (v := ?_) rfl rfl rfl rfl rfl ?_ ?_; rotate_left; (focus (rintro w' ⟨o', n', rfl⟩; go_simp; try with_reducible rfl)); simp only [Act.put, List.setIfInBounds_toArray, List.set_cons_zero, List.set_cons_succ]) | (refine wpR_skip rfl rfl rfl rfl rfl rfl ?_; simp only [Act.put, List.setIfInBounds_toArray, List.set_cons_zero, List.set_cons_succ]) | (refine wpR_skipU rfl rfl rfl rfl rfl ?_; simp only [Act.put, List.setIfInBounds_toArray, List.set_cons_zero, List.set_cons_succ]) | (refine wpR_do rfl rfl (fun K hK => ?_)) | (refine wpR_doG rfl rfl rfl rfl rfl (fun K hK => ?_)) | (refine wpR_last rfl rfl (fun K hK => ?_)) | (refine wpR_nil ?_)) | ((with_reducible refine wpR_go ?_ ?_); (focus (show Grew _ _; repeat (first | (with_reducible exact Grew.refl _) | (with_reducible assumption) | (with_reducible refine Grew.ext ?_ _ _) | (with_reducible refine Grew.alloc ?_ _) | ((with_reducible refine Grew.setCell ?_ ?_ _); rotate_left; (focus (dsimp only; first | omega | (simp only [size_ext, World.size_alloc, Array.size_append]; omega)))) | (with_reducible refine Grew.drewN ?_ _) | (with_reducible refine Grew.drew ?_))))) | ((with_reducible refine upon_id ?_); refine upon_fop rfl (by assumption) (by assumption) ?_; intro rr nn hr))
  refine bodyPost_ret (v := .agg #[.int .i64 R, .int .i64 C, .slice (some ⟨g, 0, none⟩) T.length cap]) (by simp [results, Try.results140, go_sem, *]) rfl ?_
  exact ⟨_, rfl, ⟨g, cap, rfl, by omega, by (repeat (first | (with_reducible assumption) | ((with_reducible refine FW.ext_set ?_ ?_ ?_ _); rotate_left; (focus (simp only [size_setCell', World.size_alloc, size_ext, size_upd]; omega)); (focus (dsimp only; omega))) | ((with_reducible refine FW.setCell_ne ?_ ?_ _); rotate_left; (focus (dsimp only; omega))) | (with_reducible refine FW.ext ?_ _ _) | (with_reducible refine FW.alloc ?_ _))), hL⟩, by (show Grew _ _; repeat (first | (with_reducible exact Grew.refl _) | (with_reducible assumption) | (with_reducible refine Grew.ext ?_ _ _) | (with_reducible refine Grew.alloc ?_ _) | ((with_reducible refine Grew.setCell ?_ ?_ _); rotate_left; (focus (dsimp only; first | omega | (simp only [size_ext, World.size_alloc, Array.size_append]; omega)))) | (with_reducible refine Grew.drewN ?_ _) | (with_reducible refine Grew.drew ?_)))⟩
/-- Row by row: what is done up to (i, j). -/
def stepR (F s : Nat → Nat → Nat) (i j : Nat) (r c : Nat) : Nat := if r < i ∨ (r = i ∧ c < j) then F r c else s r c
def rgerF (α : Nat) (lx ly : List Nat) (M : Nat → Nat → Nat) (i j : Nat) : Nat := fadd (M i j) (fmul (fmul α (ly.getD j 0)) (lx.getD i 0))
set_option maxRecDepth 100000 in
set_option maxHeartbeats 4000000 in
/-- straightedgeref08.Ger. -/
theorem rger_any (a α R C : Nat) (T lx ly : List Nat) (M : Nat → Nat → Nat) (A X Y : Value) (w : World) (ha : IsF a α) (hA : FS w A T) (hX : FS w X lx) (hY : FS w Y ly) (hx : lx.length = R) (hy : ly.length = C) (hT : T.length = R * C) (hM : Hold (fun i j => i * C + j) R C T T M) (hR : R ≤ 1000) (hC : C ≤ 1000) :
   Calls Try.prog 60 #[.float .f64 a, X, Y, .agg #[.int .i64 R, .int .i64 C, A]] w (fun e w' => ∃ v t, e = .returned (.agg #[.int .i64 R, .int .i64 C, v]) ∧ WS w' w.heap.size v t ∧ Hold (fun i j => i * C + j) R C T t (rgerF α lx ly M) ∧ ∃ o n, w' = ext w o n) := by
  have hRC : R * C ≤ 1000 * 1000 := Nat.mul_le_mul hR hC
  have hpl : Places (fun i j => i * C + j) R C T.length := by rw [hT]; exact tabPlaces R C
  have HT := hid hT
  have Hx := hid hx
  have Hy := hid hy
  obtain ⟨aA, cA, rfl⟩ := hA.shape
  obtain ⟨aX, cX, rfl⟩ := hX.shape
  obtain ⟨aY, cY, rfl⟩ := hY.shape
  have hat : ∀ i j : Nat, i < R → j < C → ∀ w', FS w' (.slice aA T.length cA) T → Calls Try.prog 72 #[.agg #[.int .i64 R, .int .i64 C, .slice aA T.length cA], .int .i64 i, .int .i64 j] w' (fun e w2 => ∃ b, e = .returned (.float .f64 b) ∧ IsF b (M i j) ∧ ∃ o n, w2 = ext w' o n) := fun i j hi hj w' h => by
    have := rat_any R C i j (.slice aA T.length cA) T w' h hR hC (by omega) (by omega) (by rw [hT]; exact at_lt hi hj)
    rw [hM.get i j hi hj] at this; exact this
  have hcp : ∀ w', FS w' (.slice aA T.length cA) T → Calls Try.prog 140 #[.agg #[.int .i64 R, .int .i64 C, .slice aA T.length cA]] w' (fun e w2 => ∃ v, e = .returned (.agg #[.int .i64 R, .int .i64 C, v]) ∧ WS w2 w'.heap.size v T ∧ ∃ o n, w2 = ext w' o n) := fun w' h => mcopy_any R C _ T w' h (by omega)
  clear hT hx hy
  go_enter Try.func60, Try.ntmps60
  refine seq_stop ?_
  go_wp2
  refine stop_go (fun W hW => ?_)
  have s1 : w.heap.size < W.heap.size := by rw [hW]; simp only [World.size_alloc]; omega
  have b1 : ∀ i, W.cell? ⟨w.heap.size, i, none⟩ = (#[.int .i64 R, .int .i64 C, .slice aA T.length cA] : Array Value)[i]? := by intro i; rw [hW]; go_simp
  have f1 : ∀ i, W.frozen? ⟨w.heap.size, i, none⟩ = false := by intro i; rw [hW]; go_simp
  have s2 : w.heap.size + 1 < W.heap.size := by rw [hW]; simp only [World.size_alloc]; omega
  have b2 : ∀ i, W.cell? ⟨w.heap.size + 1, i, none⟩ = (#[.int .i64 0, .int .i64 0, .slice none 0 0] : Array Value)[i]? := by intro i; rw [hW]; go_simp
  have f2 : ∀ i, W.frozen? ⟨w.heap.size + 1, i, none⟩ = false := by intro i; rw [hW]; go_simp
  have g0 : Grew w W := by rw [hW]; exact ((Grew.refl _).alloc _).alloc _
  clear hW
  have hAW := hA.grew g0
  have hXW := hX.grew g0
  have hYW := hY.grew g0
  go_wp2_with (first | (go_at_call 140; ((with_reducible refine (hcp _ hAW).mono ?_); rintro e w1 ⟨v, rfl, ⟨g, cap, rfl, hg, hF, hgl⟩, oc, nc, rfl⟩)))
  refine name_any (fun V hV => ?_)
  have gV : Grew W V := by rw [← hV]; (show Grew _ _; repeat (first | (with_reducible exact Grew.refl _) | (with_reducible assumption) | (with_reducible refine Grew.ext ?_ _ _) | (with_reducible refine Grew.alloc ?_ _) | ((with_reducible refine Grew.setCell ?_ ?_ _); rotate_left; (focus (dsimp only; first | omega | (simp only [size_ext, World.size_alloc, Array.size_append]; omega)))) | (with_reducible refine Grew.drewN ?_ _) | (with_reducible refine Grew.drew ?_)))
  have zw := g0.below.size
  have zV := gV.below.size
  have hFV : FW V g T := by rw [← hV]; (repeat (first | (with_reducible assumption) | ((with_reducible refine FW.ext_set ?_ ?_ ?_ _); rotate_left; (focus (simp only [size_setCell', World.size_alloc, size_ext, size_upd]; omega)); (focus (dsimp only; omega))) | ((with_reducible refine FW.setCell_ne ?_ ?_ _); rotate_left; (focus (dsimp only; omega))) | (with_reducible refine FW.ext ?_ _ _) | (with_reducible refine FW.alloc ?_ _)))
  have cT : ∀ i, V.cell? ⟨W.heap.size + oc.size, i, none⟩ = (#[.int .i64 R, .int .i64 C, .slice (some ⟨g, 0, none⟩) T.length cap] : Array Value)[i]? := by subst hV; intro i; go_simp
  have kT : W.heap.size + oc.size < V.heap.size := by rw [← hV]; simp only [World.size_alloc, size_ext]; omega
  have ngT : W.heap.size + oc.size ≠ g := by have := hF.lt; simp only [size_ext] at this; omega
  obtain ⟨U, hU⟩ : ∃ U, W.heap.size + oc.size = U := ⟨_, rfl⟩
  have zU : W.heap.size ≤ U := by omega
  rw [hU] at cT kT ngT
  simp only [hU]
  have hG : ∀ k ∈ [g], W.heap.size ≤ k := by intro k hk; simp at hk; omega
  have hDu := But.fs gV hAW hG
  have hXu := But.fs gV hXW hG
  have hYu := But.fs gV hYW hG
  have c1 := But.boxW gV s1 b1 hG
  have c2 := But.boxW gV s2 b2 hG
  have z2 : ∀ w', But V [g] w' → ∀ i, w'.frozen? ⟨w.heap.size + 1, i, none⟩ = false := fun w' hb i => by
    have h1 := hb.block (w.heap.size + 1) (by omega) (by simp; omega)
    have h2 := (gV.frozen s2).trans (f2 i)
    unfold World.frozen? at h2 ⊢; simp only [h1] at h2 ⊢; exact h2
  have cU : ∀ w', But V [g] w' → ∀ i, w'.cell? ⟨U, i, none⟩ = (#[.int .i64 R, .int .i64 C, .slice (some ⟨g, 0, none⟩) T.length cap] : Array Value)[i]? := fun w' h i => (h.cell kT (by simpa using ngT)).trans (cT i)
  have kV : w.heap.size < V.heap.size := by omega
  have kV2 : w.heap.size + 1 < V.heap.size := by omega
  clear hV hU cT b1 b2 f1 f2 hF hcp
  go_loopw [10] (fun c wr => ∃ (i : Nat) (L : List Nat), i ≤ R ∧ c = .int .i64 i ∧ But V [g] wr ∧ FW wr g L ∧ Hold (fun i j => i * C + j) R C T L (stepR (rgerF α lx ly M) M i 0)) (fun c _ => R - (intOf c).toNat)
  case atStart => exact ⟨0, T, Nat.zero_le _, rfl, But.refl _ _, hFV, hM.congr fun i j _ _ => by simp [stepR]⟩
  case round =>
    obtain ⟨i, L, hi, rfl, hB, hL, hH⟩ := hrel
    have t1 := c1 _ hB
    have sB := hB.size
    have x1 : w.heap.size < wr.heap.size := by omega
    by_cases hlt : (i : Int) < R
    · have hiR : i < R := by omega
      go_wp2
      go_loopw [11] (fun c wr => ∃ (j : Nat) (L : List Nat), j ≤ C ∧ c = .int .i64 j ∧ But V [g] wr ∧ FW wr g L ∧ Hold (fun i j => i * C + j) R C T L (stepR (rgerF α lx ly M) M i j)) (fun c _ => C - (intOf c).toNat)
      case atStart => exact ⟨0, L, Nat.zero_le _, rfl, hB, hL, hH⟩
      case round =>
        obtain ⟨j, L2, hj, rfl, hB2, hL2, hH2⟩ := hrel
        have t1 := c1 _ hB2
        have tU := cU _ hB2
        have sB := hB2.size
        have x1 : w.heap.size < wr.heap.size := by omega
        have xU : U < wr.heap.size := by omega
        by_cases hl2 : (j : Int) < C
        · have hjC : j < C := by omega
          have hatij := hat i j hiR hjC
          have hgd := hH2.get i j hiR hjC
          have hset : ∀ w' r z, FW w' g L2 → IsF r z → Calls Try.prog 134 #[.agg #[.int .i64 R, .int .i64 C, .slice (some ⟨g, 0, none⟩) T.length cap], .int .i64 i, .int .i64 j, .float .f64 r] w' (fun e w2 => e = .returned (.tuple #[]) ∧ Wrote w' w2 g (L2.set (i * C + j) z)) := fun w' r z h1 h2 =>
            rset_any R C i j g cap T.length r z L2 w' h1 h2 hH2.len.symm hR hC (by omega) (by omega) (by rw [hH2.len, HT.out]; exact at_lt hiR hjC)
          obtain ⟨bx, ox, hax, hkx, hcx⟩ := hXW.at.2 (by rw [Hx.out]; omega)
          obtain ⟨rx, hrx, hfx⟩ := hcx i (by rw [Hx.out]; omega)
          obtain ⟨bz, oz, haz, hkz, hcz⟩ := hYW.at.2 (by rw [Hy.out]; omega)
          obtain ⟨ry, hry, hfy⟩ := hcz j (by rw [Hy.out]; omega)
          subst hax haz
          have lx1 : (i : Int) < lx.length := by rw [Hx.out]; omega
          have ly1 : (j : Int) < ly.length := by rw [Hy.out]; omega
          have crx : ∀ w', But V [g] w' → w'.cell? ⟨bx, ox + i, none⟩ = some (.float .f64 rx) := fun w' h => (h.cell (by omega) (by simp; omega)).trans ((gV.cell hkx).trans hrx)
          have cry : ∀ w', But V [g] w' → w'.cell? ⟨bz, oz + j, none⟩ = some (.float .f64 ry) := fun w' h => (h.cell (by omega) (by simp; omega)).trans ((gV.cell hkz).trans hry)
          clear hcx hcz hrx hry
          go_wp2
          refine wp_region_R (But V [g]) [] [(0,0), (0,1), (0,2), (0,3), (0,4), (0,5), (0,7), (0,8), (0,9), (0,10), (0,11), (0,13), (0,14), (0,15), (0,16), (1,6), (1,12), (1,17), (1,18), (1,19)] (by kernel_rfl) (by kernel_rfl) (fun _ _ _ _ h _ => h) (hB2.grew ((Grew.refl _).drew)) ?_
          refine name_any (fun V6 hV6 => ?_)
          have hg6 : Grew wr V6 := by rw [← hV6]; (show Grew _ _; repeat (first | (with_reducible exact Grew.refl _) | (with_reducible assumption) | (with_reducible refine Grew.ext ?_ _ _) | (with_reducible refine Grew.alloc ?_ _) | ((with_reducible refine Grew.setCell ?_ ?_ _); rotate_left; (focus (dsimp only; first | omega | (simp only [size_ext, World.size_alloc, Array.size_append]; omega)))) | (with_reducible refine Grew.drewN ?_ _) | (with_reducible refine Grew.drew ?_)))
          have B6 := hB2.grew hg6
          have F6 := hL2.grew hg6
          clear hV6 hg6
          go_wp2_with (first | ((with_reducible refine wpR_id ?_); first | (refine wpR_take (v := ?_) rfl rfl ?_ ?_; rotate_left; (focus (intro w' hw'; go_simp; try with_reducible rfl)); simp only [Act.put, List.setIfInBounds_toArray, List.set_cons_zero, List.set_cons_succ]) | (refine wpR_pure (v := ?_) rfl rfl ?_ ?_; rotate_left; (focus (intro w'; go_simp; try with_reducible rfl)); simp only [Act.put, List.setIfInBounds_toArray, List.set_cons_zero, List.set_cons_succ]) | (refine wpR_takeG (v := ?_) rfl rfl rfl rfl rfl ?_ ?_; rotate_left; (focus (intro w' hw'; go_simp; try with_reducible rfl)); simp only [Act.put, List.setIfInBounds_toArray, List.set_cons_zero, List.set_cons_succ]) | (refine wpR_skip rfl rfl rfl rfl rfl rfl ?_; simp only [Act.put, List.setIfInBounds_toArray, List.set_cons_zero, List.set_cons_succ]) | (refine wpR_skipU rfl rfl rfl rfl rfl ?_; simp only [Act.put, List.setIfInBounds_toArray, List.set_cons_zero, List.set_cons_succ]) | (refine wpR_do rfl rfl (fun K hK => ?_)) | (refine wpR_doG rfl rfl rfl rfl rfl (fun K hK => ?_)) | (refine wpR_last rfl rfl (fun K hK => ?_)) | (refine wpR_nil ?_)) | ((with_reducible refine wpR_go ?_ ?_); (focus (with_reducible assumption))) | ((with_reducible refine upon_id ?_); refine upon_fop rfl (by assumption) (by assumption) ?_; intro rr nn hr) | (go_at_call 72; ((with_reducible refine (hatij _ (hDu _ (by assumption))).mono ?_); rintro e w1 ⟨r1, rfl, hr1, hw1⟩; (have B7 := B6.grew hw1; have F7 := F6.grew hw1))) | (go_at_call 141; ((with_reducible refine (times_any a ry α _ _ ha hfy).mono ?_); rintro e w1 ⟨r2, rfl, hr2, hw2⟩; (have B8 := B7.grew hw2; have F8 := F7.grew hw2))) | (go_at_call 141; ((with_reducible refine (times_any r2 rx _ _ _ hr2 hfx).mono ?_); rintro e w1 ⟨r3, rfl, hr3, hw3⟩; (have B9 := B8.grew hw3; have F9 := F8.grew hw3))) | (go_at_call 36; ((with_reducible refine (plus_any r1 r3 _ _ _ hr1 hr3).mono ?_); rintro e w1 ⟨r4, rfl, hr4, hw4⟩; (have B10 := B9.grew hw4; have F10 := F9.grew hw4))) | (go_at_call 134; ((with_reducible refine (hset _ r4 _ F10 hr4).mono ?_); rintro e w1 ⟨rfl, hw5⟩; (have B11 := B10.wrote hw5 (.inl (by simp))))))
          go_roundw
          case rel =>
            refine ⟨j + 1, _, by omega, by go_num, B11, hw5.fw F10, (hH2.set hpl hiR hjC).congr fun r c hr hc => ?_⟩
            unfold stepR
            by_cases hrc : r = i ∧ c = j
            · obtain ⟨rfl, rfl⟩ := hrc
              simp [rgerF]
            · rw [if_neg hrc]
              by_cases h2 : r < i ∨ (r = i ∧ c < j)
              · rw [if_pos h2, if_pos (by omega)]
              · rw [if_neg h2, if_neg (by omega)]
          case measure => simp [intOf]; omega
        · have e : j = C := by omega
          go_wp2
          go_roundw
          case rel =>
            refine ⟨i + 1, L2, by omega, by go_num, hB2, hL2, hH2.congr fun r c hr hc => ?_⟩
            unfold stepR
            by_cases h2 : r < i ∨ (r = i ∧ c < j)
            · rw [if_pos h2, if_pos (by omega)]
            · rw [if_neg h2, if_neg (by omega)]
          case measure => simp [intOf]; omega
    · have e : i = R := by omega
      have t2 := c2 _ hB
      have tU := cU _ hB
      have zz := z2 _ hB
      have x2 : w.heap.size + 1 < wr.heap.size := by omega
      have xU : U < wr.heap.size := by omega
      go_wp2
      refine bodyPost_ret (v := .agg #[.int .i64 R, .int .i64 C, .slice (some ⟨g, 0, none⟩) T.length cap]) (by simp [results, Try.results60, go_sem, *]) rfl ?_
      have gwr : Grew w wr := g0.trans (hB.grew0 gV hG)
      have hlL : L.length = T.length := hH.len
      refine ⟨_, rfl, L, ⟨g, cap, by rw [hlL], by omega, by (repeat (first | (with_reducible assumption) | ((with_reducible refine FW.ext_set ?_ ?_ ?_ _); rotate_left; (focus (simp only [size_setCell', World.size_alloc, size_ext, size_upd]; omega)); (focus (dsimp only; omega))) | ((with_reducible refine FW.setCell_ne ?_ ?_ _); rotate_left; (focus (dsimp only; omega))) | (with_reducible refine FW.ext ?_ _ _) | (with_reducible refine FW.alloc ?_ _))), by rw [hlL]; omega⟩, hH.congr fun r c hr hc => ?_, by (show Grew _ _; repeat (first | (with_reducible exact Grew.refl _) | (with_reducible assumption) | (with_reducible refine Grew.ext ?_ _ _) | (with_reducible refine Grew.alloc ?_ _) | ((with_reducible refine Grew.setCell ?_ ?_ _); rotate_left; (focus (dsimp only; first | omega | (simp only [size_ext, World.size_alloc, Array.size_append]; omega)))) | (with_reducible refine Grew.drewN ?_ _) | (with_reducible refine Grew.drew ?_)))⟩
      unfold stepR
      rw [if_pos (by omega)]
end Go.Proofs.Ytcmggfpcbijcjaa
end
section
/-
  Contracts: the reference's Scal, Sign, Shift (layer 6).
-/
set_option linter.unusedSimpArgs false
set_option linter.unusedVariables false
open Go Go.RowKit Sedge
namespace Go.Proofs.Ytcmggfpcbijcjaa
theorem FS_one {w : World} {t : TypeId} {r y : Nat} (hr : IsF r y) (n : Nat) (hn : n = w.heap.size) : FS (w.alloc (.cells #[.float .f64 r] t)) (.slice (some ⟨n, 0, none⟩) 1 1) [y] := by
  subst hn
  refine ⟨by simp, _, 1, rfl, (fun h => by cases h), fun i hi => ⟨_, _, r, rfl, ?_, ?_⟩⟩
  · have : i = 0 := by simp at hi; exact hi
    subst this
    rw [World.cell?_alloc_new]; rfl
  · have : i = 0 := by simp at hi; exact hi
    subst this
    exact hr
def mapTo (f : Nat → Nat) (i : Nat) : List Nat := (List.range i).map f
theorem mapTo_succ (f : Nat → Nat) (i : Nat) : mapTo f (i + 1) = mapTo f i ++ [f i] := by unfold mapTo; rw [List.range_succ, List.map_append]; rfl
theorem mapTo_length (f : Nat → Nat) (i : Nat) : (mapTo f i).length = i := by simp [mapTo]
set_option maxRecDepth 100000 in
set_option maxHeartbeats 1000000 in
/-- straightedgeref06.Scal. -/
theorem rscal_any (a α : Nat) (X : Value) (l : List Nat) (w : World) (ha : IsF a α) (hX : FS w X l) (hl : l.length ≤ 1000000) :
   Calls Try.prog 98 #[.float .f64 a, X] w (fun e w' => ∃ v, e = .returned v ∧ FS w' v (mapTo (fun i => fmul α (l.getD i 0)) l.length) ∧ ∃ o n, w' = ext w o n) := by
  obtain ⟨aX, cX, rfl⟩ := hX.shape
  go_enter Try.func98, Try.ntmps98
  go_wp2
  go_loopw [5, 6] (fun v c wr => ∃ (i : Nat) (o : Array Obj) (n : Nat), i ≤ l.length ∧ c = .int .i64 i ∧ wr = ext w o n ∧ OwnF 22 wr w.heap.size v (mapTo (fun i => fmul α (l.getD i 0)) i)) (fun _ c _ => l.length - (intOf c).toNat)
  case atStart => exact ⟨0, #[], _, Nat.zero_le _, rfl, ext_zero.symm, by simpa [mapTo] using OwnF.nil _ _ _⟩
  case round =>
    obtain ⟨i, o3, n3, hi, rfl, hwr, hown⟩ := hrel
    have gw : Grew w wr := ⟨_, _, hwr⟩
    clear hwr
    by_cases hlt : i < l.length
    · obtain ⟨blk, o, cap', ex, hblk, hc⟩ := (hX.grew gw).open (by omega)
      simp only [Value.slice.injEq] at ex
      obtain ⟨rfl, -, rfl⟩ := ex
      obtain ⟨b, hb, hf⟩ := hc i hlt
      have hll : (mapTo (fun i => fmul α (l.getD i 0)) i).length = i := mapTo_length _ _
      clear hc
      go_wp2_with (first | (go_at_call 141; ((with_reducible refine (times_any a b _ _ _ ha hf).mono ?_); rintro e w1 ⟨rr, rfl, hr, o6, n6, rfl⟩)) | (at_builtin; refine append1_f (W := w) (v := u5) (xs := mapTo (fun i => fmul α (l.getD i 0)) i) (y := fmul α (l.getD i 0)) finfo ?_ ?_ ?_ ((by rw [hll]; omega)) _ _ rfl rfl rfl ?_ rfl ?_; (focus (refine Grew.trans gw ?_; (show Grew _ _; repeat (first | (with_reducible exact Grew.refl _) | (with_reducible assumption) | (with_reducible refine Grew.ext ?_ _ _) | (with_reducible refine Grew.alloc ?_ _) | ((with_reducible refine Grew.setCell ?_ ?_ _); rotate_left; (focus (dsimp only; first | omega | (simp only [size_ext, World.size_alloc, Array.size_append]; omega)))) | (with_reducible refine Grew.drewN ?_ _) | (with_reducible refine Grew.drew ?_))))); (focus (refine OwnF.grew (w := wr) ?_ ?_; (focus (with_reducible assumption)); (focus (show Grew _ _; repeat (first | (with_reducible exact Grew.refl _) | (with_reducible assumption) | (with_reducible refine Grew.ext ?_ _ _) | (with_reducible refine Grew.alloc ?_ _) | ((with_reducible refine Grew.setCell ?_ ?_ _); rotate_left; (focus (dsimp only; first | omega | (simp only [size_ext, World.size_alloc, Array.size_append]; omega)))) | (with_reducible refine Grew.drewN ?_ _) | (with_reducible refine Grew.drew ?_)))))); (focus (exact hr)); (focus (first | rfl | (simp only [size_ext, World.size_alloc, Array.size_append]; done) | (simp only [size_ext, World.size_alloc, Array.size_append]; omega))); intro v oo nn ho hn))
      go_roundw
      case rel => exact ⟨i + 1, oo, nn, by omega, by go_num, rfl, by rw [mapTo_succ]; exact ho⟩
      case measure => simp [intOf]; omega
    · have e : i = l.length := by omega
      have hfs := hown.fs (by rw [mapTo_length]; omega)
      rw [e] at hfs
      go_wp2
      go_ret
      exact ⟨_, rfl, hfs, gw⟩
set_option maxRecDepth 100000 in
set_option maxHeartbeats 1000000 in
/-- straightedgeref06.Sign. -/
theorem rsign_any (X : Value) (l : List Nat) (w : World) (hX : FS w X l) (hl : l.length ≤ 1000000) :
   Calls Try.prog 99 #[X] w (fun e w' => ∃ v, e = .returned v ∧ FS w' v (mapTo (fun i => sgF (l.getD i 0)) l.length) ∧ ∃ o n, w' = ext w o n) := by
  obtain ⟨aX, cX, rfl⟩ := hX.shape
  have c1 : IsF 4607182418800017408 4607182418800017408 := by decide +kernel
  have c2 : IsF 13830554455654793216 13830554455654793216 := by decide +kernel
  have C1 := hid c1
  have C2 := hid c2
  clear c1 c2
  go_enter Try.func99, Try.ntmps99
  go_wp2
  go_loopw [3, 4] (fun v c wr => ∃ (i : Nat) (o : Array Obj) (n : Nat), i ≤ l.length ∧ c = .int .i64 i ∧ wr = ext w o n ∧ OwnF 22 wr w.heap.size v (mapTo (fun i => sgF (l.getD i 0)) i)) (fun _ c _ => l.length - (intOf c).toNat)
  case atStart => exact ⟨0, #[], _, Nat.zero_le _, rfl, ext_zero.symm, by simpa [mapTo] using OwnF.nil _ _ _⟩
  case round =>
    obtain ⟨i, o3, n3, hi, rfl, hwr, hown⟩ := hrel
    have gw : Grew w wr := ⟨_, _, hwr⟩
    clear hwr
    by_cases hlt : i < l.length
    · obtain ⟨blk, o, cap', ex, hblk, hc⟩ := (hX.grew gw).open (by omega)
      simp only [Value.slice.injEq] at ex
      obtain ⟨rfl, -, rfl⟩ := ex
      obtain ⟨b, hb, hf⟩ := hc i hlt
      have hll : (mapTo (fun i => sgF (l.getD i 0)) i).length = i := mapTo_length _ _
      obtain ⟨z, hz⟩ : ∃ z, Hid (z = l.getD i 0) := ⟨_, hid rfl⟩
      rw [← hz.out] at hf
      clear hc
      cases hp : fgt z 0
      · cases hq : feq z 0
        · have Q := hid (show sgF z = 13830554455654793216 by unfold sgF; rw [hp, hq]; rfl)
          have d1 := (gt_eq0 hf).trans hp
          have d2 := eq_is hf isF_zero hq
          go_wp2_with (first | (at_builtin; refine append1_f (W := w) (v := u3) (xs := mapTo (fun i => sgF (l.getD i 0)) i) (y := sgF z) finfo ?_ ?_ ?_ ((by rw [hll]; omega)) _ _ rfl rfl rfl ?_ rfl ?_; (focus (refine Grew.trans gw ?_; (show Grew _ _; repeat (first | (with_reducible exact Grew.refl _) | (with_reducible assumption) | (with_reducible refine Grew.ext ?_ _ _) | (with_reducible refine Grew.alloc ?_ _) | ((with_reducible refine Grew.setCell ?_ ?_ _); rotate_left; (focus (dsimp only; first | omega | (simp only [size_ext, World.size_alloc, Array.size_append]; omega)))) | (with_reducible refine Grew.drewN ?_ _) | (with_reducible refine Grew.drew ?_))))); (focus (refine OwnF.grew (w := wr) ?_ ?_; (focus (with_reducible assumption)); (focus (show Grew _ _; repeat (first | (with_reducible exact Grew.refl _) | (with_reducible assumption) | (with_reducible refine Grew.ext ?_ _ _) | (with_reducible refine Grew.alloc ?_ _) | ((with_reducible refine Grew.setCell ?_ ?_ _); rotate_left; (focus (dsimp only; first | omega | (simp only [size_ext, World.size_alloc, Array.size_append]; omega)))) | (with_reducible refine Grew.drewN ?_ _) | (with_reducible refine Grew.drew ?_)))))); (focus ((rw [Q.out]; exact C2.out))); (focus (first | rfl | (simp only [size_ext, World.size_alloc, Array.size_append]; done) | (simp only [size_ext, World.size_alloc, Array.size_append]; omega))); intro v oo nn ho hn))
          go_roundw
          case rel => exact ⟨i + 1, oo, nn, by omega, by go_num, rfl, by rw [mapTo_succ, ← hz.out]; exact ho⟩
          case measure => simp [intOf]; omega
        · have Q := hid (show sgF z = 4607182418800017408 by unfold sgF; rw [hp, hq]; rfl)
          have d1 := (gt_eq0 hf).trans hp
          have d2 := eq_is hf isF_zero hq
          go_wp2_with (first | (at_builtin; refine append1_f (W := w) (v := u3) (xs := mapTo (fun i => sgF (l.getD i 0)) i) (y := sgF z) finfo ?_ ?_ ?_ ((by rw [hll]; omega)) _ _ rfl rfl rfl ?_ rfl ?_; (focus (refine Grew.trans gw ?_; (show Grew _ _; repeat (first | (with_reducible exact Grew.refl _) | (with_reducible assumption) | (with_reducible refine Grew.ext ?_ _ _) | (with_reducible refine Grew.alloc ?_ _) | ((with_reducible refine Grew.setCell ?_ ?_ _); rotate_left; (focus (dsimp only; first | omega | (simp only [size_ext, World.size_alloc, Array.size_append]; omega)))) | (with_reducible refine Grew.drewN ?_ _) | (with_reducible refine Grew.drew ?_))))); (focus (refine OwnF.grew (w := wr) ?_ ?_; (focus (with_reducible assumption)); (focus (show Grew _ _; repeat (first | (with_reducible exact Grew.refl _) | (with_reducible assumption) | (with_reducible refine Grew.ext ?_ _ _) | (with_reducible refine Grew.alloc ?_ _) | ((with_reducible refine Grew.setCell ?_ ?_ _); rotate_left; (focus (dsimp only; first | omega | (simp only [size_ext, World.size_alloc, Array.size_append]; omega)))) | (with_reducible refine Grew.drewN ?_ _) | (with_reducible refine Grew.drew ?_)))))); (focus ((rw [Q.out]; exact C1.out))); (focus (first | rfl | (simp only [size_ext, World.size_alloc, Array.size_append]; done) | (simp only [size_ext, World.size_alloc, Array.size_append]; omega))); intro v oo nn ho hn))
          go_roundw
          case rel => exact ⟨i + 1, oo, nn, by omega, by go_num, rfl, by rw [mapTo_succ, ← hz.out]; exact ho⟩
          case measure => simp [intOf]; omega
      · cases hq : feq z 0
        · have Q := hid (show sgF z = 4607182418800017408 by unfold sgF; rw [hp, hq]; rfl)
          have d1 := (gt_eq0 hf).trans hp
          have d2 := eq_is hf isF_zero hq
          go_wp2_with (first | (at_builtin; refine append1_f (W := w) (v := u3) (xs := mapTo (fun i => sgF (l.getD i 0)) i) (y := sgF z) finfo ?_ ?_ ?_ ((by rw [hll]; omega)) _ _ rfl rfl rfl ?_ rfl ?_; (focus (refine Grew.trans gw ?_; (show Grew _ _; repeat (first | (with_reducible exact Grew.refl _) | (with_reducible assumption) | (with_reducible refine Grew.ext ?_ _ _) | (with_reducible refine Grew.alloc ?_ _) | ((with_reducible refine Grew.setCell ?_ ?_ _); rotate_left; (focus (dsimp only; first | omega | (simp only [size_ext, World.size_alloc, Array.size_append]; omega)))) | (with_reducible refine Grew.drewN ?_ _) | (with_reducible refine Grew.drew ?_))))); (focus (refine OwnF.grew (w := wr) ?_ ?_; (focus (with_reducible assumption)); (focus (show Grew _ _; repeat (first | (with_reducible exact Grew.refl _) | (with_reducible assumption) | (with_reducible refine Grew.ext ?_ _ _) | (with_reducible refine Grew.alloc ?_ _) | ((with_reducible refine Grew.setCell ?_ ?_ _); rotate_left; (focus (dsimp only; first | omega | (simp only [size_ext, World.size_alloc, Array.size_append]; omega)))) | (with_reducible refine Grew.drewN ?_ _) | (with_reducible refine Grew.drew ?_)))))); (focus ((rw [Q.out]; exact C1.out))); (focus (first | rfl | (simp only [size_ext, World.size_alloc, Array.size_append]; done) | (simp only [size_ext, World.size_alloc, Array.size_append]; omega))); intro v oo nn ho hn))
          go_roundw
          case rel => exact ⟨i + 1, oo, nn, by omega, by go_num, rfl, by rw [mapTo_succ, ← hz.out]; exact ho⟩
          case measure => simp [intOf]; omega
        · have Q := hid (show sgF z = 4607182418800017408 by unfold sgF; rw [hp, hq]; rfl)
          have d1 := (gt_eq0 hf).trans hp
          have d2 := eq_is hf isF_zero hq
          go_wp2_with (first | (at_builtin; refine append1_f (W := w) (v := u3) (xs := mapTo (fun i => sgF (l.getD i 0)) i) (y := sgF z) finfo ?_ ?_ ?_ ((by rw [hll]; omega)) _ _ rfl rfl rfl ?_ rfl ?_; (focus (refine Grew.trans gw ?_; (show Grew _ _; repeat (first | (with_reducible exact Grew.refl _) | (with_reducible assumption) | (with_reducible refine Grew.ext ?_ _ _) | (with_reducible refine Grew.alloc ?_ _) | ((with_reducible refine Grew.setCell ?_ ?_ _); rotate_left; (focus (dsimp only; first | omega | (simp only [size_ext, World.size_alloc, Array.size_append]; omega)))) | (with_reducible refine Grew.drewN ?_ _) | (with_reducible refine Grew.drew ?_))))); (focus (refine OwnF.grew (w := wr) ?_ ?_; (focus (with_reducible assumption)); (focus (show Grew _ _; repeat (first | (with_reducible exact Grew.refl _) | (with_reducible assumption) | (with_reducible refine Grew.ext ?_ _ _) | (with_reducible refine Grew.alloc ?_ _) | ((with_reducible refine Grew.setCell ?_ ?_ _); rotate_left; (focus (dsimp only; first | omega | (simp only [size_ext, World.size_alloc, Array.size_append]; omega)))) | (with_reducible refine Grew.drewN ?_ _) | (with_reducible refine Grew.drew ?_)))))); (focus ((rw [Q.out]; exact C1.out))); (focus (first | rfl | (simp only [size_ext, World.size_alloc, Array.size_append]; done) | (simp only [size_ext, World.size_alloc, Array.size_append]; omega))); intro v oo nn ho hn))
          go_roundw
          case rel => exact ⟨i + 1, oo, nn, by omega, by go_num, rfl, by rw [mapTo_succ, ← hz.out]; exact ho⟩
          case measure => simp [intOf]; omega
    · have e : i = l.length := by omega
      have hfs := hown.fs (by rw [mapTo_length]; omega)
      rw [e] at hfs
      go_wp2
      go_ret
      exact ⟨_, rfl, hfs, gw⟩
set_option maxRecDepth 100000 in
set_option maxHeartbeats 1000000 in
/-- straightedgeref06.Shift. -/
theorem rshift_any (X O : Value) (l : List Nat) (zs : List Int) (w : World) (hX : FS w X l) (hO : IS .i64 w O zs) (hl : l.length ≤ 1000000) (hn : zs.length = l.length) :
   Calls Try.prog 100 #[X, O] w (fun e w' => ∃ v, e = .returned v ∧ FS w' v (mapTo (fun i => fscale (l.getD i 0) (zs.getD i 0)) l.length) ∧ ∃ o n, w' = ext w o n) := by
  obtain ⟨aX, cX, rfl⟩ := hX.shape
  obtain ⟨aO, cO, rfl⟩ := hO.shape
  have Hn := hid hn
  rw [hn] at hO ⊢
  clear hn
  go_enter Try.func100, Try.ntmps100
  go_wp2
  go_loopw [5, 6] (fun v c wr => ∃ (i : Nat) (o : Array Obj) (n : Nat), i ≤ l.length ∧ c = .int .i64 i ∧ wr = ext w o n ∧ OwnF 22 wr w.heap.size v (mapTo (fun i => fscale (l.getD i 0) (zs.getD i 0)) i)) (fun _ c _ => l.length - (intOf c).toNat)
  case atStart => exact ⟨0, #[], _, Nat.zero_le _, rfl, ext_zero.symm, by simpa [mapTo] using OwnF.nil _ _ _⟩
  case round =>
    obtain ⟨i, o3, n3, hi, rfl, hwr, hown⟩ := hrel
    have gw : Grew w wr := ⟨_, _, hwr⟩
    clear hwr
    by_cases hlt : i < l.length
    · obtain ⟨blk, o, cap', ex, hblk, hc⟩ := hX.open (by omega)
      simp only [Value.slice.injEq] at ex
      obtain ⟨rfl, -, rfl⟩ := ex
      obtain ⟨b, hb, hf⟩ := hc i hlt
      obtain ⟨blk2, o2, ex, hblk2, hc2⟩ := hO.at.2 (by rw [Hn.out]; omega)
      subst ex
      have hb2 := hc2 i (by rw [Hn.out]; exact hlt)
      have hll : (mapTo (fun i => fscale (l.getD i 0) (zs.getD i 0)) i).length = i := mapTo_length _ _
      obtain ⟨z, hz⟩ : ∃ z, Hid (z = l.getD i 0) := ⟨_, hid rfl⟩
      obtain ⟨k, hk⟩ : ∃ k, Hid (k = zs.getD i 0) := ⟨_, hid rfl⟩
      rw [← hz.out] at hf
      rw [← hk.out] at hb2
      have hbr := (gw.cell hblk).trans hb
      have hb2r := (gw.cell hblk2).trans hb2
      clear hc hc2
      go_wp2
      refine wp_region_R (Grew w) [] [(0,0), (0,1), (0,2), (0,3), (0,4), (0,5), (0,6), (0,7), (0,8), (1,9), (1,10), (1,11), (0,12)] (by kernel_rfl) (by kernel_rfl) (fun _ _ _ _ h _ => h) (by first | exact ⟨_, _, ext_drew⟩ | exact ⟨_, _, drew_ext0⟩ | (show Grew _ _; repeat (first | (with_reducible exact Grew.refl _) | (with_reducible assumption) | (with_reducible refine Grew.ext ?_ _ _) | (with_reducible refine Grew.alloc ?_ _) | ((with_reducible refine Grew.setCell ?_ ?_ _); rotate_left; (focus (dsimp only; first | omega | (simp only [size_ext, World.size_alloc, Array.size_append]; omega)))) | (with_reducible refine Grew.drewN ?_ _) | (with_reducible refine Grew.drew ?_)))) ?_
      go_wp2_with (first | ((with_reducible refine wpR_id ?_); refine wpR_do rfl rfl (fun K hK => ?_); (with_reducible refine wp_app ?_); refine appendN_K (W := w) (v := u5) (xs := mapTo (fun i => fscale (l.getD i 0) (zs.getD i 0)) i) (ws := [fscale z k]) finfo ?_ ?_ ?_ ((by rw [hll]; simp; omega)) _ _ rfl rfl rfl rfl ?_; (focus (show Grew _ _; repeat (first | (with_reducible exact Grew.refl _) | (with_reducible assumption) | (with_reducible refine Grew.ext ?_ _ _) | (with_reducible refine Grew.alloc ?_ _) | ((with_reducible refine Grew.setCell ?_ ?_ _); rotate_left; (focus (dsimp only; first | omega | (simp only [size_ext, World.size_alloc, Array.size_append]; omega)))) | (with_reducible refine Grew.drewN ?_ _) | (with_reducible refine Grew.drew ?_)))); (focus (refine OwnF.grew (w := wr) ?_ ?_; (focus (with_reducible assumption)); (focus (show Grew _ _; repeat (first | (with_reducible exact Grew.refl _) | (with_reducible assumption) | (with_reducible refine Grew.ext ?_ _ _) | (with_reducible refine Grew.alloc ?_ _) | ((with_reducible refine Grew.setCell ?_ ?_ _); rotate_left; (focus (dsimp only; first | omega | (simp only [size_ext, World.size_alloc, Array.size_append]; omega)))) | (with_reducible refine Grew.drewN ?_ _) | (with_reducible refine Grew.drew ?_)))))); (focus (refine FS_one (y := fscale z k) ?_ _ ?_; (focus (exact hr)); (focus (first | rfl | (simp only [size_ext, World.size_alloc, Array.size_append]; done) | (simp only [size_ext, World.size_alloc, Array.size_append]; omega))))); intro v oo nn ho hn) | ((with_reducible refine wpR_id ?_); first | (refine wpR_take (v := ?_) rfl rfl ?_ ?_; rotate_left; (focus (rintro w' ⟨o', n', rfl⟩; go_simp; try with_reducible rfl)); simp only [Act.put, List.setIfInBounds_toArray, List.set_cons_zero, List.set_cons_succ]) | (refine wpR_pure (v := ?_) rfl rfl ?_ ?_; rotate_left; (focus (intro w'; go_simp; try with_reducible rfl)); simp only [Act.put, List.setIfInBounds_toArray, List.set_cons_zero, List.set_cons_succ]) | (refine wpR_takeG (v := ?_) rfl rfl rfl rfl rfl ?_ ?_; rotate_left; (focus (rintro w' ⟨o', n', rfl⟩; go_simp; try with_reducible rfl)); simp only [Act.put, List.setIfInBounds_toArray, List.set_cons_zero, List.set_cons_succ]) | (refine wpR_skip rfl rfl rfl rfl rfl rfl ?_; simp only [Act.put, List.setIfInBounds_toArray, List.set_cons_zero, List.set_cons_succ]) | (refine wpR_skipU rfl rfl rfl rfl rfl ?_; simp only [Act.put, List.setIfInBounds_toArray, List.set_cons_zero, List.set_cons_succ]) | (refine wpR_do rfl rfl (fun K hK => ?_)) | (refine wpR_doG rfl rfl rfl rfl rfl (fun K hK => ?_)) | (refine wpR_last rfl rfl (fun K hK => ?_)) | (refine wpR_nil ?_)) | ((with_reducible refine wpR_go ?_ ?_); (focus (show Grew _ _; repeat (first | (with_reducible exact Grew.refl _) | (with_reducible assumption) | (with_reducible refine Grew.ext ?_ _ _) | (with_reducible refine Grew.alloc ?_ _) | ((with_reducible refine Grew.setCell ?_ ?_ _); rotate_left; (focus (dsimp only; first | omega | (simp only [size_ext, World.size_alloc, Array.size_append]; omega)))) | (with_reducible refine Grew.drewN ?_ _) | (with_reducible refine Grew.drew ?_))))) | ((with_reducible refine upon_id ?_); refine upon_fop rfl (by assumption) (by assumption) ?_; intro rr nn hr) | (go_at_call 165; ((with_reducible refine (rscale_any b z k _ hf).mono ?_); rintro e w1 ⟨rr, rfl, hr, rfl⟩)))
      go_roundw
      case rel => exact ⟨i + 1, oo, nn, by omega, by go_num, rfl, by rw [mapTo_succ, ← hz.out, ← hk.out]; exact ho⟩
      case measure => simp [intOf]; omega
    · have e : i = l.length := by omega
      have hfs := hown.fs (by rw [mapTo_length]; omega)
      rw [e] at hfs
      go_wp2
      go_ret
      exact ⟨_, rfl, hfs, gw⟩
end Go.Proofs.Ytcmggfpcbijcjaa
end
