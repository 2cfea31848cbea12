/-
  Texts laid one behind the other (a claim has at most 60 files): Axes2, Axes3, Axes4, Vec4, Vec5, Aw06, Back, LawBack.
-/
import Derived.Test.YtcmggfpcbijcjaaQEquilFactors1
import Derived.Test.YtcmggfpcbijcjaaQEquilFactors2
import Derived.Test.YtcmggfpcbijcjaaQEquilFactors3
import Derived.Test.YtcmggfpcbijcjaaQEquilFactors4
import Derived.Test.YtcmggfpcbijcjaaQEquilFactors5
import Derived.Test.YtcmggfpcbijcjaaQEquilFactors6
import Derived.Test.YtcmggfpcbijcjaaQEquilFactors7
section
/-
  Contracts: axes.Scal, axes.Shift, axes.Axpy (lists apart).
-/
set_option linter.unusedSimpArgs false
set_option linter.unusedVariables false
open Go Go.RowKit Sedge
namespace Go.Proofs.Ytcmggfpcbijcjaa
/-- With the place at hand: the numbers up to i are made. -/
def stepI (F : Nat → Nat → Nat) (s : Nat → Nat) (i r : Nat) : Nat := if r < i then F r (s r) else s r
theorem stepI_set {x : VecM} {L : List Nat} {s : Nat → Nat} {F : Nat → Nat → Nat} {i v : Nat} (h : VH x L (stepI F s i)) (hx : x.right = true) (hi : (i : Int) < x.n) (hv : v = F i (s i)) : VH x (L.set (x.place i) v) (stepI F s (i + 1)) := by
  refine (h.set hx hi).congr fun r hr => ?_
  unfold stepI
  by_cases e : r = i
  · subst e; simp [hv]
  · rw [if_neg e]
    by_cases h2 : r < i
    · rw [if_pos h2, if_pos (by omega)]
    · rw [if_neg h2, if_neg (by omega)]
def axL (F : Nat → Nat → Nat) (x : VecM) : List Nat := VecMwrite x ((List.range x.n.toNat).map fun i => F i (x.num i))
/-- The state of a closure that writes the vector's numbers one by one. -/
def RW1 (x : VecM) (g : Nat) (F : Nat → Nat → Nat) (W1 : World) (i : Nat) (w' : World) : Prop := But W1 [g] w' ∧ ∃ L, FW w' g L ∧ VH x L (stepI F x.num i)
theorem RW1.start {x : VecM} {g : Nat} {F : Nat → Nat → Nat} {w : World} (hF : FW w g x.ws) : ∀ W1, Grew w W1 → RW1 x g F W1 0 W1 :=
  fun W1 h => ⟨But.refl _ _, x.ws, hF.grew h, (VH.start x).congr fun r _ => by simp [stepI]⟩
theorem RW1.done {x : VecM} {g : Nat} {F : Nat → Nat → Nat} {W1 w' : World} (h : RW1 x g F W1 x.n.toNat w') (hx : x.right = true) : FW w' g (axL F x) := by
  obtain ⟨_, L, h1, h2⟩ := h
  have h3 := (h2.congr (t := fun r => F r (x.num r)) fun r hr => by unfold stepI; rw [if_pos (by omega)]).final hx
  unfold axL
  rw [← h3]; exact h1
theorem RW1.next {x : VecM} {g i r : Nat} {F : Nat → Nat → Nat} {W1 w' : World} {L : List Nat} (hB : But W1 [g] w') (hL : FW w' g L) (hS : VH x L (stepI F x.num i)) (hx : x.right = true) (hi : (i : Int) < x.n) (hr : IsF r (F i (x.num i))) (o : Array Obj) (n : Nat) : RW1 x g F W1 (i + 1) (ext (w'.setCell ⟨g, x.place i, none⟩ (.float .f64 r)) o n) :=
  ⟨(hB.setc hL (by simp)).grew ⟨_, _, rfl⟩, _, (hL.setc (k := x.place i) hr).ext _ _, stepI_set hS hx hi rfl⟩
theorem RW1.cell {x : VecM} {g i : Nat} {F : Nat → Nat → Nat} {w' : World} {L : List Nat} (hL : FW w' g L) (hS : VH x L (stepI F x.num i)) (hx : x.right = true) (hi : (i : Int) < x.n) : ∃ r0, w'.cell? ⟨g, x.place i, none⟩ = some (.float .f64 r0) ∧ IsF r0 (x.num i) := by
  obtain ⟨r0, hr0, hf0⟩ := hL.get (i := x.place i) (by rw [hS.len]; exact VecM.place_lt hx hi)
  rw [hS.get i hi] at hf0
  unfold stepI at hf0
  rw [if_neg (by omega)] at hf0
  exact ⟨r0, hr0, hf0⟩
set_option maxRecDepth 100000 in
set_option maxHeartbeats 1000000 in
/-- axes.Scal. -/
theorem scal_any (a α : Nat) (x : VecM) (g cap : Nat) (w : World) (ha : IsF a α) (hF : FW w g x.ws) (hx : x.right = true) (hwf : x.wf) (hl : x.ws.length ≤ 1000000) :
   Calls Try.prog 96 #[.float .f64 a, .agg #[.slice (some ⟨g, 0, none⟩) x.ws.length cap, .int .i64 x.off, .int .i64 x.n, .int .i64 x.inc]] w (fun e w' => e = .returned (.int .i64 0) ∧ But w [g] w' ∧ FW w' g (axL (fun _ z => fmul α z) x)) := by
  have hlt := hF.lt
  have hrt : ∀ w', FS w' (.slice (some ⟨g, 0, none⟩) x.ws.length cap) x.ws → Calls Try.prog 135 #[.agg #[.slice (some ⟨g, 0, none⟩) x.ws.length cap, .int .i64 x.off, .int .i64 x.n, .int .i64 x.inc]] w' (fun e w2 => e = .returned (.bool true) ∧ ∃ o n, w2 = ext w' o n) := fun w' h => by
    have := right_any x _ w' h hwf; rw [hx] at this; exact this
  have hEach : ∀ T w', FW w' g x.ws → (∀ i, w'.cell? ⟨T, i, none⟩ = (#[.float .f64 a] : Array Value)[i]?) → T < w'.heap.size → T ≠ g → Calls Try.prog 117 #[.agg #[.slice (some ⟨g, 0, none⟩) x.ws.length cap, .int .i64 x.off, .int .i64 x.n, .int .i64 x.inc], .func (.func 172) #[] #[.pointer (some ⟨T, 0, none⟩)]] w' (fun e w2 => e = .returned (.tuple #[]) ∧ But w' [g] w2 ∧ FW w2 g (axL (fun _ z => fmul α z) x)) := fun T w' h1 h2 h3 h4 => by
    refine (eachScal x _ g 0 cap _ (RW1 x g fun _ z => fmul α z) [g] w' hx hl (fun _ => rfl) (RW1.start h1) (fun _ _ _ h => h.1) (by simp; exact h1.lt) ?_).mono fun e w2 hh => ?_
    · intro W1 i w2 hg hi hR
      obtain ⟨hB, L, hL, hS⟩ := hR
      obtain ⟨r0, q1, q2⟩ := RW1.cell hL hS hx hi
      have z1 := hg.below.size
      have z2 := hB.size
      rw [Nat.zero_add]
      refine (scl_any i (x.place i) g T a α r0 _ w2 (fun i => (hB.cell (by omega) (by simpa using h4)).trans ((hg.cell h3).trans (h2 i))) ha (by omega) hL.lt q1 q2 hL.notFrozen).mono fun e w3 hh => ?_
      obtain ⟨e1, r, e2, o, n, rfl⟩ := hh
      exact ⟨e1, RW1.next hB hL hS hx hi e2 o n⟩
    · obtain ⟨e1, W1, e2, e3⟩ := hh
      exact ⟨e1, ((But.refl w' [g]).grew e2).trans e3.1 (fun _ hb => .inl hb), e3.done hx⟩
  clear hx hwf
  have hmf := hmf
  go_enter Try.func96, Try.ntmps96
  refine seq_stop ?_
  go_wp2
  refine stop_go (fun W hW => ?_)
  have s1 : w.heap.size < W.heap.size := by rw [hW]; simp only [World.size_alloc]; omega
  have b1 : ∀ i, W.cell? ⟨w.heap.size, i, none⟩ = (#[.float .f64 a] : Array Value)[i]? := by intro i; rw [hW]; go_simp
  have s2 : w.heap.size + 1 < W.heap.size := by rw [hW]; simp only [World.size_alloc]; omega
  have b2 : ∀ i, W.cell? ⟨w.heap.size + 1, i, none⟩ = (#[.slice (some ⟨g, 0, none⟩) x.ws.length cap, .int .i64 x.off, .int .i64 x.n, .int .i64 x.inc] : Array Value)[i]? := by intro i; rw [hW]; go_simp
  have g0 : Grew w W := by rw [hW]; exact ((Grew.refl _).alloc _).alloc _
  clear hW
  have hFW := hF.grew g0
  have hXW := hFW.fs (by omega) cap
  have zW := g0.below.size
  go_wp2_with (first | (go_at_call 135; ((with_reducible refine (hrt _ ?_).mono ?_); (focus (first | (with_reducible assumption) | (with_reducible refine FS.ext ?_ _ _; with_reducible assumption) | (with_reducible refine IS.ext ?_ _ _; with_reducible assumption) | (refine hDu _ ?_; with_reducible assumption) | (refine hOu _ ?_; with_reducible assumption) | (refine hDa _ ?_; with_reducible assumption) | (refine hDb _ ?_; with_reducible assumption) | (refine hDc _ ?_; with_reducible assumption) | (refine hDd _ ?_; with_reducible assumption) | (refine FW.fs ?_ (by omega) _; with_reducible assumption) | (refine WS.fs ?_; with_reducible assumption) | (refine FW.fs ?_ (by omega) _; assumption) | omega | assumption)); rintro e w1 ⟨rfl, oa, na, rfl⟩)) | (go_at_call 117; ((with_reducible refine (hEach w.heap.size _ (hFW.ext _ _) (fun i => (cell_ext s1).trans (b1 i)) (by simp only [size_ext]; omega) (by omega)).mono ?_); rintro e w1 ⟨rfl, hB1, hF1⟩)))
  go_ret
  exact ⟨rfl, ((But.refl w [g]).grew (Grew.trans g0 ⟨_, _, rfl⟩)).trans hB1 (fun _ hb => .inl hb), hF1⟩
set_option maxRecDepth 100000 in
set_option maxHeartbeats 1000000 in
/-- axes.Scal of what is no vector. -/
theorem scal_no (a : Nat) (x : VecM) (D : Value) (w : World) (hD : FS w D x.ws) (hx : x.right = false) (hwf : x.wf) :
   Calls Try.prog 96 #[.float .f64 a, .agg #[D, .int .i64 x.off, .int .i64 x.n, .int .i64 x.inc]] w (fun e w' => e = .returned (.int .i64 1) ∧ ∃ o n, w' = ext w o n) := by
  have hrt : ∀ w', FS w' D x.ws → Calls Try.prog 135 #[.agg #[D, .int .i64 x.off, .int .i64 x.n, .int .i64 x.inc]] w' (fun e w2 => e = .returned (.bool false) ∧ ∃ o n, w2 = ext w' o n) := fun w' h => by
    have := right_any x _ w' h hwf; rw [hx] at this; exact this
  clear hx hwf
  go_enter Try.func96, Try.ntmps96
  refine seq_stop ?_
  go_wp2
  refine stop_go (fun W hW => ?_)
  have s1 : w.heap.size < W.heap.size := by rw [hW]; simp only [World.size_alloc]; omega
  have b1 : ∀ i, W.cell? ⟨w.heap.size, i, none⟩ = (#[.float .f64 a] : Array Value)[i]? := by intro i; rw [hW]; go_simp
  have s2 : w.heap.size + 1 < W.heap.size := by rw [hW]; simp only [World.size_alloc]; omega
  have b2 : ∀ i, W.cell? ⟨w.heap.size + 1, i, none⟩ = (#[D, .int .i64 x.off, .int .i64 x.n, .int .i64 x.inc] : Array Value)[i]? := by intro i; rw [hW]; go_simp
  have g0 : Grew w W := by rw [hW]; exact ((Grew.refl _).alloc _).alloc _
  clear hW
  have hDW := hD.grew g0
  go_wp2_with (first | (go_at_call 135; ((with_reducible refine (hrt _ ?_).mono ?_); (focus (first | (with_reducible assumption) | (with_reducible refine FS.ext ?_ _ _; with_reducible assumption) | (with_reducible refine IS.ext ?_ _ _; with_reducible assumption) | (refine hDu _ ?_; with_reducible assumption) | (refine hOu _ ?_; with_reducible assumption) | (refine hDa _ ?_; with_reducible assumption) | (refine hDb _ ?_; with_reducible assumption) | (refine hDc _ ?_; with_reducible assumption) | (refine hDd _ ?_; with_reducible assumption) | (refine FW.fs ?_ (by omega) _; with_reducible assumption) | (refine WS.fs ?_; with_reducible assumption) | (refine FW.fs ?_ (by omega) _; assumption) | omega | assumption)); rintro e w1 ⟨rfl, oa, na, rfl⟩)))
  go_ret
  exact ⟨rfl, by (show Grew _ _; repeat (first | (with_reducible exact Grew.refl _) | (with_reducible assumption) | (with_reducible exact Grew.same_o) | (with_reducible exact Grew.app_o) | (with_reducible refine Grew.ext ?_ _ _) | (with_reducible refine Grew.alloc ?_ _) | ((with_reducible refine Grew.setCell ?_ ?_ _); rotate_left; (focus (dsimp only; first | omega | (simp only [size_ext, World.size_alloc, Array.size_append]; omega)))) | (with_reducible refine Grew.drewN ?_ _) | (with_reducible refine Grew.drew ?_)))⟩
set_option maxRecDepth 100000 in
set_option maxHeartbeats 1000000 in
/-- axes.Shift. -/
theorem shift_any (x : VecM) (g cap : Nat) (O : Value) (zs : List Int) (w : World) (hF : FW w g x.ws) (hO : IS .i64 w O zs) (hx : x.right = true) (hwf : x.wf) (hl : x.ws.length ≤ 1000000) (hn : (zs.length : Int) = x.n) (hOg : ∀ w', But w [g] w' → IS .i64 w' O zs) :
   Calls Try.prog 85 #[.agg #[.slice (some ⟨g, 0, none⟩) x.ws.length cap, .int .i64 x.off, .int .i64 x.n, .int .i64 x.inc], O] w (fun e w' => e = .returned (.int .i64 0) ∧ But w [g] w' ∧ FW w' g (axL (fun i z => fscale z (zs.getD i 0)) x)) := by
  have hlt := hF.lt
  obtain ⟨aO, cO, rfl⟩ := hO.shape
  have hrt : ∀ w', FS w' (.slice (some ⟨g, 0, none⟩) x.ws.length cap) x.ws → Calls Try.prog 135 #[.agg #[.slice (some ⟨g, 0, none⟩) x.ws.length cap, .int .i64 x.off, .int .i64 x.n, .int .i64 x.inc]] w' (fun e w2 => e = .returned (.bool true) ∧ ∃ o n, w2 = ext w' o n) := fun w' h => by
    have := right_any x _ w' h hwf; rw [hx] at this; exact this
  have hEach : ∀ T w', Grew w w' → FW w' g x.ws → (∀ i, w'.cell? ⟨T, i, none⟩ = (#[.slice aO zs.length cO] : Array Value)[i]?) → T < w'.heap.size → T ≠ g → Calls Try.prog 117 #[.agg #[.slice (some ⟨g, 0, none⟩) x.ws.length cap, .int .i64 x.off, .int .i64 x.n, .int .i64 x.inc], .func (.func 161) #[] #[.pointer (some ⟨T, 0, none⟩)]] w' (fun e w2 => e = .returned (.tuple #[]) ∧ But w' [g] w2 ∧ FW w2 g (axL (fun i z => fscale z (zs.getD i 0)) x)) := fun T w' hb h1 h2 h3 h4 => by
    refine (eachShift x _ g 0 cap _ (RW1 x g fun i z => fscale z (zs.getD i 0)) [g] w' hx hl (fun _ => rfl) (RW1.start h1) (fun _ _ _ h => h.1) (by simp; exact h1.lt) ?_).mono fun e w2 hh => ?_
    · intro W1 i w2 hg hi hR
      obtain ⟨hB, L, hL, hS⟩ := hR
      obtain ⟨r0, q1, q2⟩ := RW1.cell hL hS hx hi
      have z1 := hg.below.size
      have z2 := hB.size
      rw [Nat.zero_add]
      refine (shl_any i (x.place i) g T r0 _ _ zs w2 (fun i => (hB.cell (by omega) (by simpa using h4)).trans ((hg.cell h3).trans (h2 i))) (hOg _ ((((But.refl w [g]).grew hb).grew hg).trans hB (fun _ hb => .inl hb))) (by omega) (by omega) hL.lt q1 q2 hL.notFrozen).mono fun e w3 hh => ?_
      obtain ⟨e1, r, e2, o, n, rfl⟩ := hh
      exact ⟨e1, RW1.next hB hL hS hx hi e2 o n⟩
    · obtain ⟨e1, W1, e2, e3⟩ := hh
      exact ⟨e1, ((But.refl w' [g]).grew e2).trans e3.1 (fun _ hb => .inl hb), e3.done hx⟩
  have d1 : ((zs.length : Int) != x.n) = false := by simpa using hn
  clear hx hwf hn hOg
  have hmf := hmf
  go_enter Try.func85, Try.ntmps85
  refine seq_stop ?_
  go_wp2
  refine stop_go (fun W hW => ?_)
  have s1 : w.heap.size < W.heap.size := by rw [hW]; simp only [World.size_alloc]; omega
  have b1 : ∀ i, W.cell? ⟨w.heap.size, i, none⟩ = (#[.slice (some ⟨g, 0, none⟩) x.ws.length cap, .int .i64 x.off, .int .i64 x.n, .int .i64 x.inc] : Array Value)[i]? := by intro i; rw [hW]; go_simp
  have s2 : w.heap.size + 1 < W.heap.size := by rw [hW]; simp only [World.size_alloc]; omega
  have b2 : ∀ i, W.cell? ⟨w.heap.size + 1, i, none⟩ = (#[.slice aO zs.length cO] : Array Value)[i]? := by intro i; rw [hW]; go_simp
  have g0 : Grew w W := by rw [hW]; exact ((Grew.refl _).alloc _).alloc _
  clear hW
  have hFW := hF.grew g0
  have hXW := hFW.fs (by omega) cap
  have zW := g0.below.size
  go_wp2_with (first | (go_at_call 135; ((with_reducible refine (hrt _ ?_).mono ?_); (focus (first | (with_reducible assumption) | (with_reducible refine FS.ext ?_ _ _; with_reducible assumption) | (with_reducible refine IS.ext ?_ _ _; with_reducible assumption) | (refine hDu _ ?_; with_reducible assumption) | (refine hOu _ ?_; with_reducible assumption) | (refine hDa _ ?_; with_reducible assumption) | (refine hDb _ ?_; with_reducible assumption) | (refine hDc _ ?_; with_reducible assumption) | (refine hDd _ ?_; with_reducible assumption) | (refine FW.fs ?_ (by omega) _; with_reducible assumption) | (refine WS.fs ?_; with_reducible assumption) | (refine FW.fs ?_ (by omega) _; assumption) | omega | assumption)); rintro e w1 ⟨rfl, oa, na, rfl⟩)) | (go_at_call 117; ((with_reducible refine (hEach (w.heap.size + 1) _ (Grew.trans g0 (by (show Grew _ _; repeat (first | (with_reducible exact Grew.refl _) | (with_reducible assumption) | (with_reducible exact Grew.same_o) | (with_reducible exact Grew.app_o) | (with_reducible refine Grew.ext ?_ _ _) | (with_reducible refine Grew.alloc ?_ _) | ((with_reducible refine Grew.setCell ?_ ?_ _); rotate_left; (focus (dsimp only; first | omega | (simp only [size_ext, World.size_alloc, Array.size_append]; omega)))) | (with_reducible refine Grew.drewN ?_ _) | (with_reducible refine Grew.drew ?_))))) (hFW.ext _ _) (fun i => (cell_ext s2).trans (b2 i)) (by simp only [size_ext]; omega) (by omega)).mono ?_); rintro e w1 ⟨rfl, hB1, hF1⟩)))
  go_ret
  exact ⟨rfl, ((But.refl w [g]).grew (Grew.trans g0 ⟨_, _, rfl⟩)).trans hB1 (fun _ hb => .inl hb), hF1⟩
set_option maxRecDepth 100000 in
set_option maxHeartbeats 1000000 in
/-- axes.Shift that tells an error. -/
theorem shift_no (x : VecM) (D O : Value) (zs : List Int) (w : World) (hD : FS w D x.ws) (hO : IS .i64 w O zs) (hwf : x.wf) (hne : x.right = false ∨ (zs.length : Int) ≠ x.n) :
   Calls Try.prog 85 #[.agg #[D, .int .i64 x.off, .int .i64 x.n, .int .i64 x.inc], O] w (fun e w' => e = .returned (.int .i64 (if x.right = false then 1 else 3)) ∧ ∃ o n, w' = ext w o n) := by
  obtain ⟨aO, cO, rfl⟩ := hO.shape
  cases hx : x.right
  · have hrt : ∀ w', FS w' D x.ws → Calls Try.prog 135 #[.agg #[D, .int .i64 x.off, .int .i64 x.n, .int .i64 x.inc]] w' (fun e w2 => e = .returned (.bool false) ∧ ∃ o n, w2 = ext w' o n) := fun w' h => by
      have := right_any x _ w' h hwf; rw [hx] at this; exact this
    clear hx hwf hne
    go_enter Try.func85, Try.ntmps85
    refine seq_stop ?_
    go_wp2
    refine stop_go (fun W hW => ?_)
    have s1 : w.heap.size < W.heap.size := by rw [hW]; simp only [World.size_alloc]; omega
    have b1 : ∀ i, W.cell? ⟨w.heap.size, i, none⟩ = (#[D, .int .i64 x.off, .int .i64 x.n, .int .i64 x.inc] : Array Value)[i]? := by intro i; rw [hW]; go_simp
    have s2 : w.heap.size + 1 < W.heap.size := by rw [hW]; simp only [World.size_alloc]; omega
    have b2 : ∀ i, W.cell? ⟨w.heap.size + 1, i, none⟩ = (#[.slice aO zs.length cO] : Array Value)[i]? := by intro i; rw [hW]; go_simp
    have g0 : Grew w W := by rw [hW]; exact ((Grew.refl _).alloc _).alloc _
    clear hW
    have hDW := hD.grew g0
    go_wp2_with (first | (go_at_call 135; ((with_reducible refine (hrt _ ?_).mono ?_); (focus (first | (with_reducible assumption) | (with_reducible refine FS.ext ?_ _ _; with_reducible assumption) | (with_reducible refine IS.ext ?_ _ _; with_reducible assumption) | (refine hDu _ ?_; with_reducible assumption) | (refine hOu _ ?_; with_reducible assumption) | (refine hDa _ ?_; with_reducible assumption) | (refine hDb _ ?_; with_reducible assumption) | (refine hDc _ ?_; with_reducible assumption) | (refine hDd _ ?_; with_reducible assumption) | (refine FW.fs ?_ (by omega) _; with_reducible assumption) | (refine WS.fs ?_; with_reducible assumption) | (refine FW.fs ?_ (by omega) _; assumption) | omega | assumption)); rintro e w1 ⟨rfl, oa, na, rfl⟩)))
    go_ret
    exact ⟨rfl, by (show Grew _ _; repeat (first | (with_reducible exact Grew.refl _) | (with_reducible assumption) | (with_reducible exact Grew.same_o) | (with_reducible exact Grew.app_o) | (with_reducible refine Grew.ext ?_ _ _) | (with_reducible refine Grew.alloc ?_ _) | ((with_reducible refine Grew.setCell ?_ ?_ _); rotate_left; (focus (dsimp only; first | omega | (simp only [size_ext, World.size_alloc, Array.size_append]; omega)))) | (with_reducible refine Grew.drewN ?_ _) | (with_reducible refine Grew.drew ?_)))⟩
  · have hrt : ∀ w', FS w' D x.ws → Calls Try.prog 135 #[.agg #[D, .int .i64 x.off, .int .i64 x.n, .int .i64 x.inc]] w' (fun e w2 => e = .returned (.bool true) ∧ ∃ o n, w2 = ext w' o n) := fun w' h => by
      have := right_any x _ w' h hwf; rw [hx] at this; exact this
    have d1 : ((zs.length : Int) != x.n) = true := by
      rcases hne with h | h
      · rw [hx] at h; cases h
      · simpa using h
    clear hx hwf hne
    go_enter Try.func85, Try.ntmps85
    refine seq_stop ?_
    go_wp2
    refine stop_go (fun W hW => ?_)
    have s1 : w.heap.size < W.heap.size := by rw [hW]; simp only [World.size_alloc]; omega
    have b1 : ∀ i, W.cell? ⟨w.heap.size, i, none⟩ = (#[D, .int .i64 x.off, .int .i64 x.n, .int .i64 x.inc] : Array Value)[i]? := by intro i; rw [hW]; go_simp
    have s2 : w.heap.size + 1 < W.heap.size := by rw [hW]; simp only [World.size_alloc]; omega
    have b2 : ∀ i, W.cell? ⟨w.heap.size + 1, i, none⟩ = (#[.slice aO zs.length cO] : Array Value)[i]? := by intro i; rw [hW]; go_simp
    have g0 : Grew w W := by rw [hW]; exact ((Grew.refl _).alloc _).alloc _
    clear hW
    have hDW := hD.grew g0
    go_wp2_with (first | (go_at_call 135; ((with_reducible refine (hrt _ ?_).mono ?_); (focus (first | (with_reducible assumption) | (with_reducible refine FS.ext ?_ _ _; with_reducible assumption) | (with_reducible refine IS.ext ?_ _ _; with_reducible assumption) | (refine hDu _ ?_; with_reducible assumption) | (refine hOu _ ?_; with_reducible assumption) | (refine hDa _ ?_; with_reducible assumption) | (refine hDb _ ?_; with_reducible assumption) | (refine hDc _ ?_; with_reducible assumption) | (refine hDd _ ?_; with_reducible assumption) | (refine FW.fs ?_ (by omega) _; with_reducible assumption) | (refine WS.fs ?_; with_reducible assumption) | (refine FW.fs ?_ (by omega) _; assumption) | omega | assumption)); rintro e w1 ⟨rfl, oa, na, rfl⟩)))
    go_ret
    exact ⟨rfl, by (show Grew _ _; repeat (first | (with_reducible exact Grew.refl _) | (with_reducible assumption) | (with_reducible exact Grew.same_o) | (with_reducible exact Grew.app_o) | (with_reducible refine Grew.ext ?_ _ _) | (with_reducible refine Grew.alloc ?_ _) | ((with_reducible refine Grew.setCell ?_ ?_ _); rotate_left; (focus (dsimp only; first | omega | (simp only [size_ext, World.size_alloc, Array.size_append]; omega)))) | (with_reducible refine Grew.drewN ?_ _) | (with_reducible refine Grew.drew ?_)))⟩
end Go.Proofs.Ytcmggfpcbijcjaa
end
section
/-
  Contracts: axes.Sign.
-/
set_option linter.unusedSimpArgs false
set_option linter.unusedVariables false
open Go Go.RowKit Sedge
namespace Go.Proofs.Ytcmggfpcbijcjaa
theorem ownF_same {e : TypeId} {w w' : World} {B : Nat} {v : Value} {xs : List Nat} (h : OwnF e w B v xs) (hs : ∀ k, B ≤ k → w'.heap[k]? = w.heap[k]?) : OwnF e w' B v xs := by
  obtain ⟨bs, ⟨h0, h1⟩, h2, h3⟩ := h
  refine ⟨bs, ⟨h0, ?_⟩, h2, h3⟩
  rcases h1 with h1 | ⟨gg, cap, cur, hv, hB, hh, r⟩
  · exact .inl h1
  · exact .inr ⟨gg, cap, cur, hv, hB, by rw [hs gg hB]; exact hh, r⟩
theorem upd_other {w : World} {T k : Nat} {c c' : Array Value} {o : Array Obj} {n : Nat} (h : k ≠ T) : (ext (upd w T c) o n).heap[k]? = (ext (upd w T c') o n).heap[k]? := by
  have e : ∀ c : Array Value, (ext (upd w T c) o n).heap = (upd w T c).heap ++ o := fun _ => rfl
  rw [e, e, Array.getElem?_append, Array.getElem?_append, size_upd, size_upd, block_upd_ne h, block_upd_ne h]
theorem gt_eq0 {r X : Nat} (hr : IsF r X) : (FloatKind.f64.format.order r 0 == some .gt) = fgt X 0 := by unfold fgt; rw [← hr.order isF_zero]; rfl
/-- What sign a number has: 1 or -1. -/
def sgF (z : Nat) : Nat := if (fgt z 0 || feq z 0) = true then 4607182418800017408 else 13830554455654793216
set_option maxRecDepth 100000 in
set_option maxHeartbeats 1000000 in
/-- axes.Sign's closure. -/
theorem sgcl_any (i pl blk T b z : Nat) (v : Value) (xs : List Nat) (W1 w : World) (gw : Grew (upd W1 T #[v]) w) (hown : OwnF 22 w W1.heap.size v xs) (kT : T < W1.heap.size) (hT : ∀ i, (upd W1 T #[v]).cell? ⟨T, i, none⟩ = (#[v] : Array Value)[i]?)
    (hc : w.cell? ⟨blk, pl, none⟩ = some (.float .f64 b)) (hf : IsF b z) (fz : ∀ i, (upd W1 T #[v]).frozen? ⟨T, i, none⟩ = false) (hlen : xs.length ≤ 1000000) :
   Calls Try.prog 173 #[.int .i64 i, .pointer (some ⟨blk, pl, none⟩), .pointer (some ⟨T, 0, none⟩)] w
     (fun e w' => e = .returned (.tuple #[]) ∧ ∃ v' o n, w' = ext (upd W1 T #[v']) o n ∧ OwnF 22 w' W1.heap.size v' (xs ++ [sgF z])) := by
  obtain ⟨U, hU⟩ : ∃ U, upd W1 T #[v] = U := ⟨_, rfl⟩
  have zU : U.heap.size = W1.heap.size := by rw [← hU]; exact size_upd
  have kU : T < U.heap.size := by omega
  rw [← zU] at hown
  rw [hU] at gw hT fz
  have hT' := fun i => (gw.cell kU).trans (hT i)
  have HU := hid hU
  have c1 : IsF 4607182418800017408 4607182418800017408 := by decide +kernel
  have c2 : IsF 13830554455654793216 13830554455654793216 := by decide +kernel
  have C1 := hid c1
  have C2 := hid c2
  have HZ := hid zU
  clear hU c1 c2 zU
  cases hp : fgt z 0
  · cases hq : feq z 0
    · have Q := hid (show sgF z = 13830554455654793216 by unfold sgF; rw [hp, hq]; rfl)
      have d1 := (gt_eq0 hf).trans hp
      have d2 := eq_is hf isF_zero hq
      go_enter Try.func173, Try.ntmps173
      go_wp2_with (first | ((at_builtin; refine append1_f (W := U) (v := v) (xs := xs) (y := sgF z) finfo ?_ ?_ ?_ ((by omega)) _ _ rfl rfl rfl ?_ rfl ?_; (focus (refine Grew.trans gw ?_; (show Grew _ _; repeat (first | (with_reducible exact Grew.refl _) | (with_reducible assumption) | (with_reducible exact Grew.same_o) | (with_reducible exact Grew.app_o) | (with_reducible refine Grew.ext ?_ _ _) | (with_reducible refine Grew.alloc ?_ _) | ((with_reducible refine Grew.setCell ?_ ?_ _); rotate_left; (focus (dsimp only; first | omega | (simp only [size_ext, World.size_alloc, Array.size_append]; omega)))) | (with_reducible refine Grew.drewN ?_ _) | (with_reducible refine Grew.drew ?_))))); (focus (refine OwnF.grew (w := w) ?_ ?_; (focus (with_reducible assumption)); (focus (show Grew _ _; repeat (first | (with_reducible exact Grew.refl _) | (with_reducible assumption) | (with_reducible exact Grew.same_o) | (with_reducible exact Grew.app_o) | (with_reducible refine Grew.ext ?_ _ _) | (with_reducible refine Grew.alloc ?_ _) | ((with_reducible refine Grew.setCell ?_ ?_ _); rotate_left; (focus (dsimp only; first | omega | (simp only [size_ext, World.size_alloc, Array.size_append]; omega)))) | (with_reducible refine Grew.drewN ?_ _) | (with_reducible refine Grew.drew ?_)))))); (focus ((rw [Q.out]; exact C2.out))); (focus (first | rfl | (simp only [size_ext, World.size_alloc, Array.size_append]; done) | (simp only [size_ext, World.size_alloc, Array.size_append]; omega))); intro v oo nn ho hn); obtain ⟨a9, c9, rfl⟩ := ho.length))
      go_end0
      refine ⟨rfl, _, _, _, (by rw [← HU.out, setCell_upd]; rfl), ?_⟩
      rw [HZ.out, show (xs ++ [sgF z]).length = xs.length + 1 by simp] at ho
      refine ownF_same ho fun k hk => ?_
      have hne : k ≠ T := by have := HZ.out; omega
      rw [← HU.out, setCell_upd]
      exact upd_other hne
    · have Q := hid (show sgF z = 4607182418800017408 by unfold sgF; rw [hp, hq]; rfl)
      have d1 := (gt_eq0 hf).trans hp
      have d2 := eq_is hf isF_zero hq
      go_enter Try.func173, Try.ntmps173
      go_wp2_with (first | ((at_builtin; refine append1_f (W := U) (v := v) (xs := xs) (y := sgF z) finfo ?_ ?_ ?_ ((by omega)) _ _ rfl rfl rfl ?_ rfl ?_; (focus (refine Grew.trans gw ?_; (show Grew _ _; repeat (first | (with_reducible exact Grew.refl _) | (with_reducible assumption) | (with_reducible exact Grew.same_o) | (with_reducible exact Grew.app_o) | (with_reducible refine Grew.ext ?_ _ _) | (with_reducible refine Grew.alloc ?_ _) | ((with_reducible refine Grew.setCell ?_ ?_ _); rotate_left; (focus (dsimp only; first | omega | (simp only [size_ext, World.size_alloc, Array.size_append]; omega)))) | (with_reducible refine Grew.drewN ?_ _) | (with_reducible refine Grew.drew ?_))))); (focus (refine OwnF.grew (w := w) ?_ ?_; (focus (with_reducible assumption)); (focus (show Grew _ _; repeat (first | (with_reducible exact Grew.refl _) | (with_reducible assumption) | (with_reducible exact Grew.same_o) | (with_reducible exact Grew.app_o) | (with_reducible refine Grew.ext ?_ _ _) | (with_reducible refine Grew.alloc ?_ _) | ((with_reducible refine Grew.setCell ?_ ?_ _); rotate_left; (focus (dsimp only; first | omega | (simp only [size_ext, World.size_alloc, Array.size_append]; omega)))) | (with_reducible refine Grew.drewN ?_ _) | (with_reducible refine Grew.drew ?_)))))); (focus ((rw [Q.out]; exact C1.out))); (focus (first | rfl | (simp only [size_ext, World.size_alloc, Array.size_append]; done) | (simp only [size_ext, World.size_alloc, Array.size_append]; omega))); intro v oo nn ho hn); obtain ⟨a9, c9, rfl⟩ := ho.length))
      go_end0
      refine ⟨rfl, _, _, _, (by rw [← HU.out, setCell_upd]; rfl), ?_⟩
      rw [HZ.out, show (xs ++ [sgF z]).length = xs.length + 1 by simp] at ho
      refine ownF_same ho fun k hk => ?_
      have hne : k ≠ T := by have := HZ.out; omega
      rw [← HU.out, setCell_upd]
      exact upd_other hne
  · cases hq : feq z 0
    · have Q := hid (show sgF z = 4607182418800017408 by unfold sgF; rw [hp, hq]; rfl)
      have d1 := (gt_eq0 hf).trans hp
      have d2 := eq_is hf isF_zero hq
      go_enter Try.func173, Try.ntmps173
      go_wp2_with (first | ((at_builtin; refine append1_f (W := U) (v := v) (xs := xs) (y := sgF z) finfo ?_ ?_ ?_ ((by omega)) _ _ rfl rfl rfl ?_ rfl ?_; (focus (refine Grew.trans gw ?_; (show Grew _ _; repeat (first | (with_reducible exact Grew.refl _) | (with_reducible assumption) | (with_reducible exact Grew.same_o) | (with_reducible exact Grew.app_o) | (with_reducible refine Grew.ext ?_ _ _) | (with_reducible refine Grew.alloc ?_ _) | ((with_reducible refine Grew.setCell ?_ ?_ _); rotate_left; (focus (dsimp only; first | omega | (simp only [size_ext, World.size_alloc, Array.size_append]; omega)))) | (with_reducible refine Grew.drewN ?_ _) | (with_reducible refine Grew.drew ?_))))); (focus (refine OwnF.grew (w := w) ?_ ?_; (focus (with_reducible assumption)); (focus (show Grew _ _; repeat (first | (with_reducible exact Grew.refl _) | (with_reducible assumption) | (with_reducible exact Grew.same_o) | (with_reducible exact Grew.app_o) | (with_reducible refine Grew.ext ?_ _ _) | (with_reducible refine Grew.alloc ?_ _) | ((with_reducible refine Grew.setCell ?_ ?_ _); rotate_left; (focus (dsimp only; first | omega | (simp only [size_ext, World.size_alloc, Array.size_append]; omega)))) | (with_reducible refine Grew.drewN ?_ _) | (with_reducible refine Grew.drew ?_)))))); (focus ((rw [Q.out]; exact C1.out))); (focus (first | rfl | (simp only [size_ext, World.size_alloc, Array.size_append]; done) | (simp only [size_ext, World.size_alloc, Array.size_append]; omega))); intro v oo nn ho hn); obtain ⟨a9, c9, rfl⟩ := ho.length))
      go_end0
      refine ⟨rfl, _, _, _, (by rw [← HU.out, setCell_upd]; rfl), ?_⟩
      rw [HZ.out, show (xs ++ [sgF z]).length = xs.length + 1 by simp] at ho
      refine ownF_same ho fun k hk => ?_
      have hne : k ≠ T := by have := HZ.out; omega
      rw [← HU.out, setCell_upd]
      exact upd_other hne
    · have Q := hid (show sgF z = 4607182418800017408 by unfold sgF; rw [hp, hq]; rfl)
      have d1 := (gt_eq0 hf).trans hp
      have d2 := eq_is hf isF_zero hq
      go_enter Try.func173, Try.ntmps173
      go_wp2_with (first | ((at_builtin; refine append1_f (W := U) (v := v) (xs := xs) (y := sgF z) finfo ?_ ?_ ?_ ((by omega)) _ _ rfl rfl rfl ?_ rfl ?_; (focus (refine Grew.trans gw ?_; (show Grew _ _; repeat (first | (with_reducible exact Grew.refl _) | (with_reducible assumption) | (with_reducible exact Grew.same_o) | (with_reducible exact Grew.app_o) | (with_reducible refine Grew.ext ?_ _ _) | (with_reducible refine Grew.alloc ?_ _) | ((with_reducible refine Grew.setCell ?_ ?_ _); rotate_left; (focus (dsimp only; first | omega | (simp only [size_ext, World.size_alloc, Array.size_append]; omega)))) | (with_reducible refine Grew.drewN ?_ _) | (with_reducible refine Grew.drew ?_))))); (focus (refine OwnF.grew (w := w) ?_ ?_; (focus (with_reducible assumption)); (focus (show Grew _ _; repeat (first | (with_reducible exact Grew.refl _) | (with_reducible assumption) | (with_reducible exact Grew.same_o) | (with_reducible exact Grew.app_o) | (with_reducible refine Grew.ext ?_ _ _) | (with_reducible refine Grew.alloc ?_ _) | ((with_reducible refine Grew.setCell ?_ ?_ _); rotate_left; (focus (dsimp only; first | omega | (simp only [size_ext, World.size_alloc, Array.size_append]; omega)))) | (with_reducible refine Grew.drewN ?_ _) | (with_reducible refine Grew.drew ?_)))))); (focus ((rw [Q.out]; exact C1.out))); (focus (first | rfl | (simp only [size_ext, World.size_alloc, Array.size_append]; done) | (simp only [size_ext, World.size_alloc, Array.size_append]; omega))); intro v oo nn ho hn); obtain ⟨a9, c9, rfl⟩ := ho.length))
      go_end0
      refine ⟨rfl, _, _, _, (by rw [← HU.out, setCell_upd]; rfl), ?_⟩
      rw [HZ.out, show (xs ++ [sgF z]).length = xs.length + 1 by simp] at ho
      refine ownF_same ho fun k hk => ?_
      have hne : k ≠ T := by have := HZ.out; omega
      rw [← HU.out, setCell_upd]
      exact upd_other hne
def sgTo (x : VecM) (i : Nat) : List Nat := (List.range i).map fun r => sgF (x.num r)
theorem sgTo_succ (x : VecM) (i : Nat) : sgTo x (i + 1) = sgTo x i ++ [sgF (x.num i)] := by unfold sgTo; rw [List.range_succ, List.map_append]; rfl
/-- The state of axes.Sign: the captured list, as long as it has got. -/
def RW2 (x : VecM) (T : Nat) (W1 : World) (i : Nat) (w' : World) : Prop := ∃ v o n, w' = ext (upd W1 T #[v]) o n ∧ OwnF 22 w' W1.heap.size v (sgTo x i)
theorem upd_self {w : World} {T : Nat} {c : Array Value} {e : TypeId} {f : Nat × Nat} (h : w.heap[T]? = some (.cells c e f)) : upd w T c = w := by
  unfold upd
  cases w with | mk hp tp dr os' out => ?_
  simp only [World.mk.injEq, true_and, and_true] at *
  apply Array.ext_getElem?
  intro i
  rw [Array.getElem?_modify]
  split
  · rename_i he; subst he; rw [h]; rfl
  · rfl
theorem upd_block {w : World} {T : Nat} {c c' : Array Value} {e : TypeId} {f : Nat × Nat} (h : w.heap[T]? = some (.cells c e f)) : (upd w T c').heap[T]? = some (.cells c' e f) := by
  unfold upd
  simp only [Array.getElem?_modify, if_true, h]
  rfl
set_option maxRecDepth 100000 in
set_option maxHeartbeats 1000000 in
/-- axes.Sign. -/
theorem sign_any (x : VecM) (D : Value) (w : World) (hD : FS w D x.ws) (hx : x.right = true) (hwf : x.wf) (hl : x.ws.length ≤ 1000000) :
   Calls Try.prog 97 #[.agg #[D, .int .i64 x.off, .int .i64 x.n, .int .i64 x.inc]] w (fun e w' => ∃ v, e = .returned (.tuple #[v, .int .i64 0]) ∧ FS w' v (sgTo x x.n.toNat) ∧ ∃ o n, w' = ext w o n) := by
  obtain ⟨aD, cD, rfl⟩ := hD.shape
  have hnl := VecM.right_nle hx hl
  have hrt : ∀ w', FS w' (.slice aD x.ws.length cD) x.ws → Calls Try.prog 135 #[.agg #[.slice aD x.ws.length cD, .int .i64 x.off, .int .i64 x.n, .int .i64 x.inc]] w' (fun e w2 => e = .returned (.bool true) ∧ ∃ o n, w2 = ext w' o n) := fun w' h => by
    have := right_any x _ w' h hwf; rw [hx] at this; exact this
  have hEach : ∀ (T : Nat) (w' : World), Grew w w' → w.heap.size ≤ T → w'.heap[T]? = some (.cells #[.slice none 0 0] 24 (0, 0)) →
      Calls Try.prog 117 #[.agg #[.slice aD x.ws.length cD, .int .i64 x.off, .int .i64 x.n, .int .i64 x.inc], .func (.func 173) #[] #[.pointer (some ⟨T, 0, none⟩)]] w' (fun e w2 => e = .returned (.tuple #[]) ∧ Grew w w2 ∧ w'.heap.size ≤ w2.heap.size ∧ ∃ v, FS w2 v (sgTo x x.n.toNat) ∧ (∀ i, w2.cell? ⟨T, i, none⟩ = (#[v] : Array Value)[i]?) ∧ ∀ b i, b < w.heap.size + 1 → b ≠ T → b < w'.heap.size → w2.cell? ⟨b, i, none⟩ = w'.cell? ⟨b, i, none⟩) := fun T w' h1 h2 h3 => by
    have hTlt := some_lt' h3
    obtain ⟨gb, go, hA⟩ : ∃ gb go, 0 < x.n → aD = some ⟨gb, go, none⟩ := by
      by_cases h : 0 < x.n
      · obtain ⟨gb, go, e, _⟩ := hD.at.2 (by have := VecM.right_place hx (i := 0) (by omega); omega)
        exact ⟨gb, go, fun _ => e⟩
      · exact ⟨0, 0, fun h' => absurd h' h⟩
    have hBut : ∀ W1 i w2, Grew w' W1 → RW2 x T W1 i w2 → But W1 [T] w2 := fun W1 i w2 hg hR => by
      obtain ⟨v, o, n, rfl, _⟩ := hR
      exact ((But.refl W1 [T]).upd (.inl (by simp)) _).grew ⟨_, _, rfl⟩
    refine (eachSign x aD gb go cD _ (fun W1 i w2 => Grew w' W1 ∧ RW2 x T W1 i w2) [T] w' hx hl hA ?_ ?_ (by simp; exact hTlt) ?_).mono fun e w2 hh => ?_
    · intro W1 hg
      refine ⟨hg, .slice none 0 0, #[], W1.drawn, ?_, by simpa [sgTo] using OwnF.nil _ _ _⟩
      rw [upd_self (by rw [hg.below.block T hTlt]; exact h3)]; exact ext_zero.symm
    · intro W1 i w2 hR
      exact hBut W1 i w2 hR.1 hR.2
    · intro W1 i w2 hg hi hR
      obtain ⟨_, hR⟩ := hR
      have hB := hBut W1 i w2 hg hR
      obtain ⟨v, o, n, hw2, hown⟩ := hR
      have hb1 : W1.heap[T]? = some (.cells #[.slice none 0 0] 24 (0, 0)) := by rw [hg.below.block T hTlt]; exact h3
      have hb2 := upd_block (c' := #[v]) hb1
      have gall : Grew w w2 := hB.grew0 (Grew.trans h1 hg) (by simp; exact h2)
      have hDw := hD.grew gall
      rw [hA (by omega)] at hDw
      obtain ⟨blk, o', e', _, hc⟩ := hDw.at.2 (by have := VecM.right_place hx hi; omega)
      cases e'
      obtain ⟨b, hb, hf⟩ := hc (x.place i) (VecM.place_lt hx hi)
      refine (sgcl_any i (go + x.place i) gb T b (x.num i) v (sgTo x i) W1 w2 ⟨o, n, hw2⟩ hown (some_lt' hb1) (fun i => cell_of_block hb2) hb hf (fun i => by unfold World.frozen?; simp [hb2]) (by simp [sgTo]; omega)).mono fun e w3 hh => ?_
      obtain ⟨e1, v', o2, n2, e2, e3⟩ := hh
      exact ⟨e1, hg, v', o2, n2, e2, by rw [sgTo_succ]; exact e3⟩
    · obtain ⟨e1, W1, g1, _, hR⟩ := hh
      have hB := hBut W1 _ w2 g1 hR
      obtain ⟨v, o, n, hw2, hown⟩ := hR
      have hb1 : W1.heap[T]? = some (.cells #[.slice none 0 0] 24 (0, 0)) := by rw [g1.below.block T hTlt]; exact h3
      have hb2 := upd_block (c' := #[v]) hb1
      have z1 := g1.below.size
      refine ⟨e1, hB.grew0 (Grew.trans h1 g1) (by simp; exact h2), by have := hB.size; omega, v, hown.fs (by simp [sgTo]; omega), fun i => ?_, fun b i h4 h5 h6 => ?_⟩
      · rw [hw2, cell_ext (by rw [size_upd]; omega)]; exact cell_of_block hb2
      · exact (hB.cell (by omega) (by simpa using h5)).trans (g1.cell h6)
  clear hx hwf
  have hmf := hmf
  go_enter Try.func97, Try.ntmps97
  refine seq_stop ?_
  go_wp2
  refine stop_go (fun W hW => ?_)
  have s1 : w.heap.size < W.heap.size := by rw [hW]; simp only [World.size_alloc]; omega
  have b1 : ∀ i, W.cell? ⟨w.heap.size, i, none⟩ = (#[.slice aD x.ws.length cD, .int .i64 x.off, .int .i64 x.n, .int .i64 x.inc] : Array Value)[i]? := by intro i; rw [hW]; go_simp
  have g0 : Grew w W := by rw [hW]; exact (Grew.refl _).alloc _
  clear hW
  have hDW := hD.grew g0
  have zW := g0.below.size
  go_wp2_with (first | (go_at_call 135; ((with_reducible refine (hrt _ ?_).mono ?_); (focus (first | (with_reducible assumption) | (with_reducible refine FS.ext ?_ _ _; with_reducible assumption) | (with_reducible refine IS.ext ?_ _ _; with_reducible assumption) | (refine hDu _ ?_; with_reducible assumption) | (refine hOu _ ?_; with_reducible assumption) | (refine hDa _ ?_; with_reducible assumption) | (refine hDb _ ?_; with_reducible assumption) | (refine hDc _ ?_; with_reducible assumption) | (refine hDd _ ?_; with_reducible assumption) | (refine FW.fs ?_ (by omega) _; with_reducible assumption) | (refine WS.fs ?_; with_reducible assumption) | (refine FW.fs ?_ (by omega) _; assumption) | omega | assumption)); rintro e w1 ⟨rfl, oa, na, rfl⟩)))
  refine name_call (fun V hV => ?_)
  have hblk : V.heap[W.heap.size + oa.size]? = some (.cells #[.slice none 0 0] 24 (0, 0)) := by
    rw [← hV]
    rw [show W.heap.size + oa.size = (ext W oa na).heap.size by rw [size_ext]]
    generalize ext W oa na = Z
    show (Z.heap.push _)[Z.heap.size]? = _
    simp
  have gV : Grew w V := by rw [← hV]; exact Grew.trans g0 (by (show Grew _ _; repeat (first | (with_reducible exact Grew.refl _) | (with_reducible assumption) | (with_reducible exact Grew.same_o) | (with_reducible exact Grew.app_o) | (with_reducible refine Grew.ext ?_ _ _) | (with_reducible refine Grew.alloc ?_ _) | ((with_reducible refine Grew.setCell ?_ ?_ _); rotate_left; (focus (dsimp only; first | omega | (simp only [size_ext, World.size_alloc, Array.size_append]; omega)))) | (with_reducible refine Grew.drewN ?_ _) | (with_reducible refine Grew.drew ?_))))
  have hc := hEach _ V gV (by omega) hblk
  obtain ⟨T, hT⟩ : ∃ T, T = W.heap.size + oa.size := ⟨_, rfl⟩
  rw [← hT] at hc
  simp only [← hT]
  clear hEach hV hblk hT
  refine hc.mono ?_
  rintro e w1 ⟨rfl, g1, z1, v, hv, hc1, _⟩
  go_wp2
  refine bodyPost_ret (v := .tuple #[v, .int .i64 0]) (by simp [results, Try.results97, go_sem, *]) rfl ?_
  exact ⟨v, rfl, hv, g1⟩
set_option maxRecDepth 100000 in
set_option maxHeartbeats 1000000 in
/-- axes.Sign of what is no vector. -/
theorem sign_no (x : VecM) (D : Value) (w : World) (hD : FS w D x.ws) (hx : x.right = false) (hwf : x.wf) :
   Calls Try.prog 97 #[.agg #[D, .int .i64 x.off, .int .i64 x.n, .int .i64 x.inc]] w (fun e w' => e = .returned (.tuple #[.slice none 0 0, .int .i64 1]) ∧ ∃ o n, w' = ext w o n) := by
  have hrt : ∀ w', FS w' D x.ws → Calls Try.prog 135 #[.agg #[D, .int .i64 x.off, .int .i64 x.n, .int .i64 x.inc]] w' (fun e w2 => e = .returned (.bool false) ∧ ∃ o n, w2 = ext w' o n) := fun w' h => by
    have := right_any x _ w' h hwf; rw [hx] at this; exact this
  clear hx hwf
  go_enter Try.func97, Try.ntmps97
  refine seq_stop ?_
  go_wp2
  refine stop_go (fun W hW => ?_)
  have s1 : w.heap.size < W.heap.size := by rw [hW]; simp only [World.size_alloc]; omega
  have b1 : ∀ i, W.cell? ⟨w.heap.size, i, none⟩ = (#[D, .int .i64 x.off, .int .i64 x.n, .int .i64 x.inc] : Array Value)[i]? := by intro i; rw [hW]; go_simp
  have g0 : Grew w W := by rw [hW]; exact (Grew.refl _).alloc _
  clear hW
  have hDW := hD.grew g0
  go_wp2_with (first | (go_at_call 135; ((with_reducible refine (hrt _ ?_).mono ?_); (focus (first | (with_reducible assumption) | (with_reducible refine FS.ext ?_ _ _; with_reducible assumption) | (with_reducible refine IS.ext ?_ _ _; with_reducible assumption) | (refine hDu _ ?_; with_reducible assumption) | (refine hOu _ ?_; with_reducible assumption) | (refine hDa _ ?_; with_reducible assumption) | (refine hDb _ ?_; with_reducible assumption) | (refine hDc _ ?_; with_reducible assumption) | (refine hDd _ ?_; with_reducible assumption) | (refine FW.fs ?_ (by omega) _; with_reducible assumption) | (refine WS.fs ?_; with_reducible assumption) | (refine FW.fs ?_ (by omega) _; assumption) | omega | assumption)); rintro e w1 ⟨rfl, oa, na, rfl⟩)))
  refine bodyPost_ret (v := .tuple #[.slice none 0 0, .int .i64 1]) (by simp [results, Try.results97, go_sem, *]) rfl ?_
  exact ⟨rfl, by (show Grew _ _; repeat (first | (with_reducible exact Grew.refl _) | (with_reducible assumption) | (with_reducible exact Grew.same_o) | (with_reducible exact Grew.app_o) | (with_reducible refine Grew.ext ?_ _ _) | (with_reducible refine Grew.alloc ?_ _) | ((with_reducible refine Grew.setCell ?_ ?_ _); rotate_left; (focus (dsimp only; first | omega | (simp only [size_ext, World.size_alloc, Array.size_append]; omega)))) | (with_reducible refine Grew.drewN ?_ _) | (with_reducible refine Grew.drew ?_)))⟩
end Go.Proofs.Ytcmggfpcbijcjaa
end
section
/-
  Contracts: the reference's Scal, Sign, Shift (layer 6).
-/
set_option linter.unusedSimpArgs false
set_option linter.unusedVariables false
open Go Go.RowKit Sedge
namespace Go.Proofs.Ytcmggfpcbijcjaa
theorem FS_one {w : World} {t : TypeId} {r y : Nat} (hr : IsF r y) (n : Nat) (hn : n = w.heap.size) : FS (w.alloc (.cells #[.float .f64 r] t)) (.slice (some ⟨n, 0, none⟩) 1 1) [y] := by
  subst hn
  refine ⟨by simp, _, 1, rfl, (fun h => by cases h), fun i hi => ⟨_, _, r, rfl, ?_, ?_⟩⟩
  · have : i = 0 := by simp at hi; exact hi
    subst this
    rw [World.cell?_alloc_new]; rfl
  · have : i = 0 := by simp at hi; exact hi
    subst this
    exact hr
def mapTo (f : Nat → Nat) (i : Nat) : List Nat := (List.range i).map f
theorem mapTo_succ (f : Nat → Nat) (i : Nat) : mapTo f (i + 1) = mapTo f i ++ [f i] := by unfold mapTo; rw [List.range_succ, List.map_append]; rfl
theorem mapTo_length (f : Nat → Nat) (i : Nat) : (mapTo f i).length = i := by simp [mapTo]
set_option maxRecDepth 100000 in
set_option maxHeartbeats 1000000 in
/-- straightedgeref06.Scal. -/
theorem rscal_any (a α : Nat) (X : Value) (l : List Nat) (w : World) (ha : IsF a α) (hX : FS w X l) (hl : l.length ≤ 1000000) :
   Calls Try.prog 98 #[.float .f64 a, X] w (fun e w' => ∃ v, e = .returned v ∧ FS w' v (mapTo (fun i => fmul α (l.getD i 0)) l.length) ∧ ∃ o n, w' = ext w o n) := by
  obtain ⟨aX, cX, rfl⟩ := hX.shape
  go_enter Try.func98, Try.ntmps98
  go_wp2
  go_loopw [5, 6] (fun v c wr => ∃ (i : Nat) (o : Array Obj) (n : Nat), i ≤ l.length ∧ c = .int .i64 i ∧ wr = ext w o n ∧ OwnF 22 wr w.heap.size v (mapTo (fun i => fmul α (l.getD i 0)) i)) (fun _ c _ => l.length - (intOf c).toNat)
  case atStart => exact ⟨0, #[], _, Nat.zero_le _, rfl, ext_zero.symm, by simpa [mapTo] using OwnF.nil _ _ _⟩
  case round =>
    obtain ⟨i, o3, n3, hi, rfl, hwr, hown⟩ := hrel
    have gw : Grew w wr := ⟨_, _, hwr⟩
    clear hwr
    by_cases hlt : i < l.length
    · obtain ⟨blk, o, cap', ex, hblk, hc⟩ := (hX.grew gw).open (by omega)
      simp only [Value.slice.injEq] at ex
      obtain ⟨rfl, -, rfl⟩ := ex
      obtain ⟨b, hb, hf⟩ := hc i hlt
      have hll : (mapTo (fun i => fmul α (l.getD i 0)) i).length = i := mapTo_length _ _
      clear hc
      go_wp2_with (first | (go_at_call 141; ((with_reducible refine (times_any a b _ _ _ ha hf).mono ?_); rintro e w1 ⟨rr, rfl, hr, o6, n6, rfl⟩)) | (at_builtin; refine append1_f (W := w) (v := u5) (xs := mapTo (fun i => fmul α (l.getD i 0)) i) (y := fmul α (l.getD i 0)) finfo ?_ ?_ ?_ ((by rw [hll]; omega)) _ _ rfl rfl rfl ?_ rfl ?_; (focus (refine Grew.trans gw ?_; (show Grew _ _; repeat (first | (with_reducible exact Grew.refl _) | (with_reducible assumption) | (with_reducible exact Grew.same_o) | (with_reducible exact Grew.app_o) | (with_reducible refine Grew.ext ?_ _ _) | (with_reducible refine Grew.alloc ?_ _) | ((with_reducible refine Grew.setCell ?_ ?_ _); rotate_left; (focus (dsimp only; first | omega | (simp only [size_ext, World.size_alloc, Array.size_append]; omega)))) | (with_reducible refine Grew.drewN ?_ _) | (with_reducible refine Grew.drew ?_))))); (focus (refine OwnF.grew (w := wr) ?_ ?_; (focus (with_reducible assumption)); (focus (show Grew _ _; repeat (first | (with_reducible exact Grew.refl _) | (with_reducible assumption) | (with_reducible exact Grew.same_o) | (with_reducible exact Grew.app_o) | (with_reducible refine Grew.ext ?_ _ _) | (with_reducible refine Grew.alloc ?_ _) | ((with_reducible refine Grew.setCell ?_ ?_ _); rotate_left; (focus (dsimp only; first | omega | (simp only [size_ext, World.size_alloc, Array.size_append]; omega)))) | (with_reducible refine Grew.drewN ?_ _) | (with_reducible refine Grew.drew ?_)))))); (focus (exact hr)); (focus (first | rfl | (simp only [size_ext, World.size_alloc, Array.size_append]; done) | (simp only [size_ext, World.size_alloc, Array.size_append]; omega))); intro v oo nn ho hn))
      go_roundw
      case rel => exact ⟨i + 1, oo, nn, by omega, by go_num, rfl, by rw [mapTo_succ]; exact ho⟩
      case measure => simp [intOf]; omega
    · have e : i = l.length := by omega
      have hfs := hown.fs (by rw [mapTo_length]; omega)
      rw [e] at hfs
      go_wp2
      go_ret
      exact ⟨_, rfl, hfs, gw⟩
set_option maxRecDepth 100000 in
set_option maxHeartbeats 1000000 in
/-- straightedgeref06.Sign. -/
theorem rsign_any (X : Value) (l : List Nat) (w : World) (hX : FS w X l) (hl : l.length ≤ 1000000) :
   Calls Try.prog 99 #[X] w (fun e w' => ∃ v, e = .returned v ∧ FS w' v (mapTo (fun i => sgF (l.getD i 0)) l.length) ∧ ∃ o n, w' = ext w o n) := by
  obtain ⟨aX, cX, rfl⟩ := hX.shape
  have c1 : IsF 4607182418800017408 4607182418800017408 := by decide +kernel
  have c2 : IsF 13830554455654793216 13830554455654793216 := by decide +kernel
  have C1 := hid c1
  have C2 := hid c2
  clear c1 c2
  go_enter Try.func99, Try.ntmps99
  go_wp2
  go_loopw [3, 4] (fun v c wr => ∃ (i : Nat) (o : Array Obj) (n : Nat), i ≤ l.length ∧ c = .int .i64 i ∧ wr = ext w o n ∧ OwnF 22 wr w.heap.size v (mapTo (fun i => sgF (l.getD i 0)) i)) (fun _ c _ => l.length - (intOf c).toNat)
  case atStart => exact ⟨0, #[], _, Nat.zero_le _, rfl, ext_zero.symm, by simpa [mapTo] using OwnF.nil _ _ _⟩
  case round =>
    obtain ⟨i, o3, n3, hi, rfl, hwr, hown⟩ := hrel
    have gw : Grew w wr := ⟨_, _, hwr⟩
    clear hwr
    by_cases hlt : i < l.length
    · obtain ⟨blk, o, cap', ex, hblk, hc⟩ := (hX.grew gw).open (by omega)
      simp only [Value.slice.injEq] at ex
      obtain ⟨rfl, -, rfl⟩ := ex
      obtain ⟨b, hb, hf⟩ := hc i hlt
      have hll : (mapTo (fun i => sgF (l.getD i 0)) i).length = i := mapTo_length _ _
      obtain ⟨z, hz⟩ : ∃ z, Hid (z = l.getD i 0) := ⟨_, hid rfl⟩
      rw [← hz.out] at hf
      clear hc
      cases hp : fgt z 0
      · cases hq : feq z 0
        · have Q := hid (show sgF z = 13830554455654793216 by unfold sgF; rw [hp, hq]; rfl)
          have d1 := (gt_eq0 hf).trans hp
          have d2 := eq_is hf isF_zero hq
          go_wp2_with (first | (at_builtin; refine append1_f (W := w) (v := u3) (xs := mapTo (fun i => sgF (l.getD i 0)) i) (y := sgF z) finfo ?_ ?_ ?_ ((by rw [hll]; omega)) _ _ rfl rfl rfl ?_ rfl ?_; (focus (refine Grew.trans gw ?_; (show Grew _ _; repeat (first | (with_reducible exact Grew.refl _) | (with_reducible assumption) | (with_reducible exact Grew.same_o) | (with_reducible exact Grew.app_o) | (with_reducible refine Grew.ext ?_ _ _) | (with_reducible refine Grew.alloc ?_ _) | ((with_reducible refine Grew.setCell ?_ ?_ _); rotate_left; (focus (dsimp only; first | omega | (simp only [size_ext, World.size_alloc, Array.size_append]; omega)))) | (with_reducible refine Grew.drewN ?_ _) | (with_reducible refine Grew.drew ?_))))); (focus (refine OwnF.grew (w := wr) ?_ ?_; (focus (with_reducible assumption)); (focus (show Grew _ _; repeat (first | (with_reducible exact Grew.refl _) | (with_reducible assumption) | (with_reducible exact Grew.same_o) | (with_reducible exact Grew.app_o) | (with_reducible refine Grew.ext ?_ _ _) | (with_reducible refine Grew.alloc ?_ _) | ((with_reducible refine Grew.setCell ?_ ?_ _); rotate_left; (focus (dsimp only; first | omega | (simp only [size_ext, World.size_alloc, Array.size_append]; omega)))) | (with_reducible refine Grew.drewN ?_ _) | (with_reducible refine Grew.drew ?_)))))); (focus ((rw [Q.out]; exact C2.out))); (focus (first | rfl | (simp only [size_ext, World.size_alloc, Array.size_append]; done) | (simp only [size_ext, World.size_alloc, Array.size_append]; omega))); intro v oo nn ho hn))
          go_roundw
          case rel => exact ⟨i + 1, oo, nn, by omega, by go_num, rfl, by rw [mapTo_succ, ← hz.out]; exact ho⟩
          case measure => simp [intOf]; omega
        · have Q := hid (show sgF z = 4607182418800017408 by unfold sgF; rw [hp, hq]; rfl)
          have d1 := (gt_eq0 hf).trans hp
          have d2 := eq_is hf isF_zero hq
          go_wp2_with (first | (at_builtin; refine append1_f (W := w) (v := u3) (xs := mapTo (fun i => sgF (l.getD i 0)) i) (y := sgF z) finfo ?_ ?_ ?_ ((by rw [hll]; omega)) _ _ rfl rfl rfl ?_ rfl ?_; (focus (refine Grew.trans gw ?_; (show Grew _ _; repeat (first | (with_reducible exact Grew.refl _) | (with_reducible assumption) | (with_reducible exact Grew.same_o) | (with_reducible exact Grew.app_o) | (with_reducible refine Grew.ext ?_ _ _) | (with_reducible refine Grew.alloc ?_ _) | ((with_reducible refine Grew.setCell ?_ ?_ _); rotate_left; (focus (dsimp only; first | omega | (simp only [size_ext, World.size_alloc, Array.size_append]; omega)))) | (with_reducible refine Grew.drewN ?_ _) | (with_reducible refine Grew.drew ?_))))); (focus (refine OwnF.grew (w := wr) ?_ ?_; (focus (with_reducible assumption)); (focus (show Grew _ _; repeat (first | (with_reducible exact Grew.refl _) | (with_reducible assumption) | (with_reducible exact Grew.same_o) | (with_reducible exact Grew.app_o) | (with_reducible refine Grew.ext ?_ _ _) | (with_reducible refine Grew.alloc ?_ _) | ((with_reducible refine Grew.setCell ?_ ?_ _); rotate_left; (focus (dsimp only; first | omega | (simp only [size_ext, World.size_alloc, Array.size_append]; omega)))) | (with_reducible refine Grew.drewN ?_ _) | (with_reducible refine Grew.drew ?_)))))); (focus ((rw [Q.out]; exact C1.out))); (focus (first | rfl | (simp only [size_ext, World.size_alloc, Array.size_append]; done) | (simp only [size_ext, World.size_alloc, Array.size_append]; omega))); intro v oo nn ho hn))
          go_roundw
          case rel => exact ⟨i + 1, oo, nn, by omega, by go_num, rfl, by rw [mapTo_succ, ← hz.out]; exact ho⟩
          case measure => simp [intOf]; omega
      · cases hq : feq z 0
        · have Q := hid (show sgF z = 4607182418800017408 by unfold sgF; rw [hp, hq]; rfl)
          have d1 := (gt_eq0 hf).trans hp
          have d2 := eq_is hf isF_zero hq
          go_wp2_with (first | (at_builtin; refine append1_f (W := w) (v := u3) (xs := mapTo (fun i => sgF (l.getD i 0)) i) (y := sgF z) finfo ?_ ?_ ?_ ((by rw [hll]; omega)) _ _ rfl rfl rfl ?_ rfl ?_; (focus (refine Grew.trans gw ?_; (show Grew _ _; repeat (first | (with_reducible exact Grew.refl _) | (with_reducible assumption) | (with_reducible exact Grew.same_o) | (with_reducible exact Grew.app_o) | (with_reducible refine Grew.ext ?_ _ _) | (with_reducible refine Grew.alloc ?_ _) | ((with_reducible refine Grew.setCell ?_ ?_ _); rotate_left; (focus (dsimp only; first | omega | (simp only [size_ext, World.size_alloc, Array.size_append]; omega)))) | (with_reducible refine Grew.drewN ?_ _) | (with_reducible refine Grew.drew ?_))))); (focus (refine OwnF.grew (w := wr) ?_ ?_; (focus (with_reducible assumption)); (focus (show Grew _ _; repeat (first | (with_reducible exact Grew.refl _) | (with_reducible assumption) | (with_reducible exact Grew.same_o) | (with_reducible exact Grew.app_o) | (with_reducible refine Grew.ext ?_ _ _) | (with_reducible refine Grew.alloc ?_ _) | ((with_reducible refine Grew.setCell ?_ ?_ _); rotate_left; (focus (dsimp only; first | omega | (simp only [size_ext, World.size_alloc, Array.size_append]; omega)))) | (with_reducible refine Grew.drewN ?_ _) | (with_reducible refine Grew.drew ?_)))))); (focus ((rw [Q.out]; exact C1.out))); (focus (first | rfl | (simp only [size_ext, World.size_alloc, Array.size_append]; done) | (simp only [size_ext, World.size_alloc, Array.size_append]; omega))); intro v oo nn ho hn))
          go_roundw
          case rel => exact ⟨i + 1, oo, nn, by omega, by go_num, rfl, by rw [mapTo_succ, ← hz.out]; exact ho⟩
          case measure => simp [intOf]; omega
        · have Q := hid (show sgF z = 4607182418800017408 by unfold sgF; rw [hp, hq]; rfl)
          have d1 := (gt_eq0 hf).trans hp
          have d2 := eq_is hf isF_zero hq
          go_wp2_with (first | (at_builtin; refine append1_f (W := w) (v := u3) (xs := mapTo (fun i => sgF (l.getD i 0)) i) (y := sgF z) finfo ?_ ?_ ?_ ((by rw [hll]; omega)) _ _ rfl rfl rfl ?_ rfl ?_; (focus (refine Grew.trans gw ?_; (show Grew _ _; repeat (first | (with_reducible exact Grew.refl _) | (with_reducible assumption) | (with_reducible exact Grew.same_o) | (with_reducible exact Grew.app_o) | (with_reducible refine Grew.ext ?_ _ _) | (with_reducible refine Grew.alloc ?_ _) | ((with_reducible refine Grew.setCell ?_ ?_ _); rotate_left; (focus (dsimp only; first | omega | (simp only [size_ext, World.size_alloc, Array.size_append]; omega)))) | (with_reducible refine Grew.drewN ?_ _) | (with_reducible refine Grew.drew ?_))))); (focus (refine OwnF.grew (w := wr) ?_ ?_; (focus (with_reducible assumption)); (focus (show Grew _ _; repeat (first | (with_reducible exact Grew.refl _) | (with_reducible assumption) | (with_reducible exact Grew.same_o) | (with_reducible exact Grew.app_o) | (with_reducible refine Grew.ext ?_ _ _) | (with_reducible refine Grew.alloc ?_ _) | ((with_reducible refine Grew.setCell ?_ ?_ _); rotate_left; (focus (dsimp only; first | omega | (simp only [size_ext, World.size_alloc, Array.size_append]; omega)))) | (with_reducible refine Grew.drewN ?_ _) | (with_reducible refine Grew.drew ?_)))))); (focus ((rw [Q.out]; exact C1.out))); (focus (first | rfl | (simp only [size_ext, World.size_alloc, Array.size_append]; done) | (simp only [size_ext, World.size_alloc, Array.size_append]; omega))); intro v oo nn ho hn))
          go_roundw
          case rel => exact ⟨i + 1, oo, nn, by omega, by go_num, rfl, by rw [mapTo_succ, ← hz.out]; exact ho⟩
          case measure => simp [intOf]; omega
    · have e : i = l.length := by omega
      have hfs := hown.fs (by rw [mapTo_length]; omega)
      rw [e] at hfs
      go_wp2
      go_ret
      exact ⟨_, rfl, hfs, gw⟩
set_option maxRecDepth 100000 in
set_option maxHeartbeats 1000000 in
/-- straightedgeref06.Shift. -/
theorem rshift_any (X O : Value) (l : List Nat) (zs : List Int) (w : World) (hX : FS w X l) (hO : IS .i64 w O zs) (hl : l.length ≤ 1000000) (hn : zs.length = l.length) :
   Calls Try.prog 100 #[X, O] w (fun e w' => ∃ v, e = .returned v ∧ FS w' v (mapTo (fun i => fscale (l.getD i 0) (zs.getD i 0)) l.length) ∧ ∃ o n, w' = ext w o n) := by
  obtain ⟨aX, cX, rfl⟩ := hX.shape
  obtain ⟨aO, cO, rfl⟩ := hO.shape
  have Hn := hid hn
  rw [hn] at hO ⊢
  clear hn
  go_enter Try.func100, Try.ntmps100
  go_wp2
  go_loopw [5, 6] (fun v c wr => ∃ (i : Nat) (o : Array Obj) (n : Nat), i ≤ l.length ∧ c = .int .i64 i ∧ wr = ext w o n ∧ OwnF 22 wr w.heap.size v (mapTo (fun i => fscale (l.getD i 0) (zs.getD i 0)) i)) (fun _ c _ => l.length - (intOf c).toNat)
  case atStart => exact ⟨0, #[], _, Nat.zero_le _, rfl, ext_zero.symm, by simpa [mapTo] using OwnF.nil _ _ _⟩
  case round =>
    obtain ⟨i, o3, n3, hi, rfl, hwr, hown⟩ := hrel
    have gw : Grew w wr := ⟨_, _, hwr⟩
    clear hwr
    by_cases hlt : i < l.length
    · obtain ⟨blk, o, cap', ex, hblk, hc⟩ := hX.open (by omega)
      simp only [Value.slice.injEq] at ex
      obtain ⟨rfl, -, rfl⟩ := ex
      obtain ⟨b, hb, hf⟩ := hc i hlt
      obtain ⟨blk2, o2, ex, hblk2, hc2⟩ := hO.at.2 (by rw [Hn.out]; omega)
      subst ex
      have hb2 := hc2 i (by rw [Hn.out]; exact hlt)
      have hll : (mapTo (fun i => fscale (l.getD i 0) (zs.getD i 0)) i).length = i := mapTo_length _ _
      obtain ⟨z, hz⟩ : ∃ z, Hid (z = l.getD i 0) := ⟨_, hid rfl⟩
      obtain ⟨k, hk⟩ : ∃ k, Hid (k = zs.getD i 0) := ⟨_, hid rfl⟩
      rw [← hz.out] at hf
      rw [← hk.out] at hb2
      have hbr := (gw.cell hblk).trans hb
      have hb2r := (gw.cell hblk2).trans hb2
      clear hc hc2
      go_wp2
      refine wp_region_R (Grew w) [] [(0,0), (0,1), (0,2), (0,3), (0,4), (0,5), (0,6), (0,7), (0,8), (1,9), (1,10), (1,11), (0,12)] (by kernel_rfl) (by kernel_rfl) (fun _ _ _ _ h _ => h) (by first | exact ⟨_, _, ext_drew⟩ | exact ⟨_, _, drew_ext0⟩ | (show Grew _ _; repeat (first | (with_reducible exact Grew.refl _) | (with_reducible assumption) | (with_reducible exact Grew.same_o) | (with_reducible exact Grew.app_o) | (with_reducible refine Grew.ext ?_ _ _) | (with_reducible refine Grew.alloc ?_ _) | ((with_reducible refine Grew.setCell ?_ ?_ _); rotate_left; (focus (dsimp only; first | omega | (simp only [size_ext, World.size_alloc, Array.size_append]; omega)))) | (with_reducible refine Grew.drewN ?_ _) | (with_reducible refine Grew.drew ?_)))) ?_
      go_wp2_with (first | ((with_reducible refine wpR_id ?_); refine wpR_do rfl rfl (fun K hK => ?_); (with_reducible refine wp_app ?_); refine appendN_K (W := w) (v := u5) (xs := mapTo (fun i => fscale (l.getD i 0) (zs.getD i 0)) i) (ws := [fscale z k]) finfo ?_ ?_ ?_ ((by rw [hll]; simp; omega)) _ _ rfl rfl rfl rfl ?_; (focus (show Grew _ _; repeat (first | (with_reducible exact Grew.refl _) | (with_reducible assumption) | (with_reducible exact Grew.same_o) | (with_reducible exact Grew.app_o) | (with_reducible refine Grew.ext ?_ _ _) | (with_reducible refine Grew.alloc ?_ _) | ((with_reducible refine Grew.setCell ?_ ?_ _); rotate_left; (focus (dsimp only; first | omega | (simp only [size_ext, World.size_alloc, Array.size_append]; omega)))) | (with_reducible refine Grew.drewN ?_ _) | (with_reducible refine Grew.drew ?_)))); (focus (refine OwnF.grew (w := wr) ?_ ?_; (focus (with_reducible assumption)); (focus (show Grew _ _; repeat (first | (with_reducible exact Grew.refl _) | (with_reducible assumption) | (with_reducible exact Grew.same_o) | (with_reducible exact Grew.app_o) | (with_reducible refine Grew.ext ?_ _ _) | (with_reducible refine Grew.alloc ?_ _) | ((with_reducible refine Grew.setCell ?_ ?_ _); rotate_left; (focus (dsimp only; first | omega | (simp only [size_ext, World.size_alloc, Array.size_append]; omega)))) | (with_reducible refine Grew.drewN ?_ _) | (with_reducible refine Grew.drew ?_)))))); (focus (refine FS_one (y := fscale z k) ?_ _ ?_; (focus (exact hr)); (focus (first | rfl | (simp only [size_ext, World.size_alloc, Array.size_append]; done) | (simp only [size_ext, World.size_alloc, Array.size_append]; omega))))); intro v oo nn ho hn) | ((with_reducible refine wpR_id ?_); first | (refine wpR_take (v := ?_) rfl rfl ?_ ?_; rotate_left; (focus (rintro w' ⟨o', n', rfl⟩; go_simp; try with_reducible rfl)); simp only [Act.put, List.setIfInBounds_toArray, List.set_cons_zero, List.set_cons_succ]) | (refine wpR_pure (v := ?_) rfl rfl ?_ ?_; rotate_left; (focus (intro w'; go_simp; try with_reducible rfl)); simp only [Act.put, List.setIfInBounds_toArray, List.set_cons_zero, List.set_cons_succ]) | (refine wpR_takeG (v := ?_) rfl rfl rfl rfl rfl ?_ ?_; rotate_left; (focus (rintro w' ⟨o', n', rfl⟩; go_simp; try with_reducible rfl)); simp only [Act.put, List.setIfInBounds_toArray, List.set_cons_zero, List.set_cons_succ]) | (refine wpR_skip rfl rfl rfl rfl rfl rfl ?_; simp only [Act.put, List.setIfInBounds_toArray, List.set_cons_zero, List.set_cons_succ]) | (refine wpR_skipU rfl rfl rfl rfl rfl ?_; simp only [Act.put, List.setIfInBounds_toArray, List.set_cons_zero, List.set_cons_succ]) | (refine wpR_do rfl rfl (fun K hK => ?_)) | (refine wpR_doG rfl rfl rfl rfl rfl (fun K hK => ?_)) | (refine wpR_last rfl rfl (fun K hK => ?_)) | (refine wpR_nil ?_)) | ((with_reducible refine wpR_go ?_ ?_); (focus (show Grew _ _; repeat (first | (with_reducible exact Grew.refl _) | (with_reducible assumption) | (with_reducible exact Grew.same_o) | (with_reducible exact Grew.app_o) | (with_reducible refine Grew.ext ?_ _ _) | (with_reducible refine Grew.alloc ?_ _) | ((with_reducible refine Grew.setCell ?_ ?_ _); rotate_left; (focus (dsimp only; first | omega | (simp only [size_ext, World.size_alloc, Array.size_append]; omega)))) | (with_reducible refine Grew.drewN ?_ _) | (with_reducible refine Grew.drew ?_))))) | ((with_reducible refine upon_id ?_); refine upon_fop rfl (by assumption) (by assumption) ?_; intro rr nn hr) | (go_at_call 165; ((with_reducible refine (rscale_any b z k _ hf).mono ?_); rintro e w1 ⟨rr, rfl, hr, rfl⟩)))
      go_roundw
      case rel => exact ⟨i + 1, oo, nn, by omega, by go_num, rfl, by rw [mapTo_succ, ← hz.out, ← hk.out]; exact ho⟩
      case measure => simp [intOf]; omega
    · have e : i = l.length := by omega
      have hfs := hown.fs (by rw [mapTo_length]; omega)
      rw [e] at hfs
      go_wp2
      go_ret
      exact ⟨_, rfl, hfs, gw⟩
end Go.Proofs.Ytcmggfpcbijcjaa
end
section
/-
  Contracts: move.Copy, move.Swap.
-/
set_option linter.unusedSimpArgs false
set_option linter.unusedVariables false
open Go Go.RowKit Sedge
namespace Go.Proofs.Ytcmggfpcbijcjaa
theorem pairE_ok {x y : VecM} {one : Bool} (h : pairE x y one = 0) : x.right = true ∧ y.right = true ∧ x.n = y.n ∧ (one && meetsB x y) = false := by
  unfold pairE at h
  split at h
  · rename_i h1
    split at h
    · rename_i h2
      split at h
      · cases h
      · rename_i h3
        refine ⟨h1.1, h1.2, h2, ?_⟩
        rw [Bool.eq_false_iff]; intro h4; exact h3 (by simpa using h4)
    · cases h
  · cases h
def copyL (x y : VecM) (one : Bool) : List Nat := if pairE x y one = 0 then VecMwrite x y.list else x.ws
set_option maxRecDepth 100000 in
set_option maxHeartbeats 1000000 in
/-- move.Copy. -/
theorem copy_any (x y : VecM) (a b ca cb : Nat) (w : World) (hF : FW w a x.ws) (hPb : Plain w b) (hB : FS w (.slice (some ⟨b, 0, none⟩) y.ws.length cb) y.ws) (hab : a = b → y.ws = x.ws) (hwx : x.wf) (hwy : y.wf) (hlx : x.ws.length ≤ 1000000) (hly : y.ws.length ≤ 1000000) :
   Calls Try.prog 65 #[.agg #[.slice (some ⟨a, 0, none⟩) x.ws.length ca, .int .i64 x.off, .int .i64 x.n, .int .i64 x.inc], .agg #[.slice (some ⟨b, 0, none⟩) y.ws.length cb, .int .i64 y.off, .int .i64 y.n, .int .i64 y.inc]] w
     (fun e w' => e = .returned (.int .i64 (pairE x y (decide (a = b)))) ∧ Wrote w w' a (copyL x y (decide (a = b)))) := by
  have hA := hF.fs (by omega) ca
  have hltg := hF.lt
  by_cases hp : pairE x y (decide (a = b)) = 0
  · obtain ⟨hx, hy, hn, hm⟩ := pairE_ok hp
    have hL := hid (show copyL x y (decide (a = b)) = VecMwrite x y.list by unfold copyL; rw [if_pos hp])
    have hpc : ∀ w', Plain w' a → Plain w' b → FS w' (.slice (some ⟨a, 0, none⟩) x.ws.length ca) x.ws → FS w' (.slice (some ⟨b, 0, none⟩) y.ws.length cb) y.ws → Calls Try.prog 63 #[.agg #[.slice (some ⟨a, 0, none⟩) x.ws.length ca, .int .i64 x.off, .int .i64 x.n, .int .i64 x.inc], .agg #[.slice (some ⟨b, 0, none⟩) y.ws.length cb, .int .i64 y.off, .int .i64 y.n, .int .i64 y.inc]] w'
        (fun e w2 => e = .returned (.int .i64 0) ∧ ∃ o n, w2 = ext w' o n) := fun w' p1 p2 h1 h2 => by
      have := pair_any x y a b ca cb w' h1 h2 p1 p2 hwx hwy hlx hly
      rw [hp] at this; exact this
    have hn0 := VecM.right_n hx
    have hm0 := VecM.right_n hy
    have hnl := VecM.right_nle hx hlx
    have Hx := hid hx
    have Hy := hid hy
    have Hn := hid hn
    have Hm := hid hm
    have Hp := hid hp
    have Hab := hid hab
    clear hx hy hn hm hp hwx hwy hab
    go_enter Try.func65, Try.ntmps65
    refine seq_stop ?_
    go_wp2
    refine stop_go (fun W hW => ?_)
    have s1 : w.heap.size < W.heap.size := by rw [hW]; simp only [World.size_alloc]; omega
    have b1 : ∀ i, W.cell? ⟨w.heap.size, i, none⟩ = (#[.slice (some ⟨a, 0, none⟩) x.ws.length ca, .int .i64 x.off, .int .i64 x.n, .int .i64 x.inc] : Array Value)[i]? := by intro i; rw [hW]; go_simp
    have s2 : w.heap.size + 1 < W.heap.size := by rw [hW]; simp only [World.size_alloc]; omega
    have b2 : ∀ i, W.cell? ⟨w.heap.size + 1, i, none⟩ = (#[.slice (some ⟨b, 0, none⟩) y.ws.length cb, .int .i64 y.off, .int .i64 y.n, .int .i64 y.inc] : Array Value)[i]? := by intro i; rw [hW]; go_simp
    have g0 : Grew w W := by rw [hW]; exact ((Grew.refl _).alloc _).alloc _
    clear hW
    have hAW := hA.grew g0
    have hBW := hB.grew g0
    have hFW := hF.grew g0
    have gl := hFW.lt
    have q1 : w.heap.size ≠ a := by omega
    have q2 : w.heap.size + 1 ≠ a := by omega
    have fz : ∀ i, W.frozen? ⟨a, i, none⟩ = false := hFW.notFrozen
    go_wp2_with (first | (go_at_call 63; ((with_reducible refine (hpc _ ((FW.plain hF).grew (by (show Grew _ _; repeat (first | (with_reducible exact Grew.refl _) | (with_reducible assumption) | (with_reducible exact Grew.same_o) | (with_reducible exact Grew.app_o) | (with_reducible refine Grew.ext ?_ _ _) | (with_reducible refine Grew.alloc ?_ _) | ((with_reducible refine Grew.setCell ?_ ?_ _); rotate_left; (focus (dsimp only; first | omega | (simp only [size_ext, World.size_alloc, Array.size_append]; omega)))) | (with_reducible refine Grew.drewN ?_ _) | (with_reducible refine Grew.drew ?_))))) (hPb.grew (by (show Grew _ _; repeat (first | (with_reducible exact Grew.refl _) | (with_reducible assumption) | (with_reducible exact Grew.same_o) | (with_reducible exact Grew.app_o) | (with_reducible refine Grew.ext ?_ _ _) | (with_reducible refine Grew.alloc ?_ _) | ((with_reducible refine Grew.setCell ?_ ?_ _); rotate_left; (focus (dsimp only; first | omega | (simp only [size_ext, World.size_alloc, Array.size_append]; omega)))) | (with_reducible refine Grew.drewN ?_ _) | (with_reducible refine Grew.drew ?_))))) ?_ ?_).mono ?_); (focus (first | (with_reducible assumption) | (with_reducible refine FS.ext ?_ _ _; with_reducible assumption) | (with_reducible refine IS.ext ?_ _ _; with_reducible assumption) | (refine hDu _ ?_; with_reducible assumption) | (refine hOu _ ?_; with_reducible assumption) | (refine hDa _ ?_; with_reducible assumption) | (refine hDb _ ?_; with_reducible assumption) | (refine hDc _ ?_; with_reducible assumption) | (refine hDd _ ?_; with_reducible assumption) | (refine FW.fs ?_ (by omega) _; with_reducible assumption) | (refine WS.fs ?_; with_reducible assumption) | (refine FW.fs ?_ (by omega) _; assumption) | omega | assumption)); (focus (first | (with_reducible assumption) | (with_reducible refine FS.ext ?_ _ _; with_reducible assumption) | (with_reducible refine IS.ext ?_ _ _; with_reducible assumption) | (refine hDu _ ?_; with_reducible assumption) | (refine hOu _ ?_; with_reducible assumption) | (refine hDa _ ?_; with_reducible assumption) | (refine hDb _ ?_; with_reducible assumption) | (refine hDc _ ?_; with_reducible assumption) | (refine hDd _ ?_; with_reducible assumption) | (refine FW.fs ?_ (by omega) _; with_reducible assumption) | (refine WS.fs ?_; with_reducible assumption) | (refine FW.fs ?_ (by omega) _; assumption) | omega | assumption)); rintro e w1 ⟨rfl, o1, n1, rfl⟩)))
    go_loopw [14] (fun c wr => ∃ (i : Nat) (cs : Array Value) (o : Array Obj) (n : Nat), (i : Int) ≤ x.n ∧ c = .int .i64 i ∧ wr = ext (upd W a cs) o n ∧ CF cs (writes x.ws x.place y.num i)) (fun c _ => (x.n - intOf c).toNat)
    case atStart =>
      obtain ⟨cs, h1, h2⟩ := hFW.self
      exact ⟨0, cs, _, _, hn0.1, rfl, by rw [h1], h2⟩
    case round =>
      obtain ⟨i, cs, o2, n2, hi, rfl, hwr, hcs⟩ := hrel
      subst hwr
      by_cases hlt : (i : Int) < x.n
      · have hp := VecM.right_place Hx.out hlt
        have hq := VecM.right_place Hy.out (i := i) (by have := Hn.out; omega)
        have h2 : IntKind.i64.wrap (i * x.inc) = i * x.inc := IntWalk.i64_in _ (by omega)
        have h3 : IntKind.i64.wrap (x.off + i * x.inc) = x.off + i * x.inc := IntWalk.i64_in _ (by omega)
        have h4 : IntKind.i64.wrap (i * y.inc) = i * y.inc := IntWalk.i64_in _ (by omega)
        have h5 : IntKind.i64.wrap (y.off + i * y.inc) = y.off + i * y.inc := IntWalk.i64_in _ (by omega)
        have hlen : (writes x.ws x.place y.num i).length = x.ws.length := by simp
        have hfw : ∀ o n, FW (ext (upd W a cs) o n) a (writes x.ws x.place y.num i) := fun o n => hFW.mk' hcs o n
        obtain ⟨r0, hr0, _⟩ := (hfw o2 n2).get (i := x.place i) (by rw [hlen]; unfold VecM.place; omega)
        have hr1 := (cell_ext (by simpa using gl)).symm.trans hr0
        have hs : ∃ s0, (upd W a cs).cell? ⟨b, y.place i, none⟩ = some (.float .f64 s0) ∧ IsF s0 (y.num i) ∧ b < W.heap.size := by
          by_cases e : a = b
          · subst e
            obtain ⟨s0, hs0, hg0⟩ := (hfw o2 n2).get (i := y.place i) (by rw [hlen, ← Hab.out rfl]; unfold VecM.place; omega)
            refine ⟨s0, (cell_ext (by simpa using gl)).symm.trans hs0, ?_, gl⟩
            rw [writes_other i (fun t ht => meetsB_no (by have := Hm.out; simpa using this) Hx.out Hy.out (by omega) (by have := Hn.out; omega))] at hg0
            unfold VecM.num; rw [Hab.out rfl]; exact hg0
          · obtain ⟨blk, o, h1, h2, hc⟩ := hBW.at.2 (by omega)
            cases h1
            obtain ⟨s0, hs0, hg0⟩ := hc (y.place i) (by unfold VecM.place; omega)
            rw [Nat.zero_add] at hs0
            exact ⟨s0, by rw [cell_upd_ne (fun e' => e e'.symm)]; exact hs0, hg0, h2⟩
        obtain ⟨s0, hs1, hg0, hlb⟩ := hs
        unfold VecM.place at hr1 hs1
        clear hr0
        go_wp2
        refine wp_region_R (Grew (upd W a cs)) [21] [(3,0), (0,1), (3,2), (0,3), (3,4), (3,5), (0,6), (3,7), (3,8), (3,9), (0,10), (3,11), (0,12), (3,13), (3,14), (0,15), (3,16), (3,17), (3,18), (0,19), (3,20), (2,21)] (by kernel_rfl) (by kernel_rfl) (fun _ _ _ _ h _ => h) (by first | exact ⟨_, _, ext_drew⟩ | exact ⟨_, _, drew_ext0⟩ | (show Grew _ _; repeat (first | (with_reducible exact Grew.refl _) | (with_reducible assumption) | (with_reducible exact Grew.same_o) | (with_reducible exact Grew.app_o) | (with_reducible refine Grew.ext ?_ _ _) | (with_reducible refine Grew.alloc ?_ _) | ((with_reducible refine Grew.setCell ?_ ?_ _); rotate_left; (focus (dsimp only; first | omega | (simp only [size_ext, World.size_alloc, Array.size_append]; omega)))) | (with_reducible refine Grew.drewN ?_ _) | (with_reducible refine Grew.drew ?_)))) ?_
        go_wp2_with (first | ((with_reducible refine wpR_id ?_); first | (refine wpR_take (v := ?_) rfl rfl ?_ ?_; rotate_left; (focus (rintro w' ⟨o', n', rfl⟩; go_simp; try with_reducible rfl)); simp only [Act.put, List.setIfInBounds_toArray, List.set_cons_zero, List.set_cons_succ]) | (refine wpR_pure (v := ?_) rfl rfl ?_ ?_; rotate_left; (focus (intro w'; go_simp; try with_reducible rfl)); simp only [Act.put, List.setIfInBounds_toArray, List.set_cons_zero, List.set_cons_succ]) | (refine wpR_takeG (v := ?_) rfl rfl rfl rfl rfl ?_ ?_; rotate_left; (focus (rintro w' ⟨o', n', rfl⟩; go_simp; try with_reducible rfl)); simp only [Act.put, List.setIfInBounds_toArray, List.set_cons_zero, List.set_cons_succ]) | (refine wpR_skip rfl rfl rfl rfl rfl rfl ?_; simp only [Act.put, List.setIfInBounds_toArray, List.set_cons_zero, List.set_cons_succ]) | (refine wpR_skipU rfl rfl rfl rfl rfl ?_; simp only [Act.put, List.setIfInBounds_toArray, List.set_cons_zero, List.set_cons_succ]) | (refine wpR_do rfl rfl (fun K hK => ?_)) | (refine wpR_doG rfl rfl rfl rfl rfl (fun K hK => ?_)) | (refine wpR_last rfl rfl (fun K hK => ?_)) | (refine wpR_nil ?_)) | ((with_reducible refine wpR_go ?_ ?_); (focus exact ⟨_, _, rfl⟩)) | ((with_reducible refine upon_id ?_); refine upon_fop rfl (by assumption) (by assumption) ?_; intro rr nn hr))
        go_roundw
        case rel =>
          refine ⟨i + 1, _, _, _, by omega, by go_num, rfl, ?_⟩
          unfold writes
          exact hcs.set (i := x.place i) hg0
        case measure => simp [intOf]; omega
      · have e : x.n.toNat = i := by omega
        have hcs' : CF cs (VecMwrite x y.list) := by rw [← copy_own Hn.out.symm, e]; exact hcs
        go_wp2
        go_ret
        exact ⟨ret_int Hp.out.symm, by rw [hL.out]; exact Wrote.grew_l g0 (by omega) ⟨cs, _, _, rfl, hcs'⟩⟩
  · have hL := hid (show copyL x y (decide (a = b)) = x.ws by unfold copyL; rw [if_neg hp])
    have hpc : ∀ w', Plain w' a → Plain w' b → FS w' (.slice (some ⟨a, 0, none⟩) x.ws.length ca) x.ws → FS w' (.slice (some ⟨b, 0, none⟩) y.ws.length cb) y.ws → Calls Try.prog 63 #[.agg #[.slice (some ⟨a, 0, none⟩) x.ws.length ca, .int .i64 x.off, .int .i64 x.n, .int .i64 x.inc], .agg #[.slice (some ⟨b, 0, none⟩) y.ws.length cb, .int .i64 y.off, .int .i64 y.n, .int .i64 y.inc]] w'
        (fun e w2 => e = .returned (.int .i64 (pairE x y (decide (a = b)))) ∧ ∃ o n, w2 = ext w' o n) := fun w' p1 p2 h1 h2 => pair_any x y a b ca cb w' h1 h2 p1 p2 hwx hwy hlx hly
    obtain ⟨E, hE⟩ : ∃ E, E = pairE x y (decide (a = b)) := ⟨_, rfl⟩
    rw [← hE] at hp hpc ⊢
    have d1 : decide (E = 0) = false := by simpa using hp
    have d2 : (E == 0) = false := by simpa using hp
    clear hE hwx hwy hab
    go_enter Try.func65, Try.ntmps65
    refine seq_stop ?_
    go_wp2
    refine stop_go (fun W hW => ?_)
    have s1 : w.heap.size < W.heap.size := by rw [hW]; simp only [World.size_alloc]; omega
    have b1 : ∀ i, W.cell? ⟨w.heap.size, i, none⟩ = (#[.slice (some ⟨a, 0, none⟩) x.ws.length ca, .int .i64 x.off, .int .i64 x.n, .int .i64 x.inc] : Array Value)[i]? := by intro i; rw [hW]; go_simp
    have s2 : w.heap.size + 1 < W.heap.size := by rw [hW]; simp only [World.size_alloc]; omega
    have b2 : ∀ i, W.cell? ⟨w.heap.size + 1, i, none⟩ = (#[.slice (some ⟨b, 0, none⟩) y.ws.length cb, .int .i64 y.off, .int .i64 y.n, .int .i64 y.inc] : Array Value)[i]? := by intro i; rw [hW]; go_simp
    have g0 : Grew w W := by rw [hW]; exact ((Grew.refl _).alloc _).alloc _
    clear hW
    have hAW := hA.grew g0
    have hBW := hB.grew g0
    go_wp2_with (first | (go_at_call 63; ((with_reducible refine (hpc _ ((FW.plain hF).grew (by (show Grew _ _; repeat (first | (with_reducible exact Grew.refl _) | (with_reducible assumption) | (with_reducible exact Grew.same_o) | (with_reducible exact Grew.app_o) | (with_reducible refine Grew.ext ?_ _ _) | (with_reducible refine Grew.alloc ?_ _) | ((with_reducible refine Grew.setCell ?_ ?_ _); rotate_left; (focus (dsimp only; first | omega | (simp only [size_ext, World.size_alloc, Array.size_append]; omega)))) | (with_reducible refine Grew.drewN ?_ _) | (with_reducible refine Grew.drew ?_))))) (hPb.grew (by (show Grew _ _; repeat (first | (with_reducible exact Grew.refl _) | (with_reducible assumption) | (with_reducible exact Grew.same_o) | (with_reducible exact Grew.app_o) | (with_reducible refine Grew.ext ?_ _ _) | (with_reducible refine Grew.alloc ?_ _) | ((with_reducible refine Grew.setCell ?_ ?_ _); rotate_left; (focus (dsimp only; first | omega | (simp only [size_ext, World.size_alloc, Array.size_append]; omega)))) | (with_reducible refine Grew.drewN ?_ _) | (with_reducible refine Grew.drew ?_))))) ?_ ?_).mono ?_); (focus (first | (with_reducible assumption) | (with_reducible refine FS.ext ?_ _ _; with_reducible assumption) | (with_reducible refine IS.ext ?_ _ _; with_reducible assumption) | (refine hDu _ ?_; with_reducible assumption) | (refine hOu _ ?_; with_reducible assumption) | (refine hDa _ ?_; with_reducible assumption) | (refine hDb _ ?_; with_reducible assumption) | (refine hDc _ ?_; with_reducible assumption) | (refine hDd _ ?_; with_reducible assumption) | (refine FW.fs ?_ (by omega) _; with_reducible assumption) | (refine WS.fs ?_; with_reducible assumption) | (refine FW.fs ?_ (by omega) _; assumption) | omega | assumption)); (focus (first | (with_reducible assumption) | (with_reducible refine FS.ext ?_ _ _; with_reducible assumption) | (with_reducible refine IS.ext ?_ _ _; with_reducible assumption) | (refine hDu _ ?_; with_reducible assumption) | (refine hOu _ ?_; with_reducible assumption) | (refine hDa _ ?_; with_reducible assumption) | (refine hDb _ ?_; with_reducible assumption) | (refine hDc _ ?_; with_reducible assumption) | (refine hDd _ ?_; with_reducible assumption) | (refine FW.fs ?_ (by omega) _; with_reducible assumption) | (refine WS.fs ?_; with_reducible assumption) | (refine FW.fs ?_ (by omega) _; assumption) | omega | assumption)); rintro e w1 ⟨rfl, o1, n1, rfl⟩)))
    go_ret
    exact ⟨rfl, by rw [hL.out]; exact Wrote.grew_r (Wrote.refl hF) (by (show Grew _ _; repeat (first | (with_reducible exact Grew.refl _) | (with_reducible assumption) | (with_reducible exact Grew.same_o) | (with_reducible exact Grew.app_o) | (with_reducible refine Grew.ext ?_ _ _) | (with_reducible refine Grew.alloc ?_ _) | ((with_reducible refine Grew.setCell ?_ ?_ _); rotate_left; (focus (dsimp only; first | omega | (simp only [size_ext, World.size_alloc, Array.size_append]; omega)))) | (with_reducible refine Grew.drewN ?_ _) | (with_reducible refine Grew.drew ?_))))⟩
set_option maxRecDepth 100000 in
set_option maxHeartbeats 2000000 in
/-- move.swap, of vectors in two lists. -/
theorem swap2_any (x y : VecM) (a b ca cb : Nat) (w : World) (hF : FW w a x.ws) (hH : FW w b y.ws) (hab : a ≠ b) (hx : x.right = true) (hy : y.right = true) (hn : y.n = x.n) (hlx : x.ws.length ≤ 1000000) (hly : y.ws.length ≤ 1000000) :
   Calls Try.prog 131 #[.agg #[.slice (some ⟨a, 0, none⟩) x.ws.length ca, .int .i64 x.off, .int .i64 x.n, .int .i64 x.inc], .agg #[.slice (some ⟨b, 0, none⟩) y.ws.length cb, .int .i64 y.off, .int .i64 x.n, .int .i64 y.inc]] w
     (fun e w' => e = .returned (.tuple #[]) ∧ But w [a, b] w' ∧ FW w' a (VecMwrite x y.list) ∧ FW w' b (VecMwrite y x.list)) := by
  have hn0 := VecM.right_n hx
  have hm0 := VecM.right_n hy
  have hnl := VecM.right_nle hx hlx
  have hltg := hF.lt
  have hlth := hH.lt
  have hba := hab.symm
  have Hx := hid hx
  have Hy := hid hy
  have Hn := hid hn
  clear hx hy hn
  go_enter Try.func131, Try.ntmps131
  refine seq_stop ?_
  go_wp2
  refine stop_go (fun W hW => ?_)
  have s1 : w.heap.size < W.heap.size := by rw [hW]; simp only [World.size_alloc]; omega
  have b1 : ∀ i, W.cell? ⟨w.heap.size, i, none⟩ = (#[.slice (some ⟨a, 0, none⟩) x.ws.length ca, .int .i64 x.off, .int .i64 x.n, .int .i64 x.inc] : Array Value)[i]? := by intro i; rw [hW]; go_simp
  have s2 : w.heap.size + 1 < W.heap.size := by rw [hW]; simp only [World.size_alloc]; omega
  have b2 : ∀ i, W.cell? ⟨w.heap.size + 1, i, none⟩ = (#[.slice (some ⟨b, 0, none⟩) y.ws.length cb, .int .i64 y.off, .int .i64 x.n, .int .i64 y.inc] : Array Value)[i]? := by intro i; rw [hW]; go_simp
  have g0 : Grew w W := by rw [hW]; exact ((Grew.refl _).alloc _).alloc _
  clear hW
  have hFW := hF.grew g0
  have hHW := hH.grew g0
  have c1 : ∀ w', But W [a, b] w' → ∀ i, w'.cell? ⟨w.heap.size, i, none⟩ = (#[.slice (some ⟨a, 0, none⟩) x.ws.length ca, .int .i64 x.off, .int .i64 x.n, .int .i64 x.inc] : Array Value)[i]? := fun w' hb i => (hb.cell s1 (by simp; omega)).trans (b1 i)
  have c2 : ∀ w', But W [a, b] w' → ∀ i, w'.cell? ⟨w.heap.size + 1, i, none⟩ = (#[.slice (some ⟨b, 0, none⟩) y.ws.length cb, .int .i64 y.off, .int .i64 x.n, .int .i64 y.inc] : Array Value)[i]? := fun w' hb i => (hb.cell s2 (by simp; omega)).trans (b2 i)
  go_wp2
  clear b1 b2
  go_loopw [9] (fun c wr => ∃ (i : Nat), (i : Int) ≤ x.n ∧ c = .int .i64 i ∧ But W [a, b] wr ∧ FW wr a (writes x.ws x.place y.num i) ∧ FW wr b (writes y.ws y.place x.num i)) (fun c _ => (x.n - intOf c).toNat)
  case atStart => exact ⟨0, hn0.1, rfl, But.refl _ _, hFW, hHW⟩
  case round =>
    obtain ⟨i, hi, rfl, hB, hA1, hB1⟩ := hrel
    by_cases hlt : (i : Int) < x.n
    · have hp := VecM.right_place Hx.out hlt
      have hq := VecM.right_place Hy.out (i := i) (by have := Hn.out; omega)
      have h2 : IntKind.i64.wrap (i * x.inc) = i * x.inc := IntWalk.i64_in _ (by omega)
      have h3 : IntKind.i64.wrap (x.off + i * x.inc) = x.off + i * x.inc := IntWalk.i64_in _ (by omega)
      have h4 : IntKind.i64.wrap (i * y.inc) = i * y.inc := IntWalk.i64_in _ (by omega)
      have h5 : IntKind.i64.wrap (y.off + i * y.inc) = y.off + i * y.inc := IntWalk.i64_in _ (by omega)
      obtain ⟨r0, hr0, hf0⟩ := hA1.get (i := x.place i) (by rw [writes_length]; unfold VecM.place; omega)
      obtain ⟨s0, hs0, hg0⟩ := hB1.get (i := y.place i) (by rw [writes_length]; unfold VecM.place; omega)
      rw [writes_other i (fun t ht e => by have := VecM.place_inj Hx.out (by omega) hlt e; omega)] at hf0
      rw [writes_other i (fun t ht e => by have := VecM.place_inj Hy.out (by have := Hn.out; omega) (by have := Hn.out; omega) e; omega)] at hg0
      have hf1 : IsF r0 (x.num i) := hf0
      have hg1 : IsF s0 (y.num i) := hg0
      have hr1 := hr0
      have hs1 := hs0
      unfold VecM.place at hr1 hs1
      have t1 := c1 _ hB
      have t2 := c2 _ hB
      have z1 := hB.size
      have k1 : w.heap.size < wr.heap.size := by omega
      have k2 : w.heap.size + 1 < wr.heap.size := by omega
      have gl := hA1.lt
      have gl2 := hB1.lt
      have fz1 : ∀ i, wr.frozen? ⟨a, i, none⟩ = false := hA1.notFrozen
      have fz2 : ∀ i, wr.frozen? ⟨b, i, none⟩ = false := hB1.notFrozen
      go_wp2
      refine wp_region_R (Grew wr) [] [(0,0), (0,1), (0,2), (0,3), (0,4), (0,5), (0,6), (0,7), (0,8), (0,9), (0,10), (0,11), (0,12), (0,13), (0,14), (0,15), (0,16), (0,17), (0,18), (0,19), (0,20), (0,21)] (by kernel_rfl) (by kernel_rfl) (fun _ _ _ _ h _ => h) (by first | exact ⟨_, _, ext_drew⟩ | exact ⟨_, _, drew_ext0⟩ | (show Grew _ _; repeat (first | (with_reducible exact Grew.refl _) | (with_reducible assumption) | (with_reducible exact Grew.same_o) | (with_reducible exact Grew.app_o) | (with_reducible refine Grew.ext ?_ _ _) | (with_reducible refine Grew.alloc ?_ _) | ((with_reducible refine Grew.setCell ?_ ?_ _); rotate_left; (focus (dsimp only; first | omega | (simp only [size_ext, World.size_alloc, Array.size_append]; omega)))) | (with_reducible refine Grew.drewN ?_ _) | (with_reducible refine Grew.drew ?_)))) ?_
      go_wp2_with (first | ((with_reducible refine wpR_id ?_); first | (refine wpR_take (v := ?_) rfl rfl ?_ ?_; rotate_left; (focus (rintro w' ⟨o', n', rfl⟩; go_simp; try with_reducible rfl)); simp only [Act.put, List.setIfInBounds_toArray, List.set_cons_zero, List.set_cons_succ]) | (refine wpR_pure (v := ?_) rfl rfl ?_ ?_; rotate_left; (focus (intro w'; go_simp; try with_reducible rfl)); simp only [Act.put, List.setIfInBounds_toArray, List.set_cons_zero, List.set_cons_succ]) | (refine wpR_takeG (v := ?_) rfl rfl rfl rfl rfl ?_ ?_; rotate_left; (focus (rintro w' ⟨o', n', rfl⟩; go_simp; try with_reducible rfl)); simp only [Act.put, List.setIfInBounds_toArray, List.set_cons_zero, List.set_cons_succ]) | (refine wpR_skip rfl rfl rfl rfl rfl rfl ?_; simp only [Act.put, List.setIfInBounds_toArray, List.set_cons_zero, List.set_cons_succ]) | (refine wpR_skipU rfl rfl rfl rfl rfl ?_; simp only [Act.put, List.setIfInBounds_toArray, List.set_cons_zero, List.set_cons_succ]) | (refine wpR_do rfl rfl (fun K hK => ?_)) | (refine wpR_doG rfl rfl rfl rfl rfl (fun K hK => ?_)) | (refine wpR_last rfl rfl (fun K hK => ?_)) | (refine wpR_nil ?_)) | ((with_reducible refine wpR_go ?_ ?_); (focus exact ⟨_, _, rfl⟩)) | ((with_reducible refine upon_id ?_); refine upon_fop rfl (by assumption) (by assumption) ?_; intro rr nn hr))
      refine wp_region_R (Grew wr) [9, 11] [(3,0), (3,1), (3,2), (3,3), (0,4), (3,5), (3,6), (0,7), (3,8), (2,9), (3,10), (2,11)] (by kernel_rfl) (by kernel_rfl) (fun _ _ _ _ h _ => h) (by first | exact ⟨_, _, ext_drew⟩ | exact ⟨_, _, drew_ext0⟩ | (show Grew _ _; repeat (first | (with_reducible exact Grew.refl _) | (with_reducible assumption) | (with_reducible exact Grew.same_o) | (with_reducible exact Grew.app_o) | (with_reducible refine Grew.ext ?_ _ _) | (with_reducible refine Grew.alloc ?_ _) | ((with_reducible refine Grew.setCell ?_ ?_ _); rotate_left; (focus (dsimp only; first | omega | (simp only [size_ext, World.size_alloc, Array.size_append]; omega)))) | (with_reducible refine Grew.drewN ?_ _) | (with_reducible refine Grew.drew ?_)))) ?_
      go_wp2_with (first | ((with_reducible refine wpR_id ?_); first | (refine wpR_take (v := ?_) rfl rfl ?_ ?_; rotate_left; (focus (rintro w' ⟨o', n', rfl⟩; go_simp; try with_reducible rfl)); simp only [Act.put, List.setIfInBounds_toArray, List.set_cons_zero, List.set_cons_succ]) | (refine wpR_pure (v := ?_) rfl rfl ?_ ?_; rotate_left; (focus (intro w'; go_simp; try with_reducible rfl)); simp only [Act.put, List.setIfInBounds_toArray, List.set_cons_zero, List.set_cons_succ]) | (refine wpR_takeG (v := ?_) rfl rfl rfl rfl rfl ?_ ?_; rotate_left; (focus (rintro w' ⟨o', n', rfl⟩; go_simp; try with_reducible rfl)); simp only [Act.put, List.setIfInBounds_toArray, List.set_cons_zero, List.set_cons_succ]) | (refine wpR_skip rfl rfl rfl rfl rfl rfl ?_; simp only [Act.put, List.setIfInBounds_toArray, List.set_cons_zero, List.set_cons_succ]) | (refine wpR_skipU rfl rfl rfl rfl rfl ?_; simp only [Act.put, List.setIfInBounds_toArray, List.set_cons_zero, List.set_cons_succ]) | (refine wpR_do rfl rfl (fun K hK => ?_)) | (refine wpR_doG rfl rfl rfl rfl rfl (fun K hK => ?_)) | (refine wpR_last rfl rfl (fun K hK => ?_)) | (refine wpR_nil ?_)) | ((with_reducible refine wpR_go ?_ ?_); (focus exact ⟨_, _, rfl⟩)) | ((with_reducible refine upon_id ?_); refine upon_fop rfl (by assumption) (by assumption) ?_; intro rr nn hr))
      go_roundw
      case rel =>
        have e1 : FW (wr.setCell ⟨a, (x.off + i * x.inc).toNat, none⟩ (.float .f64 s0)) a (writes x.ws x.place y.num (i + 1)) := hA1.setc hg1
        have e2 : FW (wr.setCell ⟨a, (x.off + i * x.inc).toNat, none⟩ (.float .f64 s0)) b (writes y.ws y.place x.num i) := hB1.setCell_ne hab _
        have e3 := hB.setc (k := (x.off + i * x.inc).toNat) (r := s0) hA1 (by simp)
        have e4 : FW ((wr.setCell ⟨a, (x.off + i * x.inc).toNat, none⟩ (.float .f64 s0)).setCell ⟨b, (y.off + i * y.inc).toNat, none⟩ (.float .f64 r0)) b (writes y.ws y.place x.num (i + 1)) := e2.setc hf1
        have e5 := e3.setc (k := (y.off + i * y.inc).toNat) (r := r0) e2 (by simp)
        have gd : ∀ v : World, Grew v v.drew.drew := fun v => ((Grew.refl v).drew).drew
        exact ⟨i + 1, by omega, by go_num, e5.grew (gd _), (FW.setCell_ne e1 hba _).grew (gd _), e4.grew (gd _)⟩
      case measure => simp [intOf]; omega
    · have e : x.n.toNat = i := by omega
      have f1 : FW wr a (VecMwrite x y.list) := by rw [← copy_own Hn.out, e]; exact hA1
      have f2 : FW wr b (VecMwrite y x.list) := by rw [← copy_own Hn.out.symm, show y.n.toNat = i by rw [Hn.out]; exact e]; exact hB1
      have f3 : But w [a, b] wr := ⟨hB.os.trans g0.below.os, hB.tape.trans g0.below.tape, hB.output.trans g0.below.output, Nat.le_trans g0.below.size hB.size, fun k hk hG => (hB.block k (Nat.lt_of_lt_of_le hk g0.below.size) hG).trans (g0.below.block k hk)⟩
      go_wp2
      go_end0
      exact ⟨rfl, f3, f1, f2⟩
end Go.Proofs.Ytcmggfpcbijcjaa
end
section
/-
  Contracts: move.Swap.
-/
set_option linter.unusedSimpArgs false
set_option linter.unusedVariables false
open Go Go.RowKit Sedge
namespace Go.Proofs.Ytcmggfpcbijcjaa
def swapL (x y : VecM) : List Nat := if pairE x y true = 0 then VecMwrite (withV y (VecMwrite x y.list)) x.list else x.ws
theorem swaps_write {x y : VecM} (hxy : y.ws = x.ws) (h : pairE x y true = 0) : swaps x.ws x.place y.place x.n.toNat = VecMwrite (withV y (VecMwrite x y.list)) x.list := by
  obtain ⟨hx, hy, hn, hm⟩ := pairE_ok h
  have hm' : meetsB x y = false := by simpa using hm
  rw [swaps_eq _ (fun s t hs ht e => VecM.place_inj hx (by omega) (by omega) e) (fun s t hs ht e => VecM.place_inj hy (by omega) (by omega) e) (fun s t hs ht => meetsB_no hm' hx hy (by omega) (by omega))]
  rw [← copy_own (a := withV y (VecMwrite x y.list)) (b := x) hn, ← copy_own (a := x) (b := y) hn.symm]
  show _ = writes (writes x.ws x.place y.num x.n.toNat) y.place x.num y.n.toNat
  rw [← hn]
  have e : (fun t => x.ws.getD (y.place t) 0) = y.num := funext fun t => by unfold VecM.num; rw [hxy]
  rw [e]; rfl
set_option maxRecDepth 100000 in
set_option maxHeartbeats 1000000 in
/-- move.Swap, in one list. -/
theorem swapO_any (x y : VecM) (a ca : Nat) (w : World) (hF : FW w a x.ws) (hxy : y.ws = x.ws) (hwx : x.wf) (hwy : y.wf) (hlx : x.ws.length ≤ 1000000) :
   Calls Try.prog 64 #[.agg #[.slice (some ⟨a, 0, none⟩) x.ws.length ca, .int .i64 x.off, .int .i64 x.n, .int .i64 x.inc], .agg #[.slice (some ⟨a, 0, none⟩) x.ws.length ca, .int .i64 y.off, .int .i64 y.n, .int .i64 y.inc]] w
     (fun e w' => e = .returned (.int .i64 (pairE x y true)) ∧ Wrote w w' a (swapL x y)) := by
  have hA := hF.fs (by omega) ca
  have hltg := hF.lt
  have hpc : ∀ w', Plain w' a → FS w' (.slice (some ⟨a, 0, none⟩) x.ws.length ca) x.ws → Calls Try.prog 63 #[.agg #[.slice (some ⟨a, 0, none⟩) x.ws.length ca, .int .i64 x.off, .int .i64 x.n, .int .i64 x.inc], .agg #[.slice (some ⟨a, 0, none⟩) x.ws.length ca, .int .i64 y.off, .int .i64 y.n, .int .i64 y.inc]] w'
      (fun e w2 => e = .returned (.int .i64 (pairE x y true)) ∧ ∃ o n, w2 = ext w' o n) := fun w' p1 h1 => by
    have := pair_any x y a a ca ca w' h1 (by rw [hxy]; exact h1) p1 p1 hwx hwy hlx (by rw [hxy]; exact hlx)
    rw [hxy] at this; simpa using this
  by_cases hp : pairE x y true = 0
  · obtain ⟨hx, hy, hn, _⟩ := pairE_ok hp
    have hL := hid (show swapL x y = swaps x.ws x.place y.place x.n.toNat by unfold swapL; rw [if_pos hp, swaps_write hxy hp])
    have hsw : ∀ w', FW w' a x.ws → Calls Try.prog 131 #[.agg #[.slice (some ⟨a, 0, none⟩) x.ws.length ca, .int .i64 x.off, .int .i64 x.n, .int .i64 x.inc], .agg #[.slice (some ⟨a, 0, none⟩) x.ws.length ca, .int .i64 y.off, .int .i64 y.n, .int .i64 y.inc]] w'
       (fun e w2 => e = .returned (.tuple #[]) ∧ Wrote w' w2 a (swaps x.ws x.place y.place x.n.toNat)) := fun w' h => swap1_any x y a ca w' h hxy hx hy hwx hwy hn.symm hlx
    rw [hp] at hpc ⊢
    clear hx hy hn hp hwx hwy hxy
    go_enter Try.func64, Try.ntmps64
    refine seq_stop ?_
    go_wp2
    refine stop_go (fun W hW => ?_)
    have s1 : w.heap.size < W.heap.size := by rw [hW]; simp only [World.size_alloc]; omega
    have b1 : ∀ i, W.cell? ⟨w.heap.size, i, none⟩ = (#[.slice (some ⟨a, 0, none⟩) x.ws.length ca, .int .i64 x.off, .int .i64 x.n, .int .i64 x.inc] : Array Value)[i]? := by intro i; rw [hW]; go_simp
    have s2 : w.heap.size + 1 < W.heap.size := by rw [hW]; simp only [World.size_alloc]; omega
    have b2 : ∀ i, W.cell? ⟨w.heap.size + 1, i, none⟩ = (#[.slice (some ⟨a, 0, none⟩) x.ws.length ca, .int .i64 y.off, .int .i64 y.n, .int .i64 y.inc] : Array Value)[i]? := by intro i; rw [hW]; go_simp
    have g0 : Grew w W := by rw [hW]; exact ((Grew.refl _).alloc _).alloc _
    clear hW
    have hAW := hA.grew g0
    have hFW := hF.grew g0
    go_wp2_with (first | (go_at_call 63; ((with_reducible refine (hpc _ ((FW.plain hF).grew (by (show Grew _ _; repeat (first | (with_reducible exact Grew.refl _) | (with_reducible assumption) | (with_reducible exact Grew.same_o) | (with_reducible exact Grew.app_o) | (with_reducible refine Grew.ext ?_ _ _) | (with_reducible refine Grew.alloc ?_ _) | ((with_reducible refine Grew.setCell ?_ ?_ _); rotate_left; (focus (dsimp only; first | omega | (simp only [size_ext, World.size_alloc, Array.size_append]; omega)))) | (with_reducible refine Grew.drewN ?_ _) | (with_reducible refine Grew.drew ?_))))) ?_).mono ?_); (focus (first | (with_reducible assumption) | (with_reducible refine FS.ext ?_ _ _; with_reducible assumption) | (with_reducible refine IS.ext ?_ _ _; with_reducible assumption) | (refine hDu _ ?_; with_reducible assumption) | (refine hOu _ ?_; with_reducible assumption) | (refine hDa _ ?_; with_reducible assumption) | (refine hDb _ ?_; with_reducible assumption) | (refine hDc _ ?_; with_reducible assumption) | (refine hDd _ ?_; with_reducible assumption) | (refine FW.fs ?_ (by omega) _; with_reducible assumption) | (refine WS.fs ?_; with_reducible assumption) | (refine FW.fs ?_ (by omega) _; assumption) | omega | assumption)); rintro e w1 ⟨rfl, o1, n1, rfl⟩)) | (go_at_call 131; ((with_reducible refine (hsw _ (hFW.ext _ _)).mono ?_); rintro e w1 ⟨rfl, hw1⟩; (have gw := Wrote.grew_l (g0.ext _ _) (by omega) hw1))))
    go_ret
    exact ⟨rfl, by rw [hL.out]; exact gw⟩
  · have hL := hid (show swapL x y = x.ws by unfold swapL; rw [if_neg hp])
    obtain ⟨E, hE⟩ : ∃ E, E = pairE x y true := ⟨_, rfl⟩
    rw [← hE] at hp hpc ⊢
    have d2 : (E == 0) = false := by simpa using hp
    clear hE hwx hwy hxy
    go_enter Try.func64, Try.ntmps64
    refine seq_stop ?_
    go_wp2
    refine stop_go (fun W hW => ?_)
    have s1 : w.heap.size < W.heap.size := by rw [hW]; simp only [World.size_alloc]; omega
    have b1 : ∀ i, W.cell? ⟨w.heap.size, i, none⟩ = (#[.slice (some ⟨a, 0, none⟩) x.ws.length ca, .int .i64 x.off, .int .i64 x.n, .int .i64 x.inc] : Array Value)[i]? := by intro i; rw [hW]; go_simp
    have s2 : w.heap.size + 1 < W.heap.size := by rw [hW]; simp only [World.size_alloc]; omega
    have b2 : ∀ i, W.cell? ⟨w.heap.size + 1, i, none⟩ = (#[.slice (some ⟨a, 0, none⟩) x.ws.length ca, .int .i64 y.off, .int .i64 y.n, .int .i64 y.inc] : Array Value)[i]? := by intro i; rw [hW]; go_simp
    have g0 : Grew w W := by rw [hW]; exact ((Grew.refl _).alloc _).alloc _
    clear hW
    have hAW := hA.grew g0
    go_wp2_with (first | (go_at_call 63; ((with_reducible refine (hpc _ ((FW.plain hF).grew (by (show Grew _ _; repeat (first | (with_reducible exact Grew.refl _) | (with_reducible assumption) | (with_reducible exact Grew.same_o) | (with_reducible exact Grew.app_o) | (with_reducible refine Grew.ext ?_ _ _) | (with_reducible refine Grew.alloc ?_ _) | ((with_reducible refine Grew.setCell ?_ ?_ _); rotate_left; (focus (dsimp only; first | omega | (simp only [size_ext, World.size_alloc, Array.size_append]; omega)))) | (with_reducible refine Grew.drewN ?_ _) | (with_reducible refine Grew.drew ?_))))) ?_).mono ?_); (focus (first | (with_reducible assumption) | (with_reducible refine FS.ext ?_ _ _; with_reducible assumption) | (with_reducible refine IS.ext ?_ _ _; with_reducible assumption) | (refine hDu _ ?_; with_reducible assumption) | (refine hOu _ ?_; with_reducible assumption) | (refine hDa _ ?_; with_reducible assumption) | (refine hDb _ ?_; with_reducible assumption) | (refine hDc _ ?_; with_reducible assumption) | (refine hDd _ ?_; with_reducible assumption) | (refine FW.fs ?_ (by omega) _; with_reducible assumption) | (refine WS.fs ?_; with_reducible assumption) | (refine FW.fs ?_ (by omega) _; assumption) | omega | assumption)); rintro e w1 ⟨rfl, o1, n1, rfl⟩)))
    go_ret
    exact ⟨rfl, by rw [hL.out]; exact Wrote.grew_r (Wrote.refl hF) (by (show Grew _ _; repeat (first | (with_reducible exact Grew.refl _) | (with_reducible assumption) | (with_reducible exact Grew.same_o) | (with_reducible exact Grew.app_o) | (with_reducible refine Grew.ext ?_ _ _) | (with_reducible refine Grew.alloc ?_ _) | ((with_reducible refine Grew.setCell ?_ ?_ _); rotate_left; (focus (dsimp only; first | omega | (simp only [size_ext, World.size_alloc, Array.size_append]; omega)))) | (with_reducible refine Grew.drewN ?_ _) | (with_reducible refine Grew.drew ?_))))⟩
def swapX (x y : VecM) : List Nat := if pairE x y false = 0 then VecMwrite x y.list else x.ws
def swapY (x y : VecM) : List Nat := if pairE x y false = 0 then VecMwrite y x.list else y.ws
set_option maxRecDepth 100000 in
set_option maxHeartbeats 1000000 in
/-- move.Swap, in two lists. -/
theorem swapT_any (x y : VecM) (a b ca cb : Nat) (w : World) (hF : FW w a x.ws) (hH : FW w b y.ws) (hab : a ≠ b) (hwx : x.wf) (hwy : y.wf) (hlx : x.ws.length ≤ 1000000) (hly : y.ws.length ≤ 1000000) :
   Calls Try.prog 64 #[.agg #[.slice (some ⟨a, 0, none⟩) x.ws.length ca, .int .i64 x.off, .int .i64 x.n, .int .i64 x.inc], .agg #[.slice (some ⟨b, 0, none⟩) y.ws.length cb, .int .i64 y.off, .int .i64 y.n, .int .i64 y.inc]] w
     (fun e w' => e = .returned (.int .i64 (pairE x y false)) ∧ But w [a, b] w' ∧ FW w' a (swapX x y) ∧ FW w' b (swapY x y)) := by
  have hA := hF.fs (by omega) ca
  have hB := hH.fs (by omega) cb
  have hltg := hF.lt
  have hpc : ∀ w', Plain w' a → Plain w' b → FS w' (.slice (some ⟨a, 0, none⟩) x.ws.length ca) x.ws → FS w' (.slice (some ⟨b, 0, none⟩) y.ws.length cb) y.ws → Calls Try.prog 63 #[.agg #[.slice (some ⟨a, 0, none⟩) x.ws.length ca, .int .i64 x.off, .int .i64 x.n, .int .i64 x.inc], .agg #[.slice (some ⟨b, 0, none⟩) y.ws.length cb, .int .i64 y.off, .int .i64 y.n, .int .i64 y.inc]] w'
      (fun e w2 => e = .returned (.int .i64 (pairE x y false)) ∧ ∃ o n, w2 = ext w' o n) := fun w' p1 p2 h1 h2 => by
    have := pair_any x y a b ca cb w' h1 h2 p1 p2 hwx hwy hlx hly
    rw [show decide (a = b) = false by simpa using hab] at this; exact this
  have gb : ∀ w', Grew w w' → But w [a, b] w' := fun w' g => (But.refl w [a, b]).grew g
  by_cases hp : pairE x y false = 0
  · obtain ⟨hx, hy, hn, _⟩ := pairE_ok hp
    have hL := hid (show swapX x y = VecMwrite x y.list by unfold swapX; rw [if_pos hp])
    have hM := hid (show swapY x y = VecMwrite y x.list by unfold swapY; rw [if_pos hp])
    have hsw : ∀ w', FW w' a x.ws → FW w' b y.ws → Calls Try.prog 131 #[.agg #[.slice (some ⟨a, 0, none⟩) x.ws.length ca, .int .i64 x.off, .int .i64 x.n, .int .i64 x.inc], .agg #[.slice (some ⟨b, 0, none⟩) y.ws.length cb, .int .i64 y.off, .int .i64 y.n, .int .i64 y.inc]] w'
       (fun e w2 => e = .returned (.tuple #[]) ∧ But w' [a, b] w2 ∧ FW w2 a (VecMwrite x y.list) ∧ FW w2 b (VecMwrite y x.list)) := fun w' h1 h2 => by
      have := swap2_any x y a b ca cb w' h1 h2 hab hx hy hn.symm hlx hly
      rw [← hn]; exact this
    rw [hp] at hpc ⊢
    clear hx hy hn hp hwx hwy
    go_enter Try.func64, Try.ntmps64
    refine seq_stop ?_
    go_wp2
    refine stop_go (fun W hW => ?_)
    have s1 : w.heap.size < W.heap.size := by rw [hW]; simp only [World.size_alloc]; omega
    have b1 : ∀ i, W.cell? ⟨w.heap.size, i, none⟩ = (#[.slice (some ⟨a, 0, none⟩) x.ws.length ca, .int .i64 x.off, .int .i64 x.n, .int .i64 x.inc] : Array Value)[i]? := by intro i; rw [hW]; go_simp
    have s2 : w.heap.size + 1 < W.heap.size := by rw [hW]; simp only [World.size_alloc]; omega
    have b2 : ∀ i, W.cell? ⟨w.heap.size + 1, i, none⟩ = (#[.slice (some ⟨b, 0, none⟩) y.ws.length cb, .int .i64 y.off, .int .i64 y.n, .int .i64 y.inc] : Array Value)[i]? := by intro i; rw [hW]; go_simp
    have g0 : Grew w W := by rw [hW]; exact ((Grew.refl _).alloc _).alloc _
    clear hW
    have hAW := hA.grew g0
    have hBW := hB.grew g0
    have hFW := hF.grew g0
    have hHW := hH.grew g0
    go_wp2_with (first | (go_at_call 63; ((with_reducible refine (hpc _ ((FW.plain hF).grew (by (show Grew _ _; repeat (first | (with_reducible exact Grew.refl _) | (with_reducible assumption) | (with_reducible exact Grew.same_o) | (with_reducible exact Grew.app_o) | (with_reducible refine Grew.ext ?_ _ _) | (with_reducible refine Grew.alloc ?_ _) | ((with_reducible refine Grew.setCell ?_ ?_ _); rotate_left; (focus (dsimp only; first | omega | (simp only [size_ext, World.size_alloc, Array.size_append]; omega)))) | (with_reducible refine Grew.drewN ?_ _) | (with_reducible refine Grew.drew ?_))))) ((FW.plain hH).grew (by (show Grew _ _; repeat (first | (with_reducible exact Grew.refl _) | (with_reducible assumption) | (with_reducible exact Grew.same_o) | (with_reducible exact Grew.app_o) | (with_reducible refine Grew.ext ?_ _ _) | (with_reducible refine Grew.alloc ?_ _) | ((with_reducible refine Grew.setCell ?_ ?_ _); rotate_left; (focus (dsimp only; first | omega | (simp only [size_ext, World.size_alloc, Array.size_append]; omega)))) | (with_reducible refine Grew.drewN ?_ _) | (with_reducible refine Grew.drew ?_))))) ?_ ?_).mono ?_); (focus (first | (with_reducible assumption) | (with_reducible refine FS.ext ?_ _ _; with_reducible assumption) | (with_reducible refine IS.ext ?_ _ _; with_reducible assumption) | (refine hDu _ ?_; with_reducible assumption) | (refine hOu _ ?_; with_reducible assumption) | (refine hDa _ ?_; with_reducible assumption) | (refine hDb _ ?_; with_reducible assumption) | (refine hDc _ ?_; with_reducible assumption) | (refine hDd _ ?_; with_reducible assumption) | (refine FW.fs ?_ (by omega) _; with_reducible assumption) | (refine WS.fs ?_; with_reducible assumption) | (refine FW.fs ?_ (by omega) _; assumption) | omega | assumption)); (focus (first | (with_reducible assumption) | (with_reducible refine FS.ext ?_ _ _; with_reducible assumption) | (with_reducible refine IS.ext ?_ _ _; with_reducible assumption) | (refine hDu _ ?_; with_reducible assumption) | (refine hOu _ ?_; with_reducible assumption) | (refine hDa _ ?_; with_reducible assumption) | (refine hDb _ ?_; with_reducible assumption) | (refine hDc _ ?_; with_reducible assumption) | (refine hDd _ ?_; with_reducible assumption) | (refine FW.fs ?_ (by omega) _; with_reducible assumption) | (refine WS.fs ?_; with_reducible assumption) | (refine FW.fs ?_ (by omega) _; assumption) | omega | assumption)); rintro e w1 ⟨rfl, o1, n1, rfl⟩)) | (go_at_call 131; ((with_reducible refine (hsw _ (hFW.ext _ _) (hHW.ext _ _)).mono ?_); rintro e w1 ⟨rfl, hb1, hf1, hf2⟩; (have gw := (gb _ (g0.ext o1 n1)).trans hb1 (fun b hb => .inl hb)))))
    go_ret
    exact ⟨rfl, gw, by rw [hL.out]; exact hf1, by rw [hM.out]; exact hf2⟩
  · have hL := hid (show swapX x y = x.ws by unfold swapX; rw [if_neg hp])
    have hM := hid (show swapY x y = y.ws by unfold swapY; rw [if_neg hp])
    obtain ⟨E, hE⟩ : ∃ E, E = pairE x y false := ⟨_, rfl⟩
    rw [← hE] at hp hpc ⊢
    have d2 : (E == 0) = false := by simpa using hp
    clear hE hwx hwy
    go_enter Try.func64, Try.ntmps64
    refine seq_stop ?_
    go_wp2
    refine stop_go (fun W hW => ?_)
    have s1 : w.heap.size < W.heap.size := by rw [hW]; simp only [World.size_alloc]; omega
    have b1 : ∀ i, W.cell? ⟨w.heap.size, i, none⟩ = (#[.slice (some ⟨a, 0, none⟩) x.ws.length ca, .int .i64 x.off, .int .i64 x.n, .int .i64 x.inc] : Array Value)[i]? := by intro i; rw [hW]; go_simp
    have s2 : w.heap.size + 1 < W.heap.size := by rw [hW]; simp only [World.size_alloc]; omega
    have b2 : ∀ i, W.cell? ⟨w.heap.size + 1, i, none⟩ = (#[.slice (some ⟨b, 0, none⟩) y.ws.length cb, .int .i64 y.off, .int .i64 y.n, .int .i64 y.inc] : Array Value)[i]? := by intro i; rw [hW]; go_simp
    have g0 : Grew w W := by rw [hW]; exact ((Grew.refl _).alloc _).alloc _
    clear hW
    have hAW := hA.grew g0
    have hBW := hB.grew g0
    go_wp2_with (first | (go_at_call 63; ((with_reducible refine (hpc _ ((FW.plain hF).grew (by (show Grew _ _; repeat (first | (with_reducible exact Grew.refl _) | (with_reducible assumption) | (with_reducible exact Grew.same_o) | (with_reducible exact Grew.app_o) | (with_reducible refine Grew.ext ?_ _ _) | (with_reducible refine Grew.alloc ?_ _) | ((with_reducible refine Grew.setCell ?_ ?_ _); rotate_left; (focus (dsimp only; first | omega | (simp only [size_ext, World.size_alloc, Array.size_append]; omega)))) | (with_reducible refine Grew.drewN ?_ _) | (with_reducible refine Grew.drew ?_))))) ((FW.plain hH).grew (by (show Grew _ _; repeat (first | (with_reducible exact Grew.refl _) | (with_reducible assumption) | (with_reducible exact Grew.same_o) | (with_reducible exact Grew.app_o) | (with_reducible refine Grew.ext ?_ _ _) | (with_reducible refine Grew.alloc ?_ _) | ((with_reducible refine Grew.setCell ?_ ?_ _); rotate_left; (focus (dsimp only; first | omega | (simp only [size_ext, World.size_alloc, Array.size_append]; omega)))) | (with_reducible refine Grew.drewN ?_ _) | (with_reducible refine Grew.drew ?_))))) ?_ ?_).mono ?_); (focus (first | (with_reducible assumption) | (with_reducible refine FS.ext ?_ _ _; with_reducible assumption) | (with_reducible refine IS.ext ?_ _ _; with_reducible assumption) | (refine hDu _ ?_; with_reducible assumption) | (refine hOu _ ?_; with_reducible assumption) | (refine hDa _ ?_; with_reducible assumption) | (refine hDb _ ?_; with_reducible assumption) | (refine hDc _ ?_; with_reducible assumption) | (refine hDd _ ?_; with_reducible assumption) | (refine FW.fs ?_ (by omega) _; with_reducible assumption) | (refine WS.fs ?_; with_reducible assumption) | (refine FW.fs ?_ (by omega) _; assumption) | omega | assumption)); (focus (first | (with_reducible assumption) | (with_reducible refine FS.ext ?_ _ _; with_reducible assumption) | (with_reducible refine IS.ext ?_ _ _; with_reducible assumption) | (refine hDu _ ?_; with_reducible assumption) | (refine hOu _ ?_; with_reducible assumption) | (refine hDa _ ?_; with_reducible assumption) | (refine hDb _ ?_; with_reducible assumption) | (refine hDc _ ?_; with_reducible assumption) | (refine hDd _ ?_; with_reducible assumption) | (refine FW.fs ?_ (by omega) _; with_reducible assumption) | (refine WS.fs ?_; with_reducible assumption) | (refine FW.fs ?_ (by omega) _; assumption) | omega | assumption)); rintro e w1 ⟨rfl, o1, n1, rfl⟩)))
    go_ret
    exact ⟨rfl, gb _ (by (show Grew _ _; repeat (first | (with_reducible exact Grew.refl _) | (with_reducible assumption) | (with_reducible exact Grew.same_o) | (with_reducible exact Grew.app_o) | (with_reducible refine Grew.ext ?_ _ _) | (with_reducible refine Grew.alloc ?_ _) | ((with_reducible refine Grew.setCell ?_ ?_ _); rotate_left; (focus (dsimp only; first | omega | (simp only [size_ext, World.size_alloc, Array.size_append]; omega)))) | (with_reducible refine Grew.drewN ?_ _) | (with_reducible refine Grew.drew ?_)))), by rw [hL.out]; exact hF.grew (by (show Grew _ _; repeat (first | (with_reducible exact Grew.refl _) | (with_reducible assumption) | (with_reducible exact Grew.same_o) | (with_reducible exact Grew.app_o) | (with_reducible refine Grew.ext ?_ _ _) | (with_reducible refine Grew.alloc ?_ _) | ((with_reducible refine Grew.setCell ?_ ?_ _); rotate_left; (focus (dsimp only; first | omega | (simp only [size_ext, World.size_alloc, Array.size_append]; omega)))) | (with_reducible refine Grew.drewN ?_ _) | (with_reducible refine Grew.drew ?_)))), by rw [hM.out]; exact hH.grew (by (show Grew _ _; repeat (first | (with_reducible exact Grew.refl _) | (with_reducible assumption) | (with_reducible exact Grew.same_o) | (with_reducible exact Grew.app_o) | (with_reducible refine Grew.ext ?_ _ _) | (with_reducible refine Grew.alloc ?_ _) | ((with_reducible refine Grew.setCell ?_ ?_ _); rotate_left; (focus (dsimp only; first | omega | (simp only [size_ext, World.size_alloc, Array.size_append]; omega)))) | (with_reducible refine Grew.drewN ?_ _) | (with_reducible refine Grew.drew ?_))))⟩
end Go.Proofs.Ytcmggfpcbijcjaa
end
section
/-
  axes.Axpy (lists apart); the example of layer 6.
-/
set_option linter.unusedSimpArgs false
set_option linter.unusedVariables false
open Go Go.RowKit Sedge
namespace Go.Proofs.Ytcmggfpcbijcjaa
set_option maxRecDepth 100000 in
set_option maxHeartbeats 1000000 in
/-- axes.Axpy's closure. -/
theorem axcl_any (i pl g T3 T4 a α r0 z0 bx cx rx xv : Nat) (x : VecM) (w : World) (hca : ∀ i, w.cell? ⟨T3, i, none⟩ = (#[.float .f64 a] : Array Value)[i]?) (ha : IsF a α)
    (hcx : ∀ i, w.cell? ⟨T4, i, none⟩ = (#[.slice (some ⟨bx, 0, none⟩) x.ws.length cx, .int .i64 x.off, .int .i64 x.n, .int .i64 x.inc] : Array Value)[i]?) (kT3 : T3 < w.heap.size) (kT4 : T4 < w.heap.size) (kg : g < w.heap.size) (kbx : bx < w.heap.size)
    (hx : x.right = true) (hi : (i : Int) < x.n) (hl : x.ws.length ≤ 1000000) (h1 : w.cell? ⟨bx, x.place i, none⟩ = some (.float .f64 rx)) (f1 : IsF rx xv)
    (h3 : w.cell? ⟨g, pl, none⟩ = some (.float .f64 r0)) (f3 : IsF r0 z0) (fz : ∀ i, w.frozen? ⟨g, i, none⟩ = false) :
   Calls Try.prog 118 #[.int .i64 i, .pointer (some ⟨g, pl, none⟩), .pointer (some ⟨T3, 0, none⟩), .pointer (some ⟨T4, 0, none⟩)] w
     (fun e w' => e = .returned (.tuple #[]) ∧ ∃ r, IsF r (fadd z0 (fmul α xv)) ∧ ∃ o n, w' = ext (w.setCell ⟨g, pl, none⟩ (.float .f64 r)) o n) := by
  have hp := VecM.right_place hx hi
  have hn := VecM.right_n hx
  unfold VecM.place at h1
  have a1 : IntKind.i64.wrap (i * x.inc) = i * x.inc := IntWalk.i64_in _ (by omega)
  have a2 : IntKind.i64.wrap (x.off + i * x.inc) = x.off + i * x.inc := IntWalk.i64_in _ (by omega)
  clear hx
  go_enter Try.func118, Try.ntmps118
  go_wp2
  refine wp_region_R (Grew w) [18] [(3,0), (3,1), (0,2), (0,3), (3,4), (0,5), (3,6), (0,7), (3,8), (3,9), (0,10), (3,11), (3,12), (3,13), (0,14), (1,15), (1,16), (3,17), (2,18)] (by kernel_rfl) (by kernel_rfl) (fun _ _ _ _ h _ => h) (by first | exact ⟨_, _, ext_drew⟩ | exact ⟨_, _, drew_ext0⟩ | (show Grew _ _; repeat (first | (with_reducible exact Grew.refl _) | (with_reducible assumption) | (with_reducible exact Grew.same_o) | (with_reducible exact Grew.app_o) | (with_reducible refine Grew.ext ?_ _ _) | (with_reducible refine Grew.alloc ?_ _) | ((with_reducible refine Grew.setCell ?_ ?_ _); rotate_left; (focus (dsimp only; first | omega | (simp only [size_ext, World.size_alloc, Array.size_append]; omega)))) | (with_reducible refine Grew.drewN ?_ _) | (with_reducible refine Grew.drew ?_)))) ?_
  go_wp2_with (first | ((with_reducible refine wpR_id ?_); first | (refine wpR_take (v := ?_) rfl rfl ?_ ?_; rotate_left; (focus (rintro w' ⟨o', n', rfl⟩; go_simp; try with_reducible rfl)); simp only [Act.put, List.setIfInBounds_toArray, List.set_cons_zero, List.set_cons_succ]) | (refine wpR_pure (v := ?_) rfl rfl ?_ ?_; rotate_left; (focus (intro w'; go_simp; try with_reducible rfl)); simp only [Act.put, List.setIfInBounds_toArray, List.set_cons_zero, List.set_cons_succ]) | (refine wpR_takeG (v := ?_) rfl rfl rfl rfl rfl ?_ ?_; rotate_left; (focus (rintro w' ⟨o', n', rfl⟩; go_simp; try with_reducible rfl)); simp only [Act.put, List.setIfInBounds_toArray, List.set_cons_zero, List.set_cons_succ]) | (refine wpR_skip rfl rfl rfl rfl rfl rfl ?_; simp only [Act.put, List.setIfInBounds_toArray, List.set_cons_zero, List.set_cons_succ]) | (refine wpR_skipU rfl rfl rfl rfl rfl ?_; simp only [Act.put, List.setIfInBounds_toArray, List.set_cons_zero, List.set_cons_succ]) | (refine wpR_do rfl rfl (fun K hK => ?_)) | (refine wpR_doG rfl rfl rfl rfl rfl (fun K hK => ?_)) | (refine wpR_last rfl rfl (fun K hK => ?_)) | (refine wpR_nil ?_)) | ((with_reducible refine wpR_go ?_ ?_); (focus (show Grew _ _; repeat (first | (with_reducible exact Grew.refl _) | (with_reducible assumption) | (with_reducible exact Grew.same_o) | (with_reducible exact Grew.app_o) | (with_reducible refine Grew.ext ?_ _ _) | (with_reducible refine Grew.alloc ?_ _) | ((with_reducible refine Grew.setCell ?_ ?_ _); rotate_left; (focus (dsimp only; first | omega | (simp only [size_ext, World.size_alloc, Array.size_append]; omega)))) | (with_reducible refine Grew.drewN ?_ _) | (with_reducible refine Grew.drew ?_))))) | ((with_reducible refine upon_id ?_); refine upon_fop rfl (by assumption) (by assumption) ?_; intro rr nn hr))
  go_end0
  exact ⟨rfl, rr, hr, _, _, (by rw [drewN_ext0]; exact setCell_ext kg _)⟩
set_option maxRecDepth 100000 in
set_option maxHeartbeats 1000000 in
/-- axes.Axpy, of vectors in lists apart. -/
theorem axpy_any (a α : Nat) (x y : VecM) (bx cx g cg : Nat) (w : World) (ha : IsF a α) (hX : FW w bx x.ws) (hF : FW w g y.ws) (hne : g ≠ bx) (hx : x.right = true) (hy : y.right = true) (hn : y.n = x.n) (hwx : x.wf) (hwy : y.wf) (hlx : x.ws.length ≤ 1000000) (hly : y.ws.length ≤ 1000000) :
   Calls Try.prog 26 #[.float .f64 a, .agg #[.slice (some ⟨bx, 0, none⟩) x.ws.length cx, .int .i64 x.off, .int .i64 x.n, .int .i64 x.inc], .agg #[.slice (some ⟨g, 0, none⟩) y.ws.length cg, .int .i64 y.off, .int .i64 y.n, .int .i64 y.inc]] w (fun e w' => e = .returned (.int .i64 0) ∧ But w [g] w' ∧ FW w' g (axL (fun i z => fadd z (fmul α (x.num i))) y)) := by
  have hltg := hF.lt
  have hltx := hX.lt
  have hp : ∀ w', Grew w w' → Calls Try.prog 63 #[.agg #[.slice (some ⟨g, 0, none⟩) y.ws.length cg, .int .i64 y.off, .int .i64 y.n, .int .i64 y.inc], .agg #[.slice (some ⟨bx, 0, none⟩) x.ws.length cx, .int .i64 x.off, .int .i64 x.n, .int .i64 x.inc]] w' (fun e w2 => e = .returned (.int .i64 0) ∧ ∃ o n, w2 = ext w' o n) := fun w' hg => by
    have := pair_any y x g bx cg cx w' ((hF.grew hg).fs (by omega) cg) ((hX.grew hg).fs (by omega) cx) (FW.plain (hF.grew hg)) (FW.plain (hX.grew hg)) hwy hwx hly hlx
    rw [show pairE y x (decide (g = bx)) = 0 by unfold pairE; rw [if_pos ⟨hy, hx⟩, if_pos hn, if_neg (by simp [hne])]] at this
    exact this
  have hEach : ∀ T3 T4 w', Grew w w' → (∀ i, w'.cell? ⟨T3, i, none⟩ = (#[.float .f64 a] : Array Value)[i]?) → (∀ i, w'.cell? ⟨T4, i, none⟩ = (#[.slice (some ⟨bx, 0, none⟩) x.ws.length cx, .int .i64 x.off, .int .i64 x.n, .int .i64 x.inc] : Array Value)[i]?) → T3 < w'.heap.size → T4 < w'.heap.size → T3 ≠ g → T4 ≠ g →
      Calls Try.prog 117 #[.agg #[.slice (some ⟨g, 0, none⟩) y.ws.length cg, .int .i64 y.off, .int .i64 y.n, .int .i64 y.inc], .func (.func 118) #[] #[.pointer (some ⟨T3, 0, none⟩), .pointer (some ⟨T4, 0, none⟩)]] w' (fun e w2 => e = .returned (.tuple #[]) ∧ But w' [g] w2 ∧ FW w2 g (axL (fun i z => fadd z (fmul α (x.num i))) y)) := fun T3 T4 w' hg h3 h4 k3 k4 n3 n4 => by
    have h1 := hF.grew hg
    refine (eachAxpy y _ g 0 cg _ _ (RW1 y g fun i z => fadd z (fmul α (x.num i))) [g] w' hy hly (fun _ => rfl) (RW1.start h1) (fun _ _ _ h => h.1) (by simp; exact h1.lt) ?_).mono fun e w2 hh => ?_
    · intro W1 i w2 hg1 hi hR
      obtain ⟨hB, L, hL, hS⟩ := hR
      obtain ⟨r0, q1, q2⟩ := RW1.cell hL hS hy hi
      have z1 := hg1.below.size
      have z2 := hB.size
      have z3 := hg.below.size
      obtain ⟨rx, p1, p2⟩ := (hB.fw ((hX.grew hg).grew hg1) (by simpa using hne.symm)).get (i := x.place i) (VecM.place_lt hx (by omega))
      rw [Nat.zero_add]
      refine (axcl_any i (y.place i) g T3 T4 a α r0 _ bx cx rx _ x w2 (fun i => (hB.cell (by omega) (by simpa using n3)).trans ((hg1.cell k3).trans (h3 i))) ha (fun i => (hB.cell (by omega) (by simpa using n4)).trans ((hg1.cell k4).trans (h4 i))) (by omega) (by omega) hL.lt (by omega) hx (by omega) hlx p1 p2 q1 q2 hL.notFrozen).mono fun e w3 hh => ?_
      obtain ⟨e1, r, e2, o, n, rfl⟩ := hh
      exact ⟨e1, RW1.next hB hL hS hy hi e2 o n⟩
    · obtain ⟨e1, W1, e2, e3⟩ := hh
      exact ⟨e1, ((But.refl w' [g]).grew e2).trans e3.1 (fun _ hb => .inl hb), e3.done hy⟩
  clear hx hy hn hwx hwy
  have hmf := hmf
  go_enter Try.func26, Try.ntmps26
  refine seq_stop ?_
  go_wp2
  refine stop_go (fun W hW => ?_)
  have s1 : w.heap.size < W.heap.size := by rw [hW]; simp only [World.size_alloc]; omega
  have b1 : ∀ i, W.cell? ⟨w.heap.size, i, none⟩ = (#[.float .f64 a] : Array Value)[i]? := by intro i; rw [hW]; go_simp
  have s2 : w.heap.size + 1 < W.heap.size := by rw [hW]; simp only [World.size_alloc]; omega
  have b2 : ∀ i, W.cell? ⟨w.heap.size + 1, i, none⟩ = (#[.slice (some ⟨bx, 0, none⟩) x.ws.length cx, .int .i64 x.off, .int .i64 x.n, .int .i64 x.inc] : Array Value)[i]? := by intro i; rw [hW]; go_simp
  have s3 : w.heap.size + 1 + 1 < W.heap.size := by rw [hW]; simp only [World.size_alloc]; omega
  have b3 : ∀ i, W.cell? ⟨w.heap.size + 1 + 1, i, none⟩ = (#[.slice (some ⟨g, 0, none⟩) y.ws.length cg, .int .i64 y.off, .int .i64 y.n, .int .i64 y.inc] : Array Value)[i]? := by intro i; rw [hW]; go_simp
  have g0 : Grew w W := by rw [hW]; exact (((Grew.refl _).alloc _).alloc _).alloc _
  clear hW
  have zW := g0.below.size
  go_wp2_with (first | (go_at_call 63; ((with_reducible refine (hp _ (Grew.trans g0 (by (show Grew _ _; repeat (first | (with_reducible exact Grew.refl _) | (with_reducible assumption) | (with_reducible exact Grew.same_o) | (with_reducible exact Grew.app_o) | (with_reducible refine Grew.ext ?_ _ _) | (with_reducible refine Grew.alloc ?_ _) | ((with_reducible refine Grew.setCell ?_ ?_ _); rotate_left; (focus (dsimp only; first | omega | (simp only [size_ext, World.size_alloc, Array.size_append]; omega)))) | (with_reducible refine Grew.drewN ?_ _) | (with_reducible refine Grew.drew ?_)))))).mono ?_); rintro e w1 ⟨rfl, oa, na, rfl⟩)) | (go_at_call 117; ((with_reducible refine (hEach w.heap.size (w.heap.size + 1) _ (Grew.trans g0 (by (show Grew _ _; repeat (first | (with_reducible exact Grew.refl _) | (with_reducible assumption) | (with_reducible exact Grew.same_o) | (with_reducible exact Grew.app_o) | (with_reducible refine Grew.ext ?_ _ _) | (with_reducible refine Grew.alloc ?_ _) | ((with_reducible refine Grew.setCell ?_ ?_ _); rotate_left; (focus (dsimp only; first | omega | (simp only [size_ext, World.size_alloc, Array.size_append]; omega)))) | (with_reducible refine Grew.drewN ?_ _) | (with_reducible refine Grew.drew ?_))))) (fun i => (cell_ext s1).trans (b1 i)) (fun i => (cell_ext s2).trans (b2 i)) (by simp only [size_ext]; omega) (by simp only [size_ext]; omega) (by omega) (by omega)).mono ?_); rintro e w1 ⟨rfl, hB1, hF1⟩)))
  go_ret
  exact ⟨rfl, ((But.refl w [g]).grew (Grew.trans g0 ⟨_, _, rfl⟩)).trans hB1 (fun _ hb => .inl hb), hF1⟩
def L11 : List Nat := [4607182418800017408, 4607182418800017408]
def L34 : List Nat := [4613937818241073152, 4616189618054758400]
def L56 : List Nat := [4617315517961601024, 4618441417868443648]
theorem axpy_06 (bx cx g cg : Nat) (w : World) (hX : FW w bx L11) (hF : FW w g L34) (hne : g ≠ bx) :
   Calls Try.prog 26 #[.float .f64 4611686018427387904, .agg #[.slice (some ⟨bx, 0, none⟩) 2 cx, .int .i64 0, .int .i64 2, .int .i64 1], .agg #[.slice (some ⟨g, 0, none⟩) 2 cg, .int .i64 0, .int .i64 2, .int .i64 1]] w (fun e w' => e = .returned (.int .i64 0) ∧ But w [g] w' ∧ FW w' g L56) := by
  have h := axpy_any 4611686018427387904 4611686018427387904 ⟨L11, 0, 2, 1⟩ ⟨L34, 0, 2, 1⟩ bx cx g cg w (by decide +kernel) hX hF hne (by decide +kernel) (by decide +kernel) rfl (by simp [VecM.wf, I64]) (by simp [VecM.wf, I64]) (by decide) (by decide)
  rw [show axL (fun i z => fadd z (fmul 4611686018427387904 (VecM.num ⟨L11, 0, 2, 1⟩ i))) ⟨L34, 0, 2, 1⟩ = L56 by decide +kernel] at h
  exact h
set_option maxRecDepth 100000 in
set_option maxHeartbeats 2000000 in
theorem awake06 (w : World) : Calls Try.prog 24 #[] w (fun e w' => e = .returned (.bool true) ∧ ∃ o n, w' = ext w o n) := by
  have h1 : ∀ x ∈ L11, IsF x x := by decide +kernel
  have h3 : ∀ x ∈ L34, IsF x x := by decide +kernel
  have h5 : ∀ x ∈ L56, IsF x x := by decide +kernel
  have H1 := hid h1
  have H3 := hid h3
  have H5 := hid h5
  have da : decide (L56 = L56) = true := by decide +kernel
  clear h1 h3 h5
  have hno : ∀ w', Calls Try.prog 96 #[.float .f64 4607182418800017408, .agg #[.slice none 0 0, .int .i64 0, .int .i64 0, .int .i64 0]] w' (fun e w2 => e = .returned (.int .i64 1) ∧ ∃ o n, w2 = ext w' o n) := fun w' =>
    scal_no _ ⟨[], 0, 0, 0⟩ _ w' (FS.nil w') (by decide) (by simp [VecM.wf, I64])
  go_enter Try.func24, Try.ntmps24
  go_wp2_with (first | (go_at_call 96; ((with_reducible refine (hno _).mono ?_); rintro e w1 ⟨rfl, o1, n1, rfl⟩)))
  refine name_call (fun V hV => ?_)
  have gV : Grew w V := by rw [← hV]; (show Grew _ _; repeat (first | (with_reducible exact Grew.refl _) | (with_reducible assumption) | (with_reducible exact Grew.same_o) | (with_reducible exact Grew.app_o) | (with_reducible refine Grew.ext ?_ _ _) | (with_reducible refine Grew.alloc ?_ _) | ((with_reducible refine Grew.setCell ?_ ?_ _); rotate_left; (focus (dsimp only; first | omega | (simp only [size_ext, World.size_alloc, Array.size_append]; omega)))) | (with_reducible refine Grew.drewN ?_ _) | (with_reducible refine Grew.drew ?_)))
  have zV : w.heap.size + o1.size + 1 < V.heap.size := by rw [← hV]; simp only [World.size_alloc, size_ext]; omega
  have hg : FW V (w.heap.size + o1.size) L34 := by rw [← hV]; exact (FW.lit' (w := ext w o1 n1) (t := 22) L34 H3.out _ (by simp only [size_ext])).alloc _
  have hb : FW V (w.heap.size + o1.size + 1) L11 := by rw [← hV]; exact FW.lit' (t := 22) L11 H1.out _ (by simp only [size_ext, World.size_alloc])
  have hc := axpy_06 (w.heap.size + o1.size + 1) 2 (w.heap.size + o1.size) 2 V hb hg (by omega)
  obtain ⟨g, hgg⟩ : ∃ g, g = w.heap.size + o1.size := ⟨_, rfl⟩
  rw [← hgg] at hc
  simp only [← hgg]
  have zg : w.heap.size ≤ g := by omega
  clear hV hgg hg hb
  refine hc.mono ?_
  rintro e w1 ⟨rfl, hB, hF⟩
  have g1 : Grew w w1 := hB.grew0 gV (by intro k hk; simp at hk; omega)
  have hfs := hF.fs (by decide) 2
  go_wp2_with (first | (go_at_call 47; ((with_reducible refine (all_any _ _ L56 L56 _ ?_ ?_).mono ?_); (focus (exact hfs.alloc _)); (focus (repeat (first | exact FS.lit L56 (by decide) H5.out 2 _ (by simp only [size_ext, World.size_alloc]) | exact FS.lit L56 (by decide) H5.out 2 _ rfl | refine FS.alloc ?_ _ | refine FS.ext ?_ _ _))); rintro e w3 ⟨rfl, hw3⟩)))
  go_ret
  exact ⟨rfl, Grew.trans (g1.alloc _) hw3⟩
end Go.Proofs.Ytcmggfpcbijcjaa
end
section
/-
  Plain: a number scaled up by a power of 2, and back.
-/
set_option linter.unusedSimpArgs false
set_option linter.unusedVariables false
open Go Go.RowKit Sedge Ieee
namespace Go.Proofs.Ytcmggfpcbijcjaa
theorem parts_of_read {y : Nat} (hy : y < 2 ^ 64) {s : Bool} {m : Nat} {p : Int} (h : D64.read y = .number s m p) : pKind y = 0 ∧ pNeg y = s ∧ pMag y = m ∧ pExp y = p := by
  rw [read_eq y hy] at h
  by_cases k : pKind y = 0
  · rw [if_pos k] at h
    simp only [Datum.number.injEq] at h
    exact ⟨k, h.1, h.2.1, h.2.2⟩
  · rw [if_neg k] at h
    split at h <;> cases h
/-- Digits as they are kept, read back. -/
theorem read_made (s : Bool) (l : Int) (M : Nat) (hl : -1074 ≤ l) (hM : M < 2 ^ 53) (hn : 2 ^ 52 ≤ M ∨ l = -1074) (hf : (l + 1074).toNat * BN + M < IR) :
    D64.read (D64.word s ((l + 1074).toNat * BN + M)) = .number s M l := by
  have p52 : (2:Nat) ^ 52 = 4503599627370496 := by decide
  have p53 : (2:Nat) ^ 53 = 9007199254740992 := by decide
  rw [p52] at hn
  rw [p53] at hM
  have hIR : IR = 9218868437227405312 := by decide +kernel
  by_cases h : 4503599627370496 ≤ M
  · have e : (l + 1074).toNat * BN + M = (l + 1075).toNat * BN + (M - 4503599627370496) := by unfold BN; omega
    have h2 : (l + 1075).toNat ≤ 2046 := by rw [hIR] at hf; unfold BN at hf; omega
    rw [e, read_mid s _ _ (by omega) h2 (by unfold BN; omega)]
    rw [show BN + (M - 4503599627370496) = M by unfold BN; omega, show (((l + 1075).toNat : Nat) : Int) - 1075 = l by omega]
  · have hl0 : l = -1074 := by omega
    subst hl0
    have e : (-1074 + 1074 : Int).toNat * BN + M = M := by simp
    rw [e, read_word s M (by unfold SW; omega), if_pos (by unfold BN; omega)]
theorem canon_word {x : Nat} (hx : x < 2 ^ 64) : x = D64.word (pNeg x) (expo x * BN + frac x) := by
  have p63 : (2:Nat) ^ 63 = 9223372036854775808 := by decide
  have p64 : (2:Nat) ^ 64 = 18446744073709551616 := by decide
  have hSW : SW = 9223372036854775808 := by decide +kernel
  rw [word_sN, ← rung_eq, p63]
  unfold pNeg sN
  rw [hSW]
  rw [p64] at hx
  by_cases h : x / 9223372036854775808 = 1
  · simp [h]; omega
  · simp [h]; omega
theorem rung_norm (E F : Nat) (h : E ≠ 0) : ((E : Int) - 1075 + ((0 : Nat) : Int) + 1074).toNat * BN + (F + BN) = E * BN + F := by
  have e : ((E : Int) - 1075 + ((0 : Nat) : Int) + 1074).toNat = E - 1 := by omega
  rw [e]
  obtain ⟨n, rfl⟩ : ∃ n, E = n + 1 := ⟨E - 1, by omega⟩
  rw [Nat.add_sub_cancel, Nat.add_mul, Nat.one_mul]
  generalize n * BN = a
  generalize BN = b
  omega
theorem rung_le {x : Nat} (h : expo x ≠ 2047) : expo x * BN + frac x ≤ IR := by
  have h1 := expo_lt x
  have h2 := frac_lt' x
  unfold BN IR; omega
/-- A finite number is the nearest to itself. -/
theorem nearest_parts {x : Nat} (hx : x < 2 ^ 64) (hk : pKind x = 0) (h0 : pMag x ≠ 0) : D64.nearest (pNeg x) (pMag x) (pExp x) = x := by
  have hge := pExp_ge x hk
  have hf := frac_lt' x
  have he := expo_lt x
  have hIR : IR = 9218868437227405312 := by decide +kernel
  have p52 : (2:Nat) ^ 52 = 4503599627370496 := by decide
  have hne : expo x ≠ 2047 := by
    intro e; unfold pKind at hk; rw [if_pos e] at hk; split at hk <;> omega
  have h2 : 2 ^ 52 ≤ pMag x ∨ pExp x ≤ -1074 := by
    unfold pMag pExp
    rw [if_neg hne, if_neg hne, p52]
    by_cases h : expo x = 0
    · right; rw [if_pos h]; omega
    · left; rw [if_neg h]; unfold BN; omega
  have hm := pMag_lt x
  rw [nearest_at (pNeg x) (pMag x) (pExp x) 0 h0 hm h2 (by simp; omega) (by simp), rne_zero]
  have e : (pExp x + (0 : Nat) + 1074).toNat * BN + pMag x = expo x * BN + frac x := by
    unfold pMag pExp
    rw [if_neg hne, if_neg hne]
    by_cases h : expo x = 0
    · rw [if_pos h, if_pos h, h]; simp
    · rw [if_neg h, if_neg h]; exact rung_norm _ _ h
  have hle := rung_le hne
  rw [e, Nat.min_eq_left hle]
  exact (canon_word hx).symm
theorem kcl_in {k : Int} (h : -5000 ≤ k ∧ k ≤ 5000) : kcl k = k := by unfold kcl; omega
/-- Up, and back. -/
theorem fscale_back {x : Nat} (hx : IsF x x) {k : Int} (h0 : 0 ≤ k) (h1 : k ≤ 255) (hf : finB (fscale x k) = true) : fscale (fscale x k) (-k) = x := by
  by_cases hp : pKind x = 0 ∧ pMag x ≠ 0
  · obtain ⟨hk, hm⟩ := hp
    have hge := pExp_ge x hk
    have hlt := pMag_lt x
    have e1 : fscale x k = D64.nearest (pNeg x) (pMag x) (pExp x + k) := by
      unfold fscale; rw [if_pos ⟨hk, hm⟩, kcl_in (by omega)]
    rw [e1] at hf ⊢
    have hself := nearest_parts hx.1 hk hm
    generalize pNeg x = s at *
    generalize pExp x = e at *
    generalize pMag x = m at *
    have hlog := log2_le_52 hm hlt
    have hle : lastP m (e + k) ≤ e + k := by unfold lastP; omega
    have hge2 := lastP_ge m (e + k)
    have hor := lastP_or m (e + k)
    obtain ⟨j, hj⟩ : ∃ j : Nat, lastP m (e + k) = e + k - j := ⟨(e + k - lastP m (e + k)).toNat, by omega⟩
    have hkept : keptP m (e + k) = m * 2 ^ j := by
      unfold keptP
      rw [hj, show (e + k - j - (e + k)).toNat = 0 by omega, show (e + k - (e + k - (j : Int))).toNat = j by omega, rne_zero, Nat.shiftLeft_eq]
    obtain ⟨a, b⟩ := log2_spec m hm
    have hj52 : m.log2 + j ≤ 52 := by omega
    have hM : m * 2 ^ j < 2 ^ 53 := by
      have := Nat.mul_lt_mul_of_pos_right b (Nat.two_pow_pos j)
      rw [← Nat.pow_add] at this
      exact Nat.lt_of_lt_of_le this (Nat.pow_le_pow_right (by decide) (by omega))
    have hn : 2 ^ 52 ≤ m * 2 ^ j ∨ e + k - j = -1074 := by
      rcases hor with h | h
      · left
        have hh : m.log2 + j = 52 := by omega
        have := Nat.mul_le_mul_right (2 ^ j) a
        rw [← Nat.pow_add, hh] at this
        exact this
      · right; omega
    have hnz : m * 2 ^ j ≠ 0 := Nat.mul_ne_zero hm (Nat.pos_iff_ne_zero.1 (Nat.two_pow_pos j))
    have hw := nearest_eq s m (e + k) hm
    rw [hj, hkept] at hw
    rw [hj] at hge2
    by_cases hfin : (e + k - j + 1074).toNat * BN + m * 2 ^ j < IR
    · rw [Nat.min_eq_left (Nat.le_of_lt hfin)] at hw
      have hr := read_made s (e + k - j) (m * 2 ^ j) hge2 hM hn hfin
      have hlt64 := (isF_word s _ (Nat.le_of_lt hfin)).1
      rw [← hw] at hr hlt64
      obtain ⟨p1, p2, p3, p4⟩ := parts_of_read hlt64 hr
      have e2 : fscale (D64.nearest s m (e + k)) (-k) = D64.nearest s (m * 2 ^ j) (e + k - j + -k) := by
        unfold fscale
        rw [if_pos ⟨p1, by rw [p3]; exact hnz⟩, p2, p3, p4, kcl_in (by omega)]
      rw [e2, show e + k - (j : Int) + -k = e - j by omega, nearest_scale s m j e hm]
      exact hself
    · rw [Nat.min_eq_right (by omega)] at hw
      rw [hw] at hf
      exfalso
      have : ∀ s, finB (D64.word s IR) = false := by intro s; cases s <;> decide +kernel
      rw [this s] at hf
      cases hf
  · have e1 : fscale x k = x := by unfold fscale; rw [if_neg hp]
    rw [e1]
    unfold fscale; rw [if_neg hp]
end Go.Proofs.Ytcmggfpcbijcjaa
end
section
/-
  The walk of the law AxesBack (layer 6).
-/
set_option linter.unusedSimpArgs false
set_option linter.unusedVariables false
open Go Go.RowKit Sedge
namespace Go.Proofs.Ytcmggfpcbijcjaa
theorem _root_.Sedge.ApartV.symm {u v : Value} (h : ApartV u v) : ApartV v u := fun k h1 h2 => h k h2 h1
theorem iinfo : (Try.prog.info? 3).map (fun i => (i.zero, i.size, i.bytes)) = some (some (Value.int .i64 0), 1, 8) := by kernel_rfl
theorem iund : Try.prog.underlying 30 = some (.slice 3) := by kernel_rfl
theorem _root_.Sedge.OwnI.but {w w' : World} {G : List Nat} {B : Nat} {v : Value} {zs : List Int} (h : OwnI w B v zs) (hb : But w G w') (hne : ∀ k, v.ownBlock = some k → k ∉ G) : OwnI w' B v zs := by
  have hlt := World.ownsRow.lt h
  obtain ⟨h0, h1⟩ := h
  refine ⟨h0, ?_⟩
  rcases h1 with h1 | ⟨gg, cap, cur, rfl, hB, hh, r⟩
  · exact .inl h1
  · exact .inr ⟨gg, cap, cur, rfl, hB, by rw [hb.block gg (hlt gg rfl).2 (hne gg rfl)]; exact hh, r⟩
theorem axL_get {x : VecM} (F : Nat → Nat → Nat) (hx : x.right = true) {i : Nat} (hi : (i : Int) < x.n) : (axL F x).getD (x.place i) 0 = F i (x.num i) := by
  unfold axL VecMwrite VecMwriteTo
  rw [show min x.n.toNat ((List.range x.n.toNat).map fun i => F i (x.num i)).length = x.n.toNat by simp]
  rw [writes_at x.n.toNat (fun a b ha hb e => VecM.place_inj hx (by omega) (by omega) e) (fun a ha => VecM.place_lt hx (by omega)) i (by omega)]
  rw [List.getD_eq_getElem?_getD, List.getElem?_map, List.getElem?_range (by omega)]; rfl
theorem axL_length (F : Nat → Nat → Nat) (x : VecM) : (axL F x).length = x.ws.length := by simp [axL, VecMwrite, VecMwriteTo]
def vec1 (l : List Nat) : VecM := ⟨l, 0, l.length, 1⟩
theorem vec1_place (l : List Nat) (i : Nat) : (vec1 l).place i = i := by simp [vec1, VecM.place]
theorem vec1_num (l : List Nat) (i : Nat) : (vec1 l).num i = l.getD i 0 := by simp [vec1, VecM.num, VecM.place]
theorem vec1_right (l : List Nat) : (vec1 l).right = true := by
  unfold VecM.right fitsB vec1
  simp
  omega
def upTo (ks : List Int) (i : Nat) : List Int := (List.range i).map fun j => ks.getD j 0
def downTo (ks : List Int) (i : Nat) : List Int := (List.range i).map fun j => -ks.getD j 0
theorem upTo_succ (ks : List Int) (i : Nat) : upTo ks (i + 1) = upTo ks i ++ [ks.getD i 0] := by unfold upTo; rw [List.range_succ, List.map_append]; rfl
theorem downTo_succ (ks : List Int) (i : Nat) : downTo ks (i + 1) = downTo ks i ++ [-ks.getD i 0] := by unfold downTo; rw [List.range_succ, List.map_append]; rfl
theorem upTo_length (ks : List Int) (i : Nat) : (upTo ks i).length = i := by simp [upTo]
theorem downTo_length (ks : List Int) (i : Nat) : (downTo ks i).length = i := by simp [downTo]
theorem upTo_get (ks : List Int) {i n : Nat} (h : i < n) : (upTo ks n).getD i 0 = ks.getD i 0 := by
  unfold upTo
  rw [List.getD_eq_getElem?_getD, List.getElem?_map, List.getElem?_range h]; rfl
theorem downTo_get (ks : List Int) {i n : Nat} (h : i < n) : (downTo ks n).getD i 0 = -ks.getD i 0 := by
  unfold downTo
  rw [List.getD_eq_getElem?_getD, List.getElem?_map, List.getElem?_range h]; rfl
def upL (l : List Nat) (ks : List Int) : List Nat := axL (fun i z => fscale z ((upTo ks l.length).getD i 0)) (vec1 l)
def backL (l : List Nat) (ks : List Int) : List Nat := axL (fun i z => fscale z ((downTo ks l.length).getD i 0)) (vec1 (upL l ks))
theorem upL_length (l : List Nat) (ks : List Int) : (upL l ks).length = l.length := axL_length _ _
theorem backL_length (l : List Nat) (ks : List Int) : (backL l ks).length = l.length := (axL_length _ _).trans (upL_length l ks)
theorem upL_get (l : List Nat) (ks : List Int) {i : Nat} (h : i < l.length) : (upL l ks).getD i 0 = fscale (l.getD i 0) (ks.getD i 0) := by
  have := axL_get (x := vec1 l) (fun i z => fscale z ((upTo ks l.length).getD i 0)) (vec1_right l) (i := i) (by show (i : Int) < l.length; omega)
  rw [vec1_place, vec1_num, upTo_get ks h] at this
  exact this
theorem backL_get (l : List Nat) (ks : List Int) {i : Nat} (h : i < l.length) : (backL l ks).getD i 0 = fscale ((upL l ks).getD i 0) (-ks.getD i 0) := by
  have := axL_get (x := vec1 (upL l ks)) (fun i z => fscale z ((downTo ks l.length).getD i 0)) (vec1_right _) (i := i) (by show (i : Int) < (upL l ks).length; rw [upL_length]; omega)
  rw [vec1_place, vec1_num, downTo_get ks h] at this
  exact this
theorem back_law (l : List Nat) (ks : List Int) (hl : ∀ i, i < l.length → IsF (l.getD i 0) (l.getD i 0)) (hk : ∀ i, i < l.length → 0 ≤ ks.getD i 0 ∧ ks.getD i 0 ≤ 255) (hf : finL (upL l ks) = true) : backL l ks = l := by
  apply List.ext_getElem?
  intro i
  by_cases h : i < l.length
  · have e : (backL l ks).getD i 0 = l.getD i 0 := by
      rw [backL_get l ks h]
      rw [upL_get l ks h]
      refine fscale_back (hl i h) (hk i h).1 (hk i h).2 ?_
      rw [← upL_get l ks h]
      unfold finL at hf
      rw [List.all_eq_true] at hf
      refine hf _ ?_
      rw [List.getD_eq_getElem?_getD, List.getElem?_eq_getElem (by rw [upL_length]; exact h)]
      exact List.getElem_mem _
    rw [List.getD_eq_getElem?_getD, List.getD_eq_getElem?_getD, List.getElem?_eq_getElem (by rw [backL_length]; exact h), List.getElem?_eq_getElem h] at e
    rw [List.getElem?_eq_getElem (by rw [backL_length]; exact h), List.getElem?_eq_getElem h]
    simpa using e
  · rw [List.getElem?_eq_none (by rw [backL_length]; omega), List.getElem?_eq_none (by omega)]
end Go.Proofs.Ytcmggfpcbijcjaa
end
