/-
  Contracts: axes.Scal, axes.Shift, axes.Axpy (lists apart).
-/
import Derived.Test.YtcmggfpcbijcjaaAxes1
import Derived.Test.YtcmggfpcbijcjaaVec3
import Derived.Test.YtcmggfpcbijcjaaLists
import Derived.Test.YtcmggfpcbijcjaaClear
set_option linter.unusedSimpArgs false
set_option linter.unusedVariables false
open Go Go.RowKit Sedge
namespace Go.Proofs.Ytcmggfpcbijcjaa
/-- With the place at hand: the numbers up to i are made. -/
def stepI (F : Nat → Nat → Nat) (s : Nat → Nat) (i r : Nat) : Nat := if r < i then F r (s r) else s r
theorem stepI_set {x : VecM} {L : List Nat} {s : Nat → Nat} {F : Nat → Nat → Nat} {i v : Nat} (h : VH x L (stepI F s i)) (hx : x.right = true) (hi : (i : Int) < x.n) (hv : v = F i (s i)) : VH x (L.set (x.place i) v) (stepI F s (i + 1)) := by
  refine (h.set hx hi).congr fun r hr => ?_
  unfold stepI
  by_cases e : r = i
  · subst e; simp [hv]
  · rw [if_neg e]
    by_cases h2 : r < i
    · rw [if_pos h2, if_pos (by omega)]
    · rw [if_neg h2, if_neg (by omega)]
def axL (F : Nat → Nat → Nat) (x : VecM) : List Nat := VecMwrite x ((List.range x.n.toNat).map fun i => F i (x.num i))
/-- The state of a closure that writes the vector's numbers one by one. -/
def RW1 (x : VecM) (g : Nat) (F : Nat → Nat → Nat) (W1 : World) (i : Nat) (w' : World) : Prop := But W1 [g] w' ∧ ∃ L, FW w' g L ∧ VH x L (stepI F x.num i)
theorem RW1.start {x : VecM} {g : Nat} {F : Nat → Nat → Nat} {w : World} (hF : FW w g x.ws) : ∀ W1, Grew w W1 → RW1 x g F W1 0 W1 :=
  fun W1 h => ⟨But.refl _ _, x.ws, hF.grew h, (VH.start x).congr fun r _ => by simp [stepI]⟩
theorem RW1.done {x : VecM} {g : Nat} {F : Nat → Nat → Nat} {W1 w' : World} (h : RW1 x g F W1 x.n.toNat w') (hx : x.right = true) : FW w' g (axL F x) := by
  obtain ⟨_, L, h1, h2⟩ := h
  have h3 := (h2.congr (t := fun r => F r (x.num r)) fun r hr => by unfold stepI; rw [if_pos (by omega)]).final hx
  unfold axL
  rw [← h3]; exact h1
theorem RW1.next {x : VecM} {g i r : Nat} {F : Nat → Nat → Nat} {W1 w' : World} {L : List Nat} (hB : But W1 [g] w') (hL : FW w' g L) (hS : VH x L (stepI F x.num i)) (hx : x.right = true) (hi : (i : Int) < x.n) (hr : IsF r (F i (x.num i))) (o : Array Obj) (n : Nat) : RW1 x g F W1 (i + 1) (ext (w'.setCell ⟨g, x.place i, none⟩ (.float .f64 r)) o n) :=
  ⟨(hB.setc hL (by simp)).grew ⟨_, _, rfl⟩, _, (hL.setc (k := x.place i) hr).ext _ _, stepI_set hS hx hi rfl⟩
theorem RW1.cell {x : VecM} {g i : Nat} {F : Nat → Nat → Nat} {w' : World} {L : List Nat} (hL : FW w' g L) (hS : VH x L (stepI F x.num i)) (hx : x.right = true) (hi : (i : Int) < x.n) : ∃ r0, w'.cell? ⟨g, x.place i, none⟩ = some (.float .f64 r0) ∧ IsF r0 (x.num i) := by
  obtain ⟨r0, hr0, hf0⟩ := hL.get (i := x.place i) (by rw [hS.len]; exact VecM.place_lt hx hi)
  rw [hS.get i hi] at hf0
  unfold stepI at hf0
  rw [if_neg (by omega)] at hf0
  exact ⟨r0, hr0, hf0⟩
set_option maxRecDepth 100000 in
set_option maxHeartbeats 1000000 in
/-- axes.Scal. -/
theorem scal_any (a α : Nat) (x : VecM) (g cap : Nat) (w : World) (ha : IsF a α) (hF : FW w g x.ws) (hx : x.right = true) (hwf : x.wf) (hl : x.ws.length ≤ 1000000) :
   Calls Try.prog 96 #[.float .f64 a, .agg #[.slice (some ⟨g, 0, none⟩) x.ws.length cap, .int .i64 x.off, .int .i64 x.n, .int .i64 x.inc]] w (fun e w' => e = .returned (.int .i64 0) ∧ But w [g] w' ∧ FW w' g (axL (fun _ z => fmul α z) x)) := by
  have hlt := hF.lt
  have hrt : ∀ w', FS w' (.slice (some ⟨g, 0, none⟩) x.ws.length cap) x.ws → Calls Try.prog 135 #[.agg #[.slice (some ⟨g, 0, none⟩) x.ws.length cap, .int .i64 x.off, .int .i64 x.n, .int .i64 x.inc]] w' (fun e w2 => e = .returned (.bool true) ∧ ∃ o n, w2 = ext w' o n) := fun w' h => by
    have := right_any x _ w' h hwf; rw [hx] at this; exact this
  have hEach : ∀ T w', FW w' g x.ws → (∀ i, w'.cell? ⟨T, i, none⟩ = (#[.float .f64 a] : Array Value)[i]?) → T < w'.heap.size → T ≠ g → Calls Try.prog 117 #[.agg #[.slice (some ⟨g, 0, none⟩) x.ws.length cap, .int .i64 x.off, .int .i64 x.n, .int .i64 x.inc], .func (.func 172) #[] #[.pointer (some ⟨T, 0, none⟩)]] w' (fun e w2 => e = .returned (.tuple #[]) ∧ But w' [g] w2 ∧ FW w2 g (axL (fun _ z => fmul α z) x)) := fun T w' h1 h2 h3 h4 => by
    refine (eachScal x _ g 0 cap _ (RW1 x g fun _ z => fmul α z) [g] w' hx hl (fun _ => rfl) (RW1.start h1) (fun _ _ _ h => h.1) (by simp; exact h1.lt) ?_).mono fun e w2 hh => ?_
    · intro W1 i w2 hg hi hR
      obtain ⟨hB, L, hL, hS⟩ := hR
      obtain ⟨r0, q1, q2⟩ := RW1.cell hL hS hx hi
      have z1 := hg.below.size
      have z2 := hB.size
      rw [Nat.zero_add]
      refine (scl_any i (x.place i) g T a α r0 _ w2 (fun i => (hB.cell (by omega) (by simpa using h4)).trans ((hg.cell h3).trans (h2 i))) ha (by omega) hL.lt q1 q2 hL.notFrozen).mono fun e w3 hh => ?_
      obtain ⟨e1, r, e2, o, n, rfl⟩ := hh
      exact ⟨e1, RW1.next hB hL hS hx hi e2 o n⟩
    · obtain ⟨e1, W1, e2, e3⟩ := hh
      exact ⟨e1, ((But.refl w' [g]).grew e2).trans e3.1 (fun _ hb => .inl hb), e3.done hx⟩
  clear hx hwf
  have hmf := hmf
  go_enter Try.func96, Try.ntmps96
  refine seq_stop ?_
  go_wp2
  refine stop_go (fun W hW => ?_)
  have s1 : w.heap.size < W.heap.size := by rw [hW]; simp only [World.size_alloc]; omega
  have b1 : ∀ i, W.cell? ⟨w.heap.size, i, none⟩ = (#[.float .f64 a] : Array Value)[i]? := by intro i; rw [hW]; go_simp
  have s2 : w.heap.size + 1 < W.heap.size := by rw [hW]; simp only [World.size_alloc]; omega
  have b2 : ∀ i, W.cell? ⟨w.heap.size + 1, i, none⟩ = (#[.slice (some ⟨g, 0, none⟩) x.ws.length cap, .int .i64 x.off, .int .i64 x.n, .int .i64 x.inc] : Array Value)[i]? := by intro i; rw [hW]; go_simp
  have g0 : Grew w W := by rw [hW]; exact ((Grew.refl _).alloc _).alloc _
  clear hW
  have hFW := hF.grew g0
  have hXW := hFW.fs (by omega) cap
  have zW := g0.below.size
  go_wp2_with (first | (go_at_call 135; ((with_reducible refine (hrt _ ?_).mono ?_); (focus (first | (with_reducible assumption) | (with_reducible refine FS.ext ?_ _ _; with_reducible assumption) | (with_reducible refine IS.ext ?_ _ _; with_reducible assumption) | (refine hDu _ ?_; with_reducible assumption) | (refine hOu _ ?_; with_reducible assumption) | (refine hDa _ ?_; with_reducible assumption) | (refine hDb _ ?_; with_reducible assumption) | (refine hDc _ ?_; with_reducible assumption) | (refine hDd _ ?_; with_reducible assumption) | (refine FW.fs ?_ (by omega) _; with_reducible assumption) | (refine WS.fs ?_; with_reducible assumption) | (refine FW.fs ?_ (by omega) _; assumption) | omega | assumption)); rintro e w1 ⟨rfl, oa, na, rfl⟩)) | (go_at_call 117; ((with_reducible refine (hEach w.heap.size _ (hFW.ext _ _) (fun i => (cell_ext s1).trans (b1 i)) (by simp only [size_ext]; omega) (by omega)).mono ?_); rintro e w1 ⟨rfl, hB1, hF1⟩)))
  go_ret
  exact ⟨rfl, ((But.refl w [g]).grew (Grew.trans g0 ⟨_, _, rfl⟩)).trans hB1 (fun _ hb => .inl hb), hF1⟩
set_option maxRecDepth 100000 in
set_option maxHeartbeats 1000000 in
/-- axes.Scal of what is no vector. -/
theorem scal_no (a : Nat) (x : VecM) (D : Value) (w : World) (hD : FS w D x.ws) (hx : x.right = false) (hwf : x.wf) :
   Calls Try.prog 96 #[.float .f64 a, .agg #[D, .int .i64 x.off, .int .i64 x.n, .int .i64 x.inc]] w (fun e w' => e = .returned (.int .i64 1) ∧ ∃ o n, w' = ext w o n) := by
  have hrt : ∀ w', FS w' D x.ws → Calls Try.prog 135 #[.agg #[D, .int .i64 x.off, .int .i64 x.n, .int .i64 x.inc]] w' (fun e w2 => e = .returned (.bool false) ∧ ∃ o n, w2 = ext w' o n) := fun w' h => by
    have := right_any x _ w' h hwf; rw [hx] at this; exact this
  clear hx hwf
  go_enter Try.func96, Try.ntmps96
  refine seq_stop ?_
  go_wp2
  refine stop_go (fun W hW => ?_)
  have s1 : w.heap.size < W.heap.size := by rw [hW]; simp only [World.size_alloc]; omega
  have b1 : ∀ i, W.cell? ⟨w.heap.size, i, none⟩ = (#[.float .f64 a] : Array Value)[i]? := by intro i; rw [hW]; go_simp
  have s2 : w.heap.size + 1 < W.heap.size := by rw [hW]; simp only [World.size_alloc]; omega
  have b2 : ∀ i, W.cell? ⟨w.heap.size + 1, i, none⟩ = (#[D, .int .i64 x.off, .int .i64 x.n, .int .i64 x.inc] : Array Value)[i]? := by intro i; rw [hW]; go_simp
  have g0 : Grew w W := by rw [hW]; exact ((Grew.refl _).alloc _).alloc _
  clear hW
  have hDW := hD.grew g0
  go_wp2_with (first | (go_at_call 135; ((with_reducible refine (hrt _ ?_).mono ?_); (focus (first | (with_reducible assumption) | (with_reducible refine FS.ext ?_ _ _; with_reducible assumption) | (with_reducible refine IS.ext ?_ _ _; with_reducible assumption) | (refine hDu _ ?_; with_reducible assumption) | (refine hOu _ ?_; with_reducible assumption) | (refine hDa _ ?_; with_reducible assumption) | (refine hDb _ ?_; with_reducible assumption) | (refine hDc _ ?_; with_reducible assumption) | (refine hDd _ ?_; with_reducible assumption) | (refine FW.fs ?_ (by omega) _; with_reducible assumption) | (refine WS.fs ?_; with_reducible assumption) | (refine FW.fs ?_ (by omega) _; assumption) | omega | assumption)); rintro e w1 ⟨rfl, oa, na, rfl⟩)))
  go_ret
  exact ⟨rfl, by (show Grew _ _; repeat (first | (with_reducible exact Grew.refl _) | (with_reducible assumption) | (with_reducible refine Grew.ext ?_ _ _) | (with_reducible refine Grew.alloc ?_ _) | ((with_reducible refine Grew.setCell ?_ ?_ _); rotate_left; (focus (dsimp only; first | omega | (simp only [size_ext, World.size_alloc, Array.size_append]; omega)))) | (with_reducible refine Grew.drewN ?_ _) | (with_reducible refine Grew.drew ?_)))⟩
set_option maxRecDepth 100000 in
set_option maxHeartbeats 1000000 in
/-- axes.Shift. -/
theorem shift_any (x : VecM) (g cap : Nat) (O : Value) (zs : List Int) (w : World) (hF : FW w g x.ws) (hO : IS .i64 w O zs) (hx : x.right = true) (hwf : x.wf) (hl : x.ws.length ≤ 1000000) (hn : (zs.length : Int) = x.n) (hOg : ∀ w', But w [g] w' → IS .i64 w' O zs) :
   Calls Try.prog 85 #[.agg #[.slice (some ⟨g, 0, none⟩) x.ws.length cap, .int .i64 x.off, .int .i64 x.n, .int .i64 x.inc], O] w (fun e w' => e = .returned (.int .i64 0) ∧ But w [g] w' ∧ FW w' g (axL (fun i z => fscale z (zs.getD i 0)) x)) := by
  have hlt := hF.lt
  obtain ⟨aO, cO, rfl⟩ := hO.shape
  have hrt : ∀ w', FS w' (.slice (some ⟨g, 0, none⟩) x.ws.length cap) x.ws → Calls Try.prog 135 #[.agg #[.slice (some ⟨g, 0, none⟩) x.ws.length cap, .int .i64 x.off, .int .i64 x.n, .int .i64 x.inc]] w' (fun e w2 => e = .returned (.bool true) ∧ ∃ o n, w2 = ext w' o n) := fun w' h => by
    have := right_any x _ w' h hwf; rw [hx] at this; exact this
  have hEach : ∀ T w', Grew w w' → FW w' g x.ws → (∀ i, w'.cell? ⟨T, i, none⟩ = (#[.slice aO zs.length cO] : Array Value)[i]?) → T < w'.heap.size → T ≠ g → Calls Try.prog 117 #[.agg #[.slice (some ⟨g, 0, none⟩) x.ws.length cap, .int .i64 x.off, .int .i64 x.n, .int .i64 x.inc], .func (.func 161) #[] #[.pointer (some ⟨T, 0, none⟩)]] w' (fun e w2 => e = .returned (.tuple #[]) ∧ But w' [g] w2 ∧ FW w2 g (axL (fun i z => fscale z (zs.getD i 0)) x)) := fun T w' hb h1 h2 h3 h4 => by
    refine (eachShift x _ g 0 cap _ (RW1 x g fun i z => fscale z (zs.getD i 0)) [g] w' hx hl (fun _ => rfl) (RW1.start h1) (fun _ _ _ h => h.1) (by simp; exact h1.lt) ?_).mono fun e w2 hh => ?_
    · intro W1 i w2 hg hi hR
      obtain ⟨hB, L, hL, hS⟩ := hR
      obtain ⟨r0, q1, q2⟩ := RW1.cell hL hS hx hi
      have z1 := hg.below.size
      have z2 := hB.size
      rw [Nat.zero_add]
      refine (shl_any i (x.place i) g T r0 _ _ zs w2 (fun i => (hB.cell (by omega) (by simpa using h4)).trans ((hg.cell h3).trans (h2 i))) (hOg _ ((((But.refl w [g]).grew hb).grew hg).trans hB (fun _ hb => .inl hb))) (by omega) (by omega) hL.lt q1 q2 hL.notFrozen).mono fun e w3 hh => ?_
      obtain ⟨e1, r, e2, o, n, rfl⟩ := hh
      exact ⟨e1, RW1.next hB hL hS hx hi e2 o n⟩
    · obtain ⟨e1, W1, e2, e3⟩ := hh
      exact ⟨e1, ((But.refl w' [g]).grew e2).trans e3.1 (fun _ hb => .inl hb), e3.done hx⟩
  have d1 : ((zs.length : Int) != x.n) = false := by simpa using hn
  clear hx hwf hn hOg
  have hmf := hmf
  go_enter Try.func85, Try.ntmps85
  refine seq_stop ?_
  go_wp2
  refine stop_go (fun W hW => ?_)
  have s1 : w.heap.size < W.heap.size := by rw [hW]; simp only [World.size_alloc]; omega
  have b1 : ∀ i, W.cell? ⟨w.heap.size, i, none⟩ = (#[.slice (some ⟨g, 0, none⟩) x.ws.length cap, .int .i64 x.off, .int .i64 x.n, .int .i64 x.inc] : Array Value)[i]? := by intro i; rw [hW]; go_simp
  have s2 : w.heap.size + 1 < W.heap.size := by rw [hW]; simp only [World.size_alloc]; omega
  have b2 : ∀ i, W.cell? ⟨w.heap.size + 1, i, none⟩ = (#[.slice aO zs.length cO] : Array Value)[i]? := by intro i; rw [hW]; go_simp
  have g0 : Grew w W := by rw [hW]; exact ((Grew.refl _).alloc _).alloc _
  clear hW
  have hFW := hF.grew g0
  have hXW := hFW.fs (by omega) cap
  have zW := g0.below.size
  go_wp2_with (first | (go_at_call 135; ((with_reducible refine (hrt _ ?_).mono ?_); (focus (first | (with_reducible assumption) | (with_reducible refine FS.ext ?_ _ _; with_reducible assumption) | (with_reducible refine IS.ext ?_ _ _; with_reducible assumption) | (refine hDu _ ?_; with_reducible assumption) | (refine hOu _ ?_; with_reducible assumption) | (refine hDa _ ?_; with_reducible assumption) | (refine hDb _ ?_; with_reducible assumption) | (refine hDc _ ?_; with_reducible assumption) | (refine hDd _ ?_; with_reducible assumption) | (refine FW.fs ?_ (by omega) _; with_reducible assumption) | (refine WS.fs ?_; with_reducible assumption) | (refine FW.fs ?_ (by omega) _; assumption) | omega | assumption)); rintro e w1 ⟨rfl, oa, na, rfl⟩)) | (go_at_call 117; ((with_reducible refine (hEach (w.heap.size + 1) _ (Grew.trans g0 (by (show Grew _ _; repeat (first | (with_reducible exact Grew.refl _) | (with_reducible assumption) | (with_reducible refine Grew.ext ?_ _ _) | (with_reducible refine Grew.alloc ?_ _) | ((with_reducible refine Grew.setCell ?_ ?_ _); rotate_left; (focus (dsimp only; first | omega | (simp only [size_ext, World.size_alloc, Array.size_append]; omega)))) | (with_reducible refine Grew.drewN ?_ _) | (with_reducible refine Grew.drew ?_))))) (hFW.ext _ _) (fun i => (cell_ext s2).trans (b2 i)) (by simp only [size_ext]; omega) (by omega)).mono ?_); rintro e w1 ⟨rfl, hB1, hF1⟩)))
  go_ret
  exact ⟨rfl, ((But.refl w [g]).grew (Grew.trans g0 ⟨_, _, rfl⟩)).trans hB1 (fun _ hb => .inl hb), hF1⟩
set_option maxRecDepth 100000 in
set_option maxHeartbeats 1000000 in
/-- axes.Shift that tells an error. -/
theorem shift_no (x : VecM) (D O : Value) (zs : List Int) (w : World) (hD : FS w D x.ws) (hO : IS .i64 w O zs) (hwf : x.wf) (hne : x.right = false ∨ (zs.length : Int) ≠ x.n) :
   Calls Try.prog 85 #[.agg #[D, .int .i64 x.off, .int .i64 x.n, .int .i64 x.inc], O] w (fun e w' => e = .returned (.int .i64 (if x.right = false then 1 else 3)) ∧ ∃ o n, w' = ext w o n) := by
  obtain ⟨aO, cO, rfl⟩ := hO.shape
  cases hx : x.right
  · have hrt : ∀ w', FS w' D x.ws → Calls Try.prog 135 #[.agg #[D, .int .i64 x.off, .int .i64 x.n, .int .i64 x.inc]] w' (fun e w2 => e = .returned (.bool false) ∧ ∃ o n, w2 = ext w' o n) := fun w' h => by
      have := right_any x _ w' h hwf; rw [hx] at this; exact this
    clear hx hwf hne
    go_enter Try.func85, Try.ntmps85
    refine seq_stop ?_
    go_wp2
    refine stop_go (fun W hW => ?_)
    have s1 : w.heap.size < W.heap.size := by rw [hW]; simp only [World.size_alloc]; omega
    have b1 : ∀ i, W.cell? ⟨w.heap.size, i, none⟩ = (#[D, .int .i64 x.off, .int .i64 x.n, .int .i64 x.inc] : Array Value)[i]? := by intro i; rw [hW]; go_simp
    have s2 : w.heap.size + 1 < W.heap.size := by rw [hW]; simp only [World.size_alloc]; omega
    have b2 : ∀ i, W.cell? ⟨w.heap.size + 1, i, none⟩ = (#[.slice aO zs.length cO] : Array Value)[i]? := by intro i; rw [hW]; go_simp
    have g0 : Grew w W := by rw [hW]; exact ((Grew.refl _).alloc _).alloc _
    clear hW
    have hDW := hD.grew g0
    go_wp2_with (first | (go_at_call 135; ((with_reducible refine (hrt _ ?_).mono ?_); (focus (first | (with_reducible assumption) | (with_reducible refine FS.ext ?_ _ _; with_reducible assumption) | (with_reducible refine IS.ext ?_ _ _; with_reducible assumption) | (refine hDu _ ?_; with_reducible assumption) | (refine hOu _ ?_; with_reducible assumption) | (refine hDa _ ?_; with_reducible assumption) | (refine hDb _ ?_; with_reducible assumption) | (refine hDc _ ?_; with_reducible assumption) | (refine hDd _ ?_; with_reducible assumption) | (refine FW.fs ?_ (by omega) _; with_reducible assumption) | (refine WS.fs ?_; with_reducible assumption) | (refine FW.fs ?_ (by omega) _; assumption) | omega | assumption)); rintro e w1 ⟨rfl, oa, na, rfl⟩)))
    go_ret
    exact ⟨rfl, by (show Grew _ _; repeat (first | (with_reducible exact Grew.refl _) | (with_reducible assumption) | (with_reducible refine Grew.ext ?_ _ _) | (with_reducible refine Grew.alloc ?_ _) | ((with_reducible refine Grew.setCell ?_ ?_ _); rotate_left; (focus (dsimp only; first | omega | (simp only [size_ext, World.size_alloc, Array.size_append]; omega)))) | (with_reducible refine Grew.drewN ?_ _) | (with_reducible refine Grew.drew ?_)))⟩
  · have hrt : ∀ w', FS w' D x.ws → Calls Try.prog 135 #[.agg #[D, .int .i64 x.off, .int .i64 x.n, .int .i64 x.inc]] w' (fun e w2 => e = .returned (.bool true) ∧ ∃ o n, w2 = ext w' o n) := fun w' h => by
      have := right_any x _ w' h hwf; rw [hx] at this; exact this
    have d1 : ((zs.length : Int) != x.n) = true := by
      rcases hne with h | h
      · rw [hx] at h; cases h
      · simpa using h
    clear hx hwf hne
    go_enter Try.func85, Try.ntmps85
    refine seq_stop ?_
    go_wp2
    refine stop_go (fun W hW => ?_)
    have s1 : w.heap.size < W.heap.size := by rw [hW]; simp only [World.size_alloc]; omega
    have b1 : ∀ i, W.cell? ⟨w.heap.size, i, none⟩ = (#[D, .int .i64 x.off, .int .i64 x.n, .int .i64 x.inc] : Array Value)[i]? := by intro i; rw [hW]; go_simp
    have s2 : w.heap.size + 1 < W.heap.size := by rw [hW]; simp only [World.size_alloc]; omega
    have b2 : ∀ i, W.cell? ⟨w.heap.size + 1, i, none⟩ = (#[.slice aO zs.length cO] : Array Value)[i]? := by intro i; rw [hW]; go_simp
    have g0 : Grew w W := by rw [hW]; exact ((Grew.refl _).alloc _).alloc _
    clear hW
    have hDW := hD.grew g0
    go_wp2_with (first | (go_at_call 135; ((with_reducible refine (hrt _ ?_).mono ?_); (focus (first | (with_reducible assumption) | (with_reducible refine FS.ext ?_ _ _; with_reducible assumption) | (with_reducible refine IS.ext ?_ _ _; with_reducible assumption) | (refine hDu _ ?_; with_reducible assumption) | (refine hOu _ ?_; with_reducible assumption) | (refine hDa _ ?_; with_reducible assumption) | (refine hDb _ ?_; with_reducible assumption) | (refine hDc _ ?_; with_reducible assumption) | (refine hDd _ ?_; with_reducible assumption) | (refine FW.fs ?_ (by omega) _; with_reducible assumption) | (refine WS.fs ?_; with_reducible assumption) | (refine FW.fs ?_ (by omega) _; assumption) | omega | assumption)); rintro e w1 ⟨rfl, oa, na, rfl⟩)))
    go_ret
    exact ⟨rfl, by (show Grew _ _; repeat (first | (with_reducible exact Grew.refl _) | (with_reducible assumption) | (with_reducible refine Grew.ext ?_ _ _) | (with_reducible refine Grew.alloc ?_ _) | ((with_reducible refine Grew.setCell ?_ ?_ _); rotate_left; (focus (dsimp only; first | omega | (simp only [size_ext, World.size_alloc, Array.size_append]; omega)))) | (with_reducible refine Grew.drewN ?_ _) | (with_reducible refine Grew.drew ?_)))⟩
end Go.Proofs.Ytcmggfpcbijcjaa
