/-
  Contracts: view.Dense without numbers; (M).Copy and straightedgeref08.Ger.
-/
import Derived.Test.YtcmggfpcbijcjaaGrid
import Derived.Test.YtcmggfpcbijcjaaSums
import Derived.Test.YtcmggfpcbijcjaaSeg
import Derived.Test.YtcmggfpcbijcjaaLawSums
set_option linter.unusedSimpArgs false
set_option linter.unusedVariables false
open Go Go.RowKit Sedge
namespace Go.Proofs.Ytcmggfpcbijcjaa
section
variable {P : Program} {o : Oper} {a : Act} {w : World} {K : Act → World → Prop} {Q : Exit → Act → World → Prop}
theorem wp_any (h : o.wp P a w K (fun e a w => e = .normal ∧ K a w)) : o.wp P a w K Q := by
  unfold Oper.wp at *
  generalize (execOp a.eval o).run P w = r at *
  cases r with
  | ok n w' =>
    cases n <;> simp only [Oper.upon] at h ⊢ <;> try exact h
    refine h.mono fun e w2 hh => ?_
    cases e with
    | returned v => exact hh
    | panicked c => exact absurd hh.1 (by simp)
    | outgrown => obtain ⟨_, _, h1, _⟩ := hh; cases h1
  | halt k w' =>
    cases k <;> simp only [Oper.upon] at h ⊢ <;> first | exact h | exact absurd h.1 (by simp)
theorem wp_id (h : o.wp P a w K Q) : o.wp P a w K Q := h
theorem wp_app {d : Option Tmp} {s x : Operand} {tt : Array TypeId} {ty : TypeId} {ps : String} {aft : Array Edge} (h : Oper.wp P { dst := d, op := .call { callee := .builtin .append, args := #[s, x], argTypes := tt }, type := ty, pos := ps, after := aft, guard := none } a w K Q) : Oper.wp P { dst := d, op := .call { callee := .builtin .append, args := #[s, x], argTypes := tt }, type := ty, pos := ps, after := aft, guard := none } a w K Q := h
/-- 'append(s, src...)', in a region that draws its order. -/
theorem appendN_K {t e : TypeId} (T : ElemF P t e) {W : World} (hW : Grew W w) {v : Value} {xs : List Nat} (hown : OwnF e w W.heap.size v xs) {D : Value} {ws : List Nat} (hD : FS w D ws)
    (hlen : xs.length + ws.length < 17592186044415) (s x : Operand) (hg : o.guard = none)
    (ho : o.op = .call { callee := .builtin .append, args := #[s, x], argTypes := #[t, t] }) (hs : a.eval s = v) (hx : a.eval x = D)
    (h : ∀ v' oo nn, OwnF e (ext W oo nn) W.heap.size v' (xs ++ ws) → (v ≠ .slice none 0 0 → v' ≠ .slice none 0 0) → K (a.put o.dst v') (ext W oo nn)) : o.wp P a w K Q := by
  have h1 := appendN_f (P := P) (ops := #[]) (Q := fun e a w => e = .normal ∧ K a w) (rest := []) T hW hown hD hlen s x hg ho hs hx (fun v' oo nn h1 h2 => ⟨rfl, h v' oo nn h1 h2⟩)
  unfold wpList at h1
  rw [if_pos (wanted_none hg)] at h1
  rcases h1 with h1 | ⟨_, _, _, h2, _⟩
  · exact wp_any (Oper.wp_mono (fun a w hh => hh.2) h1)
  · cases h2
end
set_option maxRecDepth 100000 in
set_option maxHeartbeats 1000000 in
/-- view.Dense, of sizes within 64, without numbers. -/
theorem dense0_any (r c : Nat) (w : World) (hr : r ≤ 64) (hc : c ≤ 64) (hr1 : 1 ≤ r) (hc1 : 1 ≤ c) :
   Calls Try.prog 69 #[.int .i64 r, .int .i64 c, .slice none 0 0] w (fun e w' => ∃ v, e = .returned (.agg #[v, .int .i64 0, .int .i64 r, .int .i64 c, .int .i64 r]) ∧ WS w' w.heap.size v (List.replicate (r * c) 0) ∧ ∃ o n, w' = ext w o n) := by
  have hm : r * c ≤ 64 * 64 := Nat.mul_le_mul hr hc
  have h2 : IntKind.i64.wrap ((r : Int) * c) = (r : Int) * c := IntWalk.i64_in _ (by rw [← Int.natCast_mul]; omega)
  have h3 : (0 : Int) ≤ (r : Int) * c := by rw [← Int.natCast_mul]; omega
  have d1 : decide ((r : Int) < 0) = false := by simp
  have d2 : decide ((c : Int) < 0) = false := by simp
  have d3 : decide ((64 : Int) < (r : Int)) = false := by simp; omega
  have d4 : decide ((64 : Int) < (c : Int)) = false := by simp; omega
  have d6 : decide ((1 : Int) ≤ (r : Int)) = true := by simp; omega
  have d7 : decide ((0 : Int) ≤ (r : Int) * c) = true := by simpa using h3
  go_enter Try.func69, Try.ntmps69
  refine seq_stop ?_
  go_wp2
  refine stop_go (fun W hW => ?_)
  have s1 : w.heap.size < W.heap.size := by rw [hW]; simp only [World.size_alloc]; omega
  have b1 : ∀ i, W.cell? ⟨w.heap.size, i, none⟩ = (#[.slice none 0 0, .int .i64 0, .int .i64 0, .int .i64 0, .int .i64 0] : Array Value)[i]? := by intro i; rw [hW]; go_simp
  have f1 : ∀ i, W.frozen? ⟨w.heap.size, i, none⟩ = false := by intro i; rw [hW]; go_simp
  have g0 : Grew w W := by rw [hW]; exact (Grew.refl _).alloc _
  clear hW
  go_wp2_with (at_make; refine make_f (L := (r : Int) * (c : Int)) finfo (Grew.refl W) _ _ rfl rfl (r * c) (Int.natCast_mul r c).symm rfl rfl (by omega) ?_; intro oo nn k hk ho; have hF := ho.made)
  refine name_any (fun V hV => ?_)
  have gV : Grew W V := by rw [← hV]; (show Grew _ _; repeat (first | (with_reducible exact Grew.refl _) | (with_reducible assumption) | (with_reducible refine Grew.ext ?_ _ _) | (with_reducible refine Grew.alloc ?_ _) | ((with_reducible refine Grew.setCell ?_ ?_ _); rotate_left; (focus (dsimp only; first | omega | (simp only [size_ext, World.size_alloc, Array.size_append]; omega)))) | (with_reducible refine Grew.drewN ?_ _) | (with_reducible refine Grew.drew ?_)))
  have sV := gV.below.size
  have k1 : w.heap.size < V.heap.size := by omega
  have k3 : W.heap.size + oo.size < V.heap.size := by rw [← hV]; simp only [World.size_alloc, size_ext]; omega
  have c1 : ∀ i, V.cell? ⟨w.heap.size, i, none⟩ = (#[.slice none 0 0, .int .i64 0, .int .i64 0, .int .i64 0, .int .i64 0] : Array Value)[i]? := fun i => (gV.cell s1).trans (b1 i)
  have z1 : ∀ i, V.frozen? ⟨w.heap.size, i, none⟩ = false := fun i => (gV.frozen s1).trans (f1 i)
  have c3 : ∀ i, V.cell? ⟨W.heap.size + oo.size, i, none⟩ = (#[.slice (some ⟨k, 0, none⟩) (r * c) (r * c), .int .i64 0, .int .i64 r, .int .i64 c, .int .i64 r] : Array Value)[i]? := by subst hV; intro i; go_simp
  have hFV : FW V k (List.replicate (r * c) 0) := by rw [← hV]; (repeat (first | (with_reducible assumption) | ((with_reducible refine FW.ext_set ?_ ?_ ?_ _); rotate_left; (focus (simp only [size_setCell', World.size_alloc, size_ext, size_upd]; omega)); (focus (dsimp only; omega))) | ((with_reducible refine FW.setCell_ne ?_ ?_ _); rotate_left; (focus (dsimp only; omega))) | (with_reducible refine FW.ext ?_ _ _) | (with_reducible refine FW.alloc ?_ _)))
  have q1 : w.heap.size ≠ k := by omega
  clear hV b1 f1 ho
  go_loopw [43] (fun s wr => s = .int .i64 0 ∧ wr = V) (fun s _ => 0)
  case atStart => exact ⟨rfl, rfl⟩
  case round =>
    obtain ⟨rfl, rfl⟩ := hrel
    go_wp2
    refine bodyPost_ret (v := .agg #[.slice (some ⟨k, 0, none⟩) (r * c) (r * c), .int .i64 0, .int .i64 r, .int .i64 c, .int .i64 r]) (by simp [results, Try.results69, go_sem, *]) rfl ?_
    exact ⟨_, rfl, ⟨k, _, by rw [List.length_replicate], by omega, by (repeat (first | (with_reducible assumption) | ((with_reducible refine FW.ext_set ?_ ?_ ?_ _); rotate_left; (focus (simp only [size_setCell', World.size_alloc, size_ext, size_upd]; omega)); (focus (dsimp only; omega))) | ((with_reducible refine FW.setCell_ne ?_ ?_ _); rotate_left; (focus (dsimp only; omega))) | (with_reducible refine FW.ext ?_ _ _) | (with_reducible refine FW.alloc ?_ _))), by rw [List.length_replicate]; omega⟩, by have gwr := g0.trans gV; (show Grew _ _; repeat (first | (with_reducible exact Grew.refl _) | (with_reducible assumption) | (with_reducible refine Grew.ext ?_ _ _) | (with_reducible refine Grew.alloc ?_ _) | ((with_reducible refine Grew.setCell ?_ ?_ _); rotate_left; (focus (dsimp only; first | omega | (simp only [size_ext, World.size_alloc, Array.size_append]; omega)))) | (with_reducible refine Grew.drewN ?_ _) | (with_reducible refine Grew.drew ?_)))⟩
set_option maxRecDepth 100000 in
set_option maxHeartbeats 1000000 in
/-- (M).Copy. -/
theorem mcopy_any (R C : Int) (A : Value) (T : List Nat) (w : World) (hA : FS w A T) (hl : T.length ≤ 1000000) :
   Calls Try.prog 140 #[.agg #[.int .i64 R, .int .i64 C, A]] w (fun e w' => ∃ v, e = .returned (.agg #[.int .i64 R, .int .i64 C, v]) ∧ WS w' w.heap.size v T ∧ ∃ o n, w' = ext w o n) := by
  obtain ⟨aA, cA, rfl⟩ := hA.shape
  go_enter Try.func140, Try.ntmps140
  refine seq_stop ?_
  go_wp2
  refine stop_go (fun W hW => ?_)
  have s1 : w.heap.size < W.heap.size := by rw [hW]; simp only [World.size_alloc]; omega
  have b1 : ∀ i, W.cell? ⟨w.heap.size, i, none⟩ = (#[.int .i64 R, .int .i64 C, .slice aA T.length cA] : Array Value)[i]? := by intro i; rw [hW]; go_simp
  have f1 : ∀ i, W.frozen? ⟨w.heap.size, i, none⟩ = false := by intro i; rw [hW]; go_simp
  have s2 : w.heap.size + 1 < W.heap.size := by rw [hW]; simp only [World.size_alloc]; omega
  have b2 : ∀ i, W.cell? ⟨w.heap.size + 1, i, none⟩ = (#[.int .i64 0, .int .i64 0, .slice none 0 0] : Array Value)[i]? := by intro i; rw [hW]; go_simp
  have f2 : ∀ i, W.frozen? ⟨w.heap.size + 1, i, none⟩ = false := by intro i; rw [hW]; go_simp
  have g0 : Grew w W := by rw [hW]; exact ((Grew.refl _).alloc _).alloc _
  clear hW
  have hAW : FS W (.slice aA T.length cA) T := hA.grew g0
  go_wp2
  refine wp_region_R (Grew W) [9] [(3,0), (0,1), (3,2), (0,3), (3,5), (0,6), (1,4), (1,7), (0,8), (2,9)] (by kernel_rfl) (by kernel_rfl) (fun _ _ _ _ h _ => h) (by first | exact ⟨_, _, ext_drew⟩ | exact ⟨_, _, drew_ext0⟩) ?_
  refine name_any (fun W2 hW2 => ?_)
  have g2 : Grew W W2 := by rw [← hW2]; (show Grew _ _; repeat (first | (with_reducible exact Grew.refl _) | (with_reducible assumption) | (with_reducible refine Grew.ext ?_ _ _) | (with_reducible refine Grew.alloc ?_ _) | ((with_reducible refine Grew.setCell ?_ ?_ _); rotate_left; (focus (dsimp only; first | omega | (simp only [size_ext, World.size_alloc, Array.size_append]; omega)))) | (with_reducible refine Grew.drewN ?_ _) | (with_reducible refine Grew.drew ?_)))
  have hAW2 := hAW.grew g2
  have gww : Grew w W2 := g0.trans g2
  have zW := g0.below.size
  have z2 := g2.below.size
  have b12 := fun i => (g2.cell s1).trans (b1 i)
  have b22 := fun i => (g2.cell s2).trans (b2 i)
  have f22 := fun i => (g2.frozen s2).trans (f2 i)
  have s12 : w.heap.size < W2.heap.size := by omega
  have s22 : w.heap.size + 1 < W2.heap.size := by omega
  clear hW2
  go_wp2_with (first | ((with_reducible refine wpR_id ?_); refine wpR_do rfl rfl (fun K hK => ?_); (with_reducible refine wp_app ?_); refine appendN_K finfo (Grew.refl W2 |>.alloc _) (OwnF.empty rfl (Nat.le_refl _)) (FS.alloc hAW2 _) (by simp; omega) _ _ rfl rfl rfl rfl ?_; intro v oo nn ho hn; obtain ⟨g, cap, rfl, hg, hF, hL⟩ := ho.ws (hn notnil) (by simp; omega); simp only [List.nil_append] at hF hL) | ((with_reducible refine wpR_id ?_); first | (refine wpR_take (v := ?_) rfl rfl ?_ ?_; rotate_left; (focus (rintro w' ⟨o', n', rfl⟩; go_simp; try with_reducible rfl)); simp only [Act.put, List.setIfInBounds_toArray, List.set_cons_zero, List.set_cons_succ]) | (refine wpR_pure (v := ?_) rfl rfl ?_ ?_; rotate_left; (focus (intro w'; go_simp; try with_reducible rfl)); simp only [Act.put, List.setIfInBounds_toArray, List.set_cons_zero, List.set_cons_succ]) | (refine wpR_takeG (v := ?_) rfl rfl rfl rfl rfl ?_ ?_; rotate_left; (focus (rintro w' ⟨o', n', rfl⟩; go_simp; try with_reducible rfl)); simp only [Act.put, List.setIfInBounds_toArray, List.set_cons_zero, List.set_cons_succ]) | (refine wpR_skip rfl rfl rfl rfl rfl rfl ?_; simp only [Act.put, List.setIfInBounds_toArray, List.set_cons_zero, List.set_cons_succ]) | (refine wpR_skipU rfl rfl rfl rfl rfl ?_; simp only [Act.put, List.setIfInBounds_toArray, List.set_cons_zero, List.set_cons_succ]) | (refine wpR_do rfl rfl (fun K hK => ?_)) | (refine wpR_doG rfl rfl rfl rfl rfl (fun K hK => ?_)) | (refine wpR_last rfl rfl (fun K hK => ?_)) | (refine wpR_nil ?_)) | ((with_reducible refine wpR_go ?_ ?_); (focus (show Grew _ _; repeat (first | (with_reducible exact Grew.refl _) | (with_reducible assumption) | (with_reducible refine Grew.ext ?_ _ _) | (with_reducible refine Grew.alloc ?_ _) | ((with_reducible refine Grew.setCell ?_ ?_ _); rotate_left; (focus (dsimp only; first | omega | (simp only [size_ext, World.size_alloc, Array.size_append]; omega)))) | (with_reducible refine Grew.drewN ?_ _) | (with_reducible refine Grew.drew ?_))))) | ((with_reducible refine upon_id ?_); refine upon_fop rfl (by assumption) (by assumption) ?_; intro rr nn hr))
  refine bodyPost_ret (v := .agg #[.int .i64 R, .int .i64 C, .slice (some ⟨g, 0, none⟩) T.length cap]) (by simp [results, Try.results140, go_sem, *]) rfl ?_
  exact ⟨_, rfl, ⟨g, cap, rfl, by omega, by (repeat (first | (with_reducible assumption) | ((with_reducible refine FW.ext_set ?_ ?_ ?_ _); rotate_left; (focus (simp only [size_setCell', World.size_alloc, size_ext, size_upd]; omega)); (focus (dsimp only; omega))) | ((with_reducible refine FW.setCell_ne ?_ ?_ _); rotate_left; (focus (dsimp only; omega))) | (with_reducible refine FW.ext ?_ _ _) | (with_reducible refine FW.alloc ?_ _))), hL⟩, by (show Grew _ _; repeat (first | (with_reducible exact Grew.refl _) | (with_reducible assumption) | (with_reducible refine Grew.ext ?_ _ _) | (with_reducible refine Grew.alloc ?_ _) | ((with_reducible refine Grew.setCell ?_ ?_ _); rotate_left; (focus (dsimp only; first | omega | (simp only [size_ext, World.size_alloc, Array.size_append]; omega)))) | (with_reducible refine Grew.drewN ?_ _) | (with_reducible refine Grew.drew ?_)))⟩
/-- Row by row: what is done up to (i, j). -/
def stepR (F s : Nat → Nat → Nat) (i j : Nat) (r c : Nat) : Nat := if r < i ∨ (r = i ∧ c < j) then F r c else s r c
def rgerF (α : Nat) (lx ly : List Nat) (M : Nat → Nat → Nat) (i j : Nat) : Nat := fadd (M i j) (fmul (fmul α (ly.getD j 0)) (lx.getD i 0))
set_option maxRecDepth 100000 in
set_option maxHeartbeats 4000000 in
/-- straightedgeref08.Ger. -/
theorem rger_any (a α R C : Nat) (T lx ly : List Nat) (M : Nat → Nat → Nat) (A X Y : Value) (w : World) (ha : IsF a α) (hA : FS w A T) (hX : FS w X lx) (hY : FS w Y ly) (hx : lx.length = R) (hy : ly.length = C) (hT : T.length = R * C) (hM : Hold (fun i j => i * C + j) R C T T M) (hR : R ≤ 1000) (hC : C ≤ 1000) :
   Calls Try.prog 60 #[.float .f64 a, X, Y, .agg #[.int .i64 R, .int .i64 C, A]] w (fun e w' => ∃ v t, e = .returned (.agg #[.int .i64 R, .int .i64 C, v]) ∧ WS w' w.heap.size v t ∧ Hold (fun i j => i * C + j) R C T t (rgerF α lx ly M) ∧ ∃ o n, w' = ext w o n) := by
  have hRC : R * C ≤ 1000 * 1000 := Nat.mul_le_mul hR hC
  have hpl : Places (fun i j => i * C + j) R C T.length := by rw [hT]; exact tabPlaces R C
  have HT := hid hT
  have Hx := hid hx
  have Hy := hid hy
  obtain ⟨aA, cA, rfl⟩ := hA.shape
  obtain ⟨aX, cX, rfl⟩ := hX.shape
  obtain ⟨aY, cY, rfl⟩ := hY.shape
  have hat : ∀ i j : Nat, i < R → j < C → ∀ w', FS w' (.slice aA T.length cA) T → Calls Try.prog 72 #[.agg #[.int .i64 R, .int .i64 C, .slice aA T.length cA], .int .i64 i, .int .i64 j] w' (fun e w2 => ∃ b, e = .returned (.float .f64 b) ∧ IsF b (M i j) ∧ ∃ o n, w2 = ext w' o n) := fun i j hi hj w' h => by
    have := rat_any R C i j (.slice aA T.length cA) T w' h hR hC (by omega) (by omega) (by rw [hT]; exact at_lt hi hj)
    rw [hM.get i j hi hj] at this; exact this
  have hcp : ∀ w', FS w' (.slice aA T.length cA) T → Calls Try.prog 140 #[.agg #[.int .i64 R, .int .i64 C, .slice aA T.length cA]] w' (fun e w2 => ∃ v, e = .returned (.agg #[.int .i64 R, .int .i64 C, v]) ∧ WS w2 w'.heap.size v T ∧ ∃ o n, w2 = ext w' o n) := fun w' h => mcopy_any R C _ T w' h (by omega)
  clear hT hx hy
  go_enter Try.func60, Try.ntmps60
  refine seq_stop ?_
  go_wp2
  refine stop_go (fun W hW => ?_)
  have s1 : w.heap.size < W.heap.size := by rw [hW]; simp only [World.size_alloc]; omega
  have b1 : ∀ i, W.cell? ⟨w.heap.size, i, none⟩ = (#[.int .i64 R, .int .i64 C, .slice aA T.length cA] : Array Value)[i]? := by intro i; rw [hW]; go_simp
  have f1 : ∀ i, W.frozen? ⟨w.heap.size, i, none⟩ = false := by intro i; rw [hW]; go_simp
  have s2 : w.heap.size + 1 < W.heap.size := by rw [hW]; simp only [World.size_alloc]; omega
  have b2 : ∀ i, W.cell? ⟨w.heap.size + 1, i, none⟩ = (#[.int .i64 0, .int .i64 0, .slice none 0 0] : Array Value)[i]? := by intro i; rw [hW]; go_simp
  have f2 : ∀ i, W.frozen? ⟨w.heap.size + 1, i, none⟩ = false := by intro i; rw [hW]; go_simp
  have g0 : Grew w W := by rw [hW]; exact ((Grew.refl _).alloc _).alloc _
  clear hW
  have hAW := hA.grew g0
  have hXW := hX.grew g0
  have hYW := hY.grew g0
  go_wp2_with (first | (go_at_call 140; ((with_reducible refine (hcp _ hAW).mono ?_); rintro e w1 ⟨v, rfl, ⟨g, cap, rfl, hg, hF, hgl⟩, oc, nc, rfl⟩)))
  refine name_any (fun V hV => ?_)
  have gV : Grew W V := by rw [← hV]; (show Grew _ _; repeat (first | (with_reducible exact Grew.refl _) | (with_reducible assumption) | (with_reducible refine Grew.ext ?_ _ _) | (with_reducible refine Grew.alloc ?_ _) | ((with_reducible refine Grew.setCell ?_ ?_ _); rotate_left; (focus (dsimp only; first | omega | (simp only [size_ext, World.size_alloc, Array.size_append]; omega)))) | (with_reducible refine Grew.drewN ?_ _) | (with_reducible refine Grew.drew ?_)))
  have zw := g0.below.size
  have zV := gV.below.size
  have hFV : FW V g T := by rw [← hV]; (repeat (first | (with_reducible assumption) | ((with_reducible refine FW.ext_set ?_ ?_ ?_ _); rotate_left; (focus (simp only [size_setCell', World.size_alloc, size_ext, size_upd]; omega)); (focus (dsimp only; omega))) | ((with_reducible refine FW.setCell_ne ?_ ?_ _); rotate_left; (focus (dsimp only; omega))) | (with_reducible refine FW.ext ?_ _ _) | (with_reducible refine FW.alloc ?_ _)))
  have cT : ∀ i, V.cell? ⟨W.heap.size + oc.size, i, none⟩ = (#[.int .i64 R, .int .i64 C, .slice (some ⟨g, 0, none⟩) T.length cap] : Array Value)[i]? := by subst hV; intro i; go_simp
  have kT : W.heap.size + oc.size < V.heap.size := by rw [← hV]; simp only [World.size_alloc, size_ext]; omega
  have ngT : W.heap.size + oc.size ≠ g := by have := hF.lt; simp only [size_ext] at this; omega
  obtain ⟨U, hU⟩ : ∃ U, W.heap.size + oc.size = U := ⟨_, rfl⟩
  have zU : W.heap.size ≤ U := by omega
  rw [hU] at cT kT ngT
  simp only [hU]
  have hG : ∀ k ∈ [g], W.heap.size ≤ k := by intro k hk; simp at hk; omega
  have hDu := But.fs gV hAW hG
  have hXu := But.fs gV hXW hG
  have hYu := But.fs gV hYW hG
  have c1 := But.boxW gV s1 b1 hG
  have c2 := But.boxW gV s2 b2 hG
  have z2 : ∀ w', But V [g] w' → ∀ i, w'.frozen? ⟨w.heap.size + 1, i, none⟩ = false := fun w' hb i => by
    have h1 := hb.block (w.heap.size + 1) (by omega) (by simp; omega)
    have h2 := (gV.frozen s2).trans (f2 i)
    unfold World.frozen? at h2 ⊢; simp only [h1] at h2 ⊢; exact h2
  have cU : ∀ w', But V [g] w' → ∀ i, w'.cell? ⟨U, i, none⟩ = (#[.int .i64 R, .int .i64 C, .slice (some ⟨g, 0, none⟩) T.length cap] : Array Value)[i]? := fun w' h i => (h.cell kT (by simpa using ngT)).trans (cT i)
  have kV : w.heap.size < V.heap.size := by omega
  have kV2 : w.heap.size + 1 < V.heap.size := by omega
  clear hV hU cT b1 b2 f1 f2 hF hcp
  go_loopw [10] (fun c wr => ∃ (i : Nat) (L : List Nat), i ≤ R ∧ c = .int .i64 i ∧ But V [g] wr ∧ FW wr g L ∧ Hold (fun i j => i * C + j) R C T L (stepR (rgerF α lx ly M) M i 0)) (fun c _ => R - (intOf c).toNat)
  case atStart => exact ⟨0, T, Nat.zero_le _, rfl, But.refl _ _, hFV, hM.congr fun i j _ _ => by simp [stepR]⟩
  case round =>
    obtain ⟨i, L, hi, rfl, hB, hL, hH⟩ := hrel
    have t1 := c1 _ hB
    have sB := hB.size
    have x1 : w.heap.size < wr.heap.size := by omega
    by_cases hlt : (i : Int) < R
    · have hiR : i < R := by omega
      go_wp2
      go_loopw [11] (fun c wr => ∃ (j : Nat) (L : List Nat), j ≤ C ∧ c = .int .i64 j ∧ But V [g] wr ∧ FW wr g L ∧ Hold (fun i j => i * C + j) R C T L (stepR (rgerF α lx ly M) M i j)) (fun c _ => C - (intOf c).toNat)
      case atStart => exact ⟨0, L, Nat.zero_le _, rfl, hB, hL, hH⟩
      case round =>
        obtain ⟨j, L2, hj, rfl, hB2, hL2, hH2⟩ := hrel
        have t1 := c1 _ hB2
        have tU := cU _ hB2
        have sB := hB2.size
        have x1 : w.heap.size < wr.heap.size := by omega
        have xU : U < wr.heap.size := by omega
        by_cases hl2 : (j : Int) < C
        · have hjC : j < C := by omega
          have hatij := hat i j hiR hjC
          have hgd := hH2.get i j hiR hjC
          have hset : ∀ w' r z, FW w' g L2 → IsF r z → Calls Try.prog 134 #[.agg #[.int .i64 R, .int .i64 C, .slice (some ⟨g, 0, none⟩) T.length cap], .int .i64 i, .int .i64 j, .float .f64 r] w' (fun e w2 => e = .returned (.tuple #[]) ∧ Wrote w' w2 g (L2.set (i * C + j) z)) := fun w' r z h1 h2 =>
            rset_any R C i j g cap T.length r z L2 w' h1 h2 hH2.len.symm hR hC (by omega) (by omega) (by rw [hH2.len, HT.out]; exact at_lt hiR hjC)
          obtain ⟨bx, ox, hax, hkx, hcx⟩ := hXW.at.2 (by rw [Hx.out]; omega)
          obtain ⟨rx, hrx, hfx⟩ := hcx i (by rw [Hx.out]; omega)
          obtain ⟨bz, oz, haz, hkz, hcz⟩ := hYW.at.2 (by rw [Hy.out]; omega)
          obtain ⟨ry, hry, hfy⟩ := hcz j (by rw [Hy.out]; omega)
          subst hax haz
          have lx1 : (i : Int) < lx.length := by rw [Hx.out]; omega
          have ly1 : (j : Int) < ly.length := by rw [Hy.out]; omega
          have crx : ∀ w', But V [g] w' → w'.cell? ⟨bx, ox + i, none⟩ = some (.float .f64 rx) := fun w' h => (h.cell (by omega) (by simp; omega)).trans ((gV.cell hkx).trans hrx)
          have cry : ∀ w', But V [g] w' → w'.cell? ⟨bz, oz + j, none⟩ = some (.float .f64 ry) := fun w' h => (h.cell (by omega) (by simp; omega)).trans ((gV.cell hkz).trans hry)
          clear hcx hcz hrx hry
          go_wp2
          refine wp_region_R (But V [g]) [] [(0,0), (0,1), (0,2), (0,3), (0,4), (0,5), (0,7), (0,8), (0,9), (0,10), (0,11), (0,13), (0,14), (0,15), (0,16), (1,6), (1,12), (1,17), (1,18), (1,19)] (by kernel_rfl) (by kernel_rfl) (fun _ _ _ _ h _ => h) (hB2.grew ((Grew.refl _).drew)) ?_
          refine name_any (fun V6 hV6 => ?_)
          have hg6 : Grew wr V6 := by rw [← hV6]; (show Grew _ _; repeat (first | (with_reducible exact Grew.refl _) | (with_reducible assumption) | (with_reducible refine Grew.ext ?_ _ _) | (with_reducible refine Grew.alloc ?_ _) | ((with_reducible refine Grew.setCell ?_ ?_ _); rotate_left; (focus (dsimp only; first | omega | (simp only [size_ext, World.size_alloc, Array.size_append]; omega)))) | (with_reducible refine Grew.drewN ?_ _) | (with_reducible refine Grew.drew ?_)))
          have B6 := hB2.grew hg6
          have F6 := hL2.grew hg6
          clear hV6 hg6
          go_wp2_with (first | ((with_reducible refine wpR_id ?_); first | (refine wpR_take (v := ?_) rfl rfl ?_ ?_; rotate_left; (focus (intro w' hw'; go_simp; try with_reducible rfl)); simp only [Act.put, List.setIfInBounds_toArray, List.set_cons_zero, List.set_cons_succ]) | (refine wpR_pure (v := ?_) rfl rfl ?_ ?_; rotate_left; (focus (intro w'; go_simp; try with_reducible rfl)); simp only [Act.put, List.setIfInBounds_toArray, List.set_cons_zero, List.set_cons_succ]) | (refine wpR_takeG (v := ?_) rfl rfl rfl rfl rfl ?_ ?_; rotate_left; (focus (intro w' hw'; go_simp; try with_reducible rfl)); simp only [Act.put, List.setIfInBounds_toArray, List.set_cons_zero, List.set_cons_succ]) | (refine wpR_skip rfl rfl rfl rfl rfl rfl ?_; simp only [Act.put, List.setIfInBounds_toArray, List.set_cons_zero, List.set_cons_succ]) | (refine wpR_skipU rfl rfl rfl rfl rfl ?_; simp only [Act.put, List.setIfInBounds_toArray, List.set_cons_zero, List.set_cons_succ]) | (refine wpR_do rfl rfl (fun K hK => ?_)) | (refine wpR_doG rfl rfl rfl rfl rfl (fun K hK => ?_)) | (refine wpR_last rfl rfl (fun K hK => ?_)) | (refine wpR_nil ?_)) | ((with_reducible refine wpR_go ?_ ?_); (focus (with_reducible assumption))) | ((with_reducible refine upon_id ?_); refine upon_fop rfl (by assumption) (by assumption) ?_; intro rr nn hr) | (go_at_call 72; ((with_reducible refine (hatij _ (hDu _ (by assumption))).mono ?_); rintro e w1 ⟨r1, rfl, hr1, hw1⟩; (have B7 := B6.grew hw1; have F7 := F6.grew hw1))) | (go_at_call 141; ((with_reducible refine (times_any a ry α _ _ ha hfy).mono ?_); rintro e w1 ⟨r2, rfl, hr2, hw2⟩; (have B8 := B7.grew hw2; have F8 := F7.grew hw2))) | (go_at_call 141; ((with_reducible refine (times_any r2 rx _ _ _ hr2 hfx).mono ?_); rintro e w1 ⟨r3, rfl, hr3, hw3⟩; (have B9 := B8.grew hw3; have F9 := F8.grew hw3))) | (go_at_call 36; ((with_reducible refine (plus_any r1 r3 _ _ _ hr1 hr3).mono ?_); rintro e w1 ⟨r4, rfl, hr4, hw4⟩; (have B10 := B9.grew hw4; have F10 := F9.grew hw4))) | (go_at_call 134; ((with_reducible refine (hset _ r4 _ F10 hr4).mono ?_); rintro e w1 ⟨rfl, hw5⟩; (have B11 := B10.wrote hw5 (.inl (by simp))))))
          go_roundw
          case rel =>
            refine ⟨j + 1, _, by omega, by go_num, B11, hw5.fw F10, (hH2.set hpl hiR hjC).congr fun r c hr hc => ?_⟩
            unfold stepR
            by_cases hrc : r = i ∧ c = j
            · obtain ⟨rfl, rfl⟩ := hrc
              simp [rgerF]
            · rw [if_neg hrc]
              by_cases h2 : r < i ∨ (r = i ∧ c < j)
              · rw [if_pos h2, if_pos (by omega)]
              · rw [if_neg h2, if_neg (by omega)]
          case measure => simp [intOf]; omega
        · have e : j = C := by omega
          go_wp2
          go_roundw
          case rel =>
            refine ⟨i + 1, L2, by omega, by go_num, hB2, hL2, hH2.congr fun r c hr hc => ?_⟩
            unfold stepR
            by_cases h2 : r < i ∨ (r = i ∧ c < j)
            · rw [if_pos h2, if_pos (by omega)]
            · rw [if_neg h2, if_neg (by omega)]
          case measure => simp [intOf]; omega
    · have e : i = R := by omega
      have t2 := c2 _ hB
      have tU := cU _ hB
      have zz := z2 _ hB
      have x2 : w.heap.size + 1 < wr.heap.size := by omega
      have xU : U < wr.heap.size := by omega
      go_wp2
      refine bodyPost_ret (v := .agg #[.int .i64 R, .int .i64 C, .slice (some ⟨g, 0, none⟩) T.length cap]) (by simp [results, Try.results60, go_sem, *]) rfl ?_
      have gwr : Grew w wr := g0.trans (hB.grew0 gV hG)
      have hlL : L.length = T.length := hH.len
      refine ⟨_, rfl, L, ⟨g, cap, by rw [hlL], by omega, by (repeat (first | (with_reducible assumption) | ((with_reducible refine FW.ext_set ?_ ?_ ?_ _); rotate_left; (focus (simp only [size_setCell', World.size_alloc, size_ext, size_upd]; omega)); (focus (dsimp only; omega))) | ((with_reducible refine FW.setCell_ne ?_ ?_ _); rotate_left; (focus (dsimp only; omega))) | (with_reducible refine FW.ext ?_ _ _) | (with_reducible refine FW.alloc ?_ _))), by rw [hlL]; omega⟩, hH.congr fun r c hr hc => ?_, by (show Grew _ _; repeat (first | (with_reducible exact Grew.refl _) | (with_reducible assumption) | (with_reducible refine Grew.ext ?_ _ _) | (with_reducible refine Grew.alloc ?_ _) | ((with_reducible refine Grew.setCell ?_ ?_ _); rotate_left; (focus (dsimp only; first | omega | (simp only [size_ext, World.size_alloc, Array.size_append]; omega)))) | (with_reducible refine Grew.drewN ?_ _) | (with_reducible refine Grew.drew ?_)))⟩
      unfold stepR
      rw [if_pos (by omega)]
end Go.Proofs.Ytcmggfpcbijcjaa
