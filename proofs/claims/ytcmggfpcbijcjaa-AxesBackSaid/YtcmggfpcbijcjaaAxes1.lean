/-
  Contracts: axes.each; axes.Scal, axes.Shift, axes.Axpy (lists apart): closures that write a vector's numbers.
-/
import Derived.Test.YtcmggfpcbijcjaaLd2
import Derived.Test.YtcmggfpcbijcjaaGemv1
set_option linter.unusedSimpArgs false
set_option linter.unusedVariables false
open Go Go.RowKit Sedge
namespace Go.Proofs.Ytcmggfpcbijcjaa
set_option maxRecDepth 100000 in
set_option maxHeartbeats 1000000 in
/-- axes.each. -/
theorem eachScal (x : VecM) (aA : Option Addr) (g o cap : Nat) (q1 : Value) (R : World → Nat → World → Prop) (G : List Nat) (w : World) (hx : x.right = true) (hl : x.ws.length ≤ 1000000)
    (hA : 0 < x.n → aA = some ⟨g, o, none⟩) (h0 : ∀ W1, Grew w W1 → R W1 0 W1) (hb : ∀ W1 i w', R W1 i w' → But W1 G w') (hG : ∀ k ∈ G, k < w.heap.size)
    (hs : ∀ W1 (i : Nat) w', Grew w W1 → (i : Int) < x.n → R W1 i w' → Calls Try.prog 172 #[.int .i64 i, .pointer (some ⟨g, o + x.place i, none⟩), q1] w' (fun e w2 => e = .returned (.tuple #[]) ∧ R W1 (i + 1) w2)) :
   Calls Try.prog 117 #[.agg #[.slice aA x.ws.length cap, .int .i64 x.off, .int .i64 x.n, .int .i64 x.inc], .func (.func 172) #[] #[q1]] w
     (fun e w' => e = .returned (.tuple #[]) ∧ ∃ W1, Grew w W1 ∧ R W1 x.n.toNat w') := by
  have hn := VecM.right_n hx
  have hnl := VecM.right_nle hx hl
  have Hx := hid hx
  clear hx
  go_enter Try.func117, Try.ntmps117
  refine seq_stop ?_
  go_wp2
  refine stop_go (fun W hW => ?_)
  have s1 : w.heap.size < W.heap.size := by rw [hW]; simp only [World.size_alloc]; omega
  have b1 : ∀ i, W.cell? ⟨w.heap.size, i, none⟩ = (#[.slice aA x.ws.length cap, .int .i64 x.off, .int .i64 x.n, .int .i64 x.inc] : Array Value)[i]? := by intro i; rw [hW]; go_simp
  have g0 : Grew w W := by rw [hW]; exact (Grew.refl _).alloc _
  clear hW
  have hR0 := h0 W g0
  clear h0
  go_wp2
  go_loopw [7] (fun c wr => ∃ (i : Nat), (i : Int) ≤ x.n ∧ c = .int .i64 i ∧ R W i wr) (fun c _ => (x.n - intOf c).toNat)
  case atStart => exact ⟨0, hn.1, rfl, hR0⟩
  case round =>
    obtain ⟨i, hi, rfl, hR⟩ := hrel
    have hB := hb W i wr hR
    have tT : ∀ i, wr.cell? ⟨w.heap.size, i, none⟩ = (#[.slice aA x.ws.length cap, .int .i64 x.off, .int .i64 x.n, .int .i64 x.inc] : Array Value)[i]? := fun i => (hB.cell s1 (fun h => by have := hG _ h; omega)).trans (b1 i)
    have zB := hB.size
    have kT : w.heap.size < wr.heap.size := by omega
    by_cases hlt : (i : Int) < x.n
    · have hp := VecM.right_place Hx.out hlt
      have r1 : IntKind.i64.wrap (i * x.inc) = i * x.inc := IntWalk.i64_in _ (by omega)
      have r2 : IntKind.i64.wrap (x.off + i * x.inc) = x.off + i * x.inc := IntWalk.i64_in _ (by omega)
      have e1 : 0 ≤ x.off + i * x.inc := by omega
      have e2 : x.off + i * x.inc < x.ws.length := by omega
      have hcall := hs W i wr g0 hlt hR
      unfold VecM.place at hcall
      obtain rfl := hA (by omega)
      have Hlt := hid hlt
      clear hs hb
      go_wp2_with (first | (go_at_call 172; ((with_reducible refine (hcall).mono ?_); rintro e w1 ⟨rfl, hR2⟩)))
      go_roundw
      case rel => exact ⟨i + 1, by (have := Hlt.out; omega), by go_num, hR2⟩
      case measure => (have := Hlt.out; simp [intOf]; omega)
    · have e : i = x.n.toNat := by omega
      rw [e] at hR
      clear hs hb
      go_wp2
      go_end0
      exact ⟨rfl, W, g0, hR⟩
set_option maxRecDepth 100000 in
set_option maxHeartbeats 1000000 in
/-- axes.each. -/
theorem eachShift (x : VecM) (aA : Option Addr) (g o cap : Nat) (q1 : Value) (R : World → Nat → World → Prop) (G : List Nat) (w : World) (hx : x.right = true) (hl : x.ws.length ≤ 1000000)
    (hA : 0 < x.n → aA = some ⟨g, o, none⟩) (h0 : ∀ W1, Grew w W1 → R W1 0 W1) (hb : ∀ W1 i w', R W1 i w' → But W1 G w') (hG : ∀ k ∈ G, k < w.heap.size)
    (hs : ∀ W1 (i : Nat) w', Grew w W1 → (i : Int) < x.n → R W1 i w' → Calls Try.prog 161 #[.int .i64 i, .pointer (some ⟨g, o + x.place i, none⟩), q1] w' (fun e w2 => e = .returned (.tuple #[]) ∧ R W1 (i + 1) w2)) :
   Calls Try.prog 117 #[.agg #[.slice aA x.ws.length cap, .int .i64 x.off, .int .i64 x.n, .int .i64 x.inc], .func (.func 161) #[] #[q1]] w
     (fun e w' => e = .returned (.tuple #[]) ∧ ∃ W1, Grew w W1 ∧ R W1 x.n.toNat w') := by
  have hn := VecM.right_n hx
  have hnl := VecM.right_nle hx hl
  have Hx := hid hx
  clear hx
  go_enter Try.func117, Try.ntmps117
  refine seq_stop ?_
  go_wp2
  refine stop_go (fun W hW => ?_)
  have s1 : w.heap.size < W.heap.size := by rw [hW]; simp only [World.size_alloc]; omega
  have b1 : ∀ i, W.cell? ⟨w.heap.size, i, none⟩ = (#[.slice aA x.ws.length cap, .int .i64 x.off, .int .i64 x.n, .int .i64 x.inc] : Array Value)[i]? := by intro i; rw [hW]; go_simp
  have g0 : Grew w W := by rw [hW]; exact (Grew.refl _).alloc _
  clear hW
  have hR0 := h0 W g0
  clear h0
  go_wp2
  go_loopw [7] (fun c wr => ∃ (i : Nat), (i : Int) ≤ x.n ∧ c = .int .i64 i ∧ R W i wr) (fun c _ => (x.n - intOf c).toNat)
  case atStart => exact ⟨0, hn.1, rfl, hR0⟩
  case round =>
    obtain ⟨i, hi, rfl, hR⟩ := hrel
    have hB := hb W i wr hR
    have tT : ∀ i, wr.cell? ⟨w.heap.size, i, none⟩ = (#[.slice aA x.ws.length cap, .int .i64 x.off, .int .i64 x.n, .int .i64 x.inc] : Array Value)[i]? := fun i => (hB.cell s1 (fun h => by have := hG _ h; omega)).trans (b1 i)
    have zB := hB.size
    have kT : w.heap.size < wr.heap.size := by omega
    by_cases hlt : (i : Int) < x.n
    · have hp := VecM.right_place Hx.out hlt
      have r1 : IntKind.i64.wrap (i * x.inc) = i * x.inc := IntWalk.i64_in _ (by omega)
      have r2 : IntKind.i64.wrap (x.off + i * x.inc) = x.off + i * x.inc := IntWalk.i64_in _ (by omega)
      have e1 : 0 ≤ x.off + i * x.inc := by omega
      have e2 : x.off + i * x.inc < x.ws.length := by omega
      have hcall := hs W i wr g0 hlt hR
      unfold VecM.place at hcall
      obtain rfl := hA (by omega)
      have Hlt := hid hlt
      clear hs hb
      go_wp2_with (first | (go_at_call 161; ((with_reducible refine (hcall).mono ?_); rintro e w1 ⟨rfl, hR2⟩)))
      go_roundw
      case rel => exact ⟨i + 1, by (have := Hlt.out; omega), by go_num, hR2⟩
      case measure => (have := Hlt.out; simp [intOf]; omega)
    · have e : i = x.n.toNat := by omega
      rw [e] at hR
      clear hs hb
      go_wp2
      go_end0
      exact ⟨rfl, W, g0, hR⟩
set_option maxRecDepth 100000 in
set_option maxHeartbeats 1000000 in
/-- axes.each. -/
theorem eachSign (x : VecM) (aA : Option Addr) (g o cap : Nat) (q1 : Value) (R : World → Nat → World → Prop) (G : List Nat) (w : World) (hx : x.right = true) (hl : x.ws.length ≤ 1000000)
    (hA : 0 < x.n → aA = some ⟨g, o, none⟩) (h0 : ∀ W1, Grew w W1 → R W1 0 W1) (hb : ∀ W1 i w', R W1 i w' → But W1 G w') (hG : ∀ k ∈ G, k < w.heap.size)
    (hs : ∀ W1 (i : Nat) w', Grew w W1 → (i : Int) < x.n → R W1 i w' → Calls Try.prog 173 #[.int .i64 i, .pointer (some ⟨g, o + x.place i, none⟩), q1] w' (fun e w2 => e = .returned (.tuple #[]) ∧ R W1 (i + 1) w2)) :
   Calls Try.prog 117 #[.agg #[.slice aA x.ws.length cap, .int .i64 x.off, .int .i64 x.n, .int .i64 x.inc], .func (.func 173) #[] #[q1]] w
     (fun e w' => e = .returned (.tuple #[]) ∧ ∃ W1, Grew w W1 ∧ R W1 x.n.toNat w') := by
  have hn := VecM.right_n hx
  have hnl := VecM.right_nle hx hl
  have Hx := hid hx
  clear hx
  go_enter Try.func117, Try.ntmps117
  refine seq_stop ?_
  go_wp2
  refine stop_go (fun W hW => ?_)
  have s1 : w.heap.size < W.heap.size := by rw [hW]; simp only [World.size_alloc]; omega
  have b1 : ∀ i, W.cell? ⟨w.heap.size, i, none⟩ = (#[.slice aA x.ws.length cap, .int .i64 x.off, .int .i64 x.n, .int .i64 x.inc] : Array Value)[i]? := by intro i; rw [hW]; go_simp
  have g0 : Grew w W := by rw [hW]; exact (Grew.refl _).alloc _
  clear hW
  have hR0 := h0 W g0
  clear h0
  go_wp2
  go_loopw [7] (fun c wr => ∃ (i : Nat), (i : Int) ≤ x.n ∧ c = .int .i64 i ∧ R W i wr) (fun c _ => (x.n - intOf c).toNat)
  case atStart => exact ⟨0, hn.1, rfl, hR0⟩
  case round =>
    obtain ⟨i, hi, rfl, hR⟩ := hrel
    have hB := hb W i wr hR
    have tT : ∀ i, wr.cell? ⟨w.heap.size, i, none⟩ = (#[.slice aA x.ws.length cap, .int .i64 x.off, .int .i64 x.n, .int .i64 x.inc] : Array Value)[i]? := fun i => (hB.cell s1 (fun h => by have := hG _ h; omega)).trans (b1 i)
    have zB := hB.size
    have kT : w.heap.size < wr.heap.size := by omega
    by_cases hlt : (i : Int) < x.n
    · have hp := VecM.right_place Hx.out hlt
      have r1 : IntKind.i64.wrap (i * x.inc) = i * x.inc := IntWalk.i64_in _ (by omega)
      have r2 : IntKind.i64.wrap (x.off + i * x.inc) = x.off + i * x.inc := IntWalk.i64_in _ (by omega)
      have e1 : 0 ≤ x.off + i * x.inc := by omega
      have e2 : x.off + i * x.inc < x.ws.length := by omega
      have hcall := hs W i wr g0 hlt hR
      unfold VecM.place at hcall
      obtain rfl := hA (by omega)
      have Hlt := hid hlt
      clear hs hb
      go_wp2_with (first | (go_at_call 173; ((with_reducible refine (hcall).mono ?_); rintro e w1 ⟨rfl, hR2⟩)))
      go_roundw
      case rel => exact ⟨i + 1, by (have := Hlt.out; omega), by go_num, hR2⟩
      case measure => (have := Hlt.out; simp [intOf]; omega)
    · have e : i = x.n.toNat := by omega
      rw [e] at hR
      clear hs hb
      go_wp2
      go_end0
      exact ⟨rfl, W, g0, hR⟩
set_option maxRecDepth 100000 in
set_option maxHeartbeats 1000000 in
/-- axes.each. -/
theorem eachAxpy (x : VecM) (aA : Option Addr) (g o cap : Nat) (q1 q2 : Value) (R : World → Nat → World → Prop) (G : List Nat) (w : World) (hx : x.right = true) (hl : x.ws.length ≤ 1000000)
    (hA : 0 < x.n → aA = some ⟨g, o, none⟩) (h0 : ∀ W1, Grew w W1 → R W1 0 W1) (hb : ∀ W1 i w', R W1 i w' → But W1 G w') (hG : ∀ k ∈ G, k < w.heap.size)
    (hs : ∀ W1 (i : Nat) w', Grew w W1 → (i : Int) < x.n → R W1 i w' → Calls Try.prog 118 #[.int .i64 i, .pointer (some ⟨g, o + x.place i, none⟩), q1, q2] w' (fun e w2 => e = .returned (.tuple #[]) ∧ R W1 (i + 1) w2)) :
   Calls Try.prog 117 #[.agg #[.slice aA x.ws.length cap, .int .i64 x.off, .int .i64 x.n, .int .i64 x.inc], .func (.func 118) #[] #[q1, q2]] w
     (fun e w' => e = .returned (.tuple #[]) ∧ ∃ W1, Grew w W1 ∧ R W1 x.n.toNat w') := by
  have hn := VecM.right_n hx
  have hnl := VecM.right_nle hx hl
  have Hx := hid hx
  clear hx
  go_enter Try.func117, Try.ntmps117
  refine seq_stop ?_
  go_wp2
  refine stop_go (fun W hW => ?_)
  have s1 : w.heap.size < W.heap.size := by rw [hW]; simp only [World.size_alloc]; omega
  have b1 : ∀ i, W.cell? ⟨w.heap.size, i, none⟩ = (#[.slice aA x.ws.length cap, .int .i64 x.off, .int .i64 x.n, .int .i64 x.inc] : Array Value)[i]? := by intro i; rw [hW]; go_simp
  have g0 : Grew w W := by rw [hW]; exact (Grew.refl _).alloc _
  clear hW
  have hR0 := h0 W g0
  clear h0
  go_wp2
  go_loopw [7] (fun c wr => ∃ (i : Nat), (i : Int) ≤ x.n ∧ c = .int .i64 i ∧ R W i wr) (fun c _ => (x.n - intOf c).toNat)
  case atStart => exact ⟨0, hn.1, rfl, hR0⟩
  case round =>
    obtain ⟨i, hi, rfl, hR⟩ := hrel
    have hB := hb W i wr hR
    have tT : ∀ i, wr.cell? ⟨w.heap.size, i, none⟩ = (#[.slice aA x.ws.length cap, .int .i64 x.off, .int .i64 x.n, .int .i64 x.inc] : Array Value)[i]? := fun i => (hB.cell s1 (fun h => by have := hG _ h; omega)).trans (b1 i)
    have zB := hB.size
    have kT : w.heap.size < wr.heap.size := by omega
    by_cases hlt : (i : Int) < x.n
    · have hp := VecM.right_place Hx.out hlt
      have r1 : IntKind.i64.wrap (i * x.inc) = i * x.inc := IntWalk.i64_in _ (by omega)
      have r2 : IntKind.i64.wrap (x.off + i * x.inc) = x.off + i * x.inc := IntWalk.i64_in _ (by omega)
      have e1 : 0 ≤ x.off + i * x.inc := by omega
      have e2 : x.off + i * x.inc < x.ws.length := by omega
      have hcall := hs W i wr g0 hlt hR
      unfold VecM.place at hcall
      obtain rfl := hA (by omega)
      have Hlt := hid hlt
      clear hs hb
      go_wp2_with (first | (go_at_call 118; ((with_reducible refine (hcall).mono ?_); rintro e w1 ⟨rfl, hR2⟩)))
      go_roundw
      case rel => exact ⟨i + 1, by (have := Hlt.out; omega), by go_num, hR2⟩
      case measure => (have := Hlt.out; simp [intOf]; omega)
    · have e : i = x.n.toNat := by omega
      rw [e] at hR
      clear hs hb
      go_wp2
      go_end0
      exact ⟨rfl, W, g0, hR⟩
set_option maxRecDepth 100000 in
set_option maxHeartbeats 1000000 in
theorem scl_any (i pl g T a α r0 z0 : Nat) (w : World) (hca : ∀ i, w.cell? ⟨T, i, none⟩ = (#[.float .f64 a] : Array Value)[i]?) (ha : IsF a α) (kT : T < w.heap.size) (kg : g < w.heap.size)
    (h3 : w.cell? ⟨g, pl, none⟩ = some (.float .f64 r0)) (f3 : IsF r0 z0) (fz : ∀ i, w.frozen? ⟨g, i, none⟩ = false) :
   Calls Try.prog 172 #[.int .i64 i, .pointer (some ⟨g, pl, none⟩), .pointer (some ⟨T, 0, none⟩)] w
     (fun e w' => e = .returned (.tuple #[]) ∧ ∃ r, IsF r (fmul α z0) ∧ ∃ o n, w' = ext (w.setCell ⟨g, pl, none⟩ (.float .f64 r)) o n) := by
  go_enter Try.func172, Try.ntmps172
  go_wp2
  refine wp_region_R (Grew w) [7] [(3,0), (0,1), (3,2), (3,3), (0,4), (1,5), (3,6), (2,7)] (by kernel_rfl) (by kernel_rfl) (fun _ _ _ _ h _ => h) (by first | exact ⟨_, _, ext_drew⟩ | exact ⟨_, _, drew_ext0⟩) ?_
  go_wp2_with (first | ((with_reducible refine wpR_id ?_); first | (refine wpR_take (v := ?_) rfl rfl ?_ ?_; rotate_left; (focus (rintro w' ⟨o', n', rfl⟩; go_simp; try with_reducible rfl)); simp only [Act.put, List.setIfInBounds_toArray, List.set_cons_zero, List.set_cons_succ]) | (refine wpR_pure (v := ?_) rfl rfl ?_ ?_; rotate_left; (focus (intro w'; go_simp; try with_reducible rfl)); simp only [Act.put, List.setIfInBounds_toArray, List.set_cons_zero, List.set_cons_succ]) | (refine wpR_takeG (v := ?_) rfl rfl rfl rfl rfl ?_ ?_; rotate_left; (focus (rintro w' ⟨o', n', rfl⟩; go_simp; try with_reducible rfl)); simp only [Act.put, List.setIfInBounds_toArray, List.set_cons_zero, List.set_cons_succ]) | (refine wpR_skip rfl rfl rfl rfl rfl rfl ?_; simp only [Act.put, List.setIfInBounds_toArray, List.set_cons_zero, List.set_cons_succ]) | (refine wpR_skipU rfl rfl rfl rfl rfl ?_; simp only [Act.put, List.setIfInBounds_toArray, List.set_cons_zero, List.set_cons_succ]) | (refine wpR_do rfl rfl (fun K hK => ?_)) | (refine wpR_doG rfl rfl rfl rfl rfl (fun K hK => ?_)) | (refine wpR_last rfl rfl (fun K hK => ?_)) | (refine wpR_nil ?_)) | ((with_reducible refine wpR_go ?_ ?_); (focus (show Grew _ _; repeat (first | (with_reducible exact Grew.refl _) | (with_reducible assumption) | (with_reducible refine Grew.ext ?_ _ _) | (with_reducible refine Grew.alloc ?_ _) | ((with_reducible refine Grew.setCell ?_ ?_ _); rotate_left; (focus (dsimp only; first | omega | (simp only [size_ext, World.size_alloc, Array.size_append]; omega)))) | (with_reducible refine Grew.drewN ?_ _) | (with_reducible refine Grew.drew ?_))))) | ((with_reducible refine upon_id ?_); refine upon_fop rfl (by assumption) (by assumption) ?_; intro rr nn hr))
  go_end0
  exact ⟨rfl, rr, hr, _, _, (by rw [drewN_ext0]; exact setCell_ext kg _)⟩
set_option maxRecDepth 100000 in
set_option maxHeartbeats 1000000 in
theorem shl_any (i pl g T r0 z0 : Nat) (O : Value) (zs : List Int) (w : World) (hca : ∀ i, w.cell? ⟨T, i, none⟩ = (#[O] : Array Value)[i]?) (hO : IS .i64 w O zs) (hi : i < zs.length) (kT : T < w.heap.size) (kg : g < w.heap.size)
    (h3 : w.cell? ⟨g, pl, none⟩ = some (.float .f64 r0)) (f3 : IsF r0 z0) (fz : ∀ i, w.frozen? ⟨g, i, none⟩ = false) :
   Calls Try.prog 161 #[.int .i64 i, .pointer (some ⟨g, pl, none⟩), .pointer (some ⟨T, 0, none⟩)] w
     (fun e w' => e = .returned (.tuple #[]) ∧ ∃ r, IsF r (fscale z0 (zs.getD i 0)) ∧ ∃ o n, w' = ext (w.setCell ⟨g, pl, none⟩ (.float .f64 r)) o n) := by
  obtain ⟨aO, cO, rfl⟩ := hO.shape
  obtain ⟨blk, o, rfl, hblk, hc⟩ := hO.at.2 (by omega)
  have hlen := hO.len
  have hb := hc i hi
  obtain ⟨z, hz⟩ : ∃ z, z = zs.getD i 0 := ⟨_, rfl⟩
  rw [← hz] at hb ⊢
  clear hc hO hz
  go_enter Try.func161, Try.ntmps161
  go_wp2
  refine wp_region_R (Grew w) [10] [(3,0), (3,1), (3,2), (0,3), (0,4), (3,5), (3,6), (0,7), (1,8), (3,9), (2,10)] (by kernel_rfl) (by kernel_rfl) (fun _ _ _ _ h _ => h) (by first | exact ⟨_, _, ext_drew⟩ | exact ⟨_, _, drew_ext0⟩) ?_
  go_wp2_with (first | ((with_reducible refine wpR_id ?_); first | (refine wpR_take (v := ?_) rfl rfl ?_ ?_; rotate_left; (focus (rintro w' ⟨o', n', rfl⟩; go_simp; try with_reducible rfl)); simp only [Act.put, List.setIfInBounds_toArray, List.set_cons_zero, List.set_cons_succ]) | (refine wpR_pure (v := ?_) rfl rfl ?_ ?_; rotate_left; (focus (intro w'; go_simp; try with_reducible rfl)); simp only [Act.put, List.setIfInBounds_toArray, List.set_cons_zero, List.set_cons_succ]) | (refine wpR_takeG (v := ?_) rfl rfl rfl rfl rfl ?_ ?_; rotate_left; (focus (rintro w' ⟨o', n', rfl⟩; go_simp; try with_reducible rfl)); simp only [Act.put, List.setIfInBounds_toArray, List.set_cons_zero, List.set_cons_succ]) | (refine wpR_skip rfl rfl rfl rfl rfl rfl ?_; simp only [Act.put, List.setIfInBounds_toArray, List.set_cons_zero, List.set_cons_succ]) | (refine wpR_skipU rfl rfl rfl rfl rfl ?_; simp only [Act.put, List.setIfInBounds_toArray, List.set_cons_zero, List.set_cons_succ]) | (refine wpR_do rfl rfl (fun K hK => ?_)) | (refine wpR_doG rfl rfl rfl rfl rfl (fun K hK => ?_)) | (refine wpR_last rfl rfl (fun K hK => ?_)) | (refine wpR_nil ?_)) | ((with_reducible refine wpR_go ?_ ?_); (focus (show Grew _ _; repeat (first | (with_reducible exact Grew.refl _) | (with_reducible assumption) | (with_reducible refine Grew.ext ?_ _ _) | (with_reducible refine Grew.alloc ?_ _) | ((with_reducible refine Grew.setCell ?_ ?_ _); rotate_left; (focus (dsimp only; first | omega | (simp only [size_ext, World.size_alloc, Array.size_append]; omega)))) | (with_reducible refine Grew.drewN ?_ _) | (with_reducible refine Grew.drew ?_))))) | ((with_reducible refine upon_id ?_); refine upon_fop rfl (by assumption) (by assumption) ?_; intro rr nn hr) | (go_at_call 162; ((with_reducible refine (nscale_any r0 z0 z _ f3).mono ?_); rintro e w1 ⟨rr, rfl, hr, o1, n1, rfl⟩)))
  go_end0
  exact ⟨rfl, rr, hr, _, _, rfl⟩
end Go.Proofs.Ytcmggfpcbijcjaa
