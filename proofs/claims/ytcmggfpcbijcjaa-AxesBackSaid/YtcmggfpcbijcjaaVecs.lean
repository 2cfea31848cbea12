/-
  Contracts: a number of a vector, products of vectors, the place of the greatest (layer 5).
-/
import Derived.Test.YtcmggfpcbijcjaaSums
set_option linter.unusedSimpArgs false
set_option linter.unusedVariables false
open Go Go.RowKit Sedge
namespace Go.Proofs.Ytcmggfpcbijcjaa
set_option maxHeartbeats 400000 in
theorem at_any (x : VecM) (D : Value) (i : Nat) (w : World) (hD : FS w D x.ws) (hr : x.right = true) (hi : (i : Int) < x.n) :
   Calls Try.prog 192 #[.agg #[D, .int .i64 x.off, .int .i64 x.n, .int .i64 x.inc], .int .i64 i] w (fun e w' => ∃ b, e = .returned (.float .f64 b) ∧ IsF b (x.num i) ∧ ∃ o n, w' = ext w o n) := by
  have hp := VecM.right_place hr hi
  have hn := VecM.right_n hr
  have hlen := hD.len
  obtain ⟨blk, o, cap, rfl, hlt, hc⟩ := hD.open (by omega)
  obtain ⟨b, hb, hf⟩ := hc (x.place i) (by unfold VecM.place; omega)
  unfold VecM.place at hb
  have h2 : IntKind.i64.wrap (i * x.inc) = i * x.inc := IntWalk.i64_in _ (by omega)
  have h3 : IntKind.i64.wrap (x.off + i * x.inc) = x.off + i * x.inc := IntWalk.i64_in _ (by omega)
  clear hc
  go_enter Try.func192, Try.ntmps192
  go_wp2
  go_ret
  exact ⟨b, rfl, hf, (Grew.refl _).alloc _⟩

/-- The sum of products, in its order. -/
def dotTo (x y : VecM) : Nat → Nat
  | 0 => 0
  | k + 1 => fadd (dotTo x y k) (fmul (x.num k) (y.num k))
set_option maxRecDepth 100000 in
set_option maxHeartbeats 1000000 in
theorem dot_ok (x y : VecM) (D E : Value) (w : World) (hD : FS w D x.ws) (hE : FS w E y.ws) (hxw : x.wf) (hyw : y.wf) (hx : x.right = true) (hy : y.right = true) (hn : x.n = y.n) :
   Calls Try.prog 128 #[.agg #[D, .int .i64 x.off, .int .i64 x.n, .int .i64 x.inc], .agg #[E, .int .i64 y.off, .int .i64 y.n, .int .i64 y.inc]] w
    (fun e w' => ∃ b, e = .returned (.tuple #[.float .f64 b, .int .i64 0]) ∧ IsF b (dotTo x y x.n.toNat) ∧ ∃ o n, w' = ext w o n) := by
  have hx0 : 0 ≤ x.n := by have := VecM.right_n hx; omega
  have hx1 : x.n ≤ 9223372036854775807 := by have := hxw.2.1.2; omega
  have k1 : (!x.right) = false := by simp [hx]
  have k2 : (!y.right) = false := by simp [hy]
  have k3 : (x.n != y.n) = false := by simp [hn]
  have Hx := hid hx
  have Hy := hid hy
  have Hn := hid hn
  have Hw1 := hid hxw
  have Hw2 := hid hyw
  clear hn hxw hyw hx hy
  go_enter Try.func128, Try.ntmps128
  refine seq_stop ?_
  go_wp2
  refine stop_go (fun W hW => ?_)
  have s1 : w.heap.size < W.heap.size := by rw [hW]; simp only [World.size_alloc]; omega
  have b1 : ∀ i, W.cell? ⟨w.heap.size, i, none⟩ = (#[D, .int .i64 x.off, .int .i64 x.n, .int .i64 x.inc] : Array Value)[i]? := by intro i; rw [hW]; go_simp
  have s2 : w.heap.size + 1 < W.heap.size := by rw [hW]; simp only [World.size_alloc]; omega
  have b2 : ∀ i, W.cell? ⟨w.heap.size + 1, i, none⟩ = (#[E, .int .i64 y.off, .int .i64 y.n, .int .i64 y.inc] : Array Value)[i]? := by intro i; rw [hW]; go_simp
  have g0 : Grew w W := by rw [hW]; exact ((Grew.refl _).alloc _).alloc _
  clear hW
  have hDW : FS W D x.ws := hD.grew g0
  have hEW : FS W E y.ws := hE.grew g0
  go_wp2_with (first | (go_at_call 135; ((with_reducible refine (right_any x D _ ?_ Hw1.out).mono ?_); (focus (first | assumption | (refine FS.ext ?_ _ _; assumption) | (refine IS.ext ?_ _ _; assumption) | (refine hDu _ ?_; assumption) | (refine hOu _ ?_; assumption) | (refine FW.fs ?_ (by omega) _; assumption) | (refine WS.fs ?_; assumption) | omega)); rintro e w1 ⟨rfl, o1, n1, rfl⟩)) | (go_at_call 135; ((with_reducible refine (right_any y E _ ?_ Hw2.out).mono ?_); (focus (first | assumption | (refine FS.ext ?_ _ _; assumption) | (refine IS.ext ?_ _ _; assumption) | (refine hDu _ ?_; assumption) | (refine hOu _ ?_; assumption) | (refine FW.fs ?_ (by omega) _; assumption) | (refine WS.fs ?_; assumption) | omega)); rintro e w1 ⟨rfl, o1, n1, rfl⟩)))
  go_loopw [6, 25] (fun s c wr => ∃ (j : Nat) (b : Nat), (j : Int) ≤ x.n ∧ c = .int .i64 j ∧ s = .float .f64 b ∧ IsF b (dotTo x y j) ∧
     ∃ o n, wr = ext W o n) (fun _ c _ => (x.n - intOf c).toNat)
  case atStart => exact ⟨0, 0, hx0, rfl, rfl, isF_zero, _, _, rfl⟩
  case round =>
    obtain ⟨j, b, hj, rfl, rfl, hb, o3, n3, hwr⟩ := hrel
    subst hwr
    by_cases hlt : (j : Int) < x.n
    · have hlt2 : (j : Int) < y.n := by have := Hn.out; omega
      go_wp2
      refine wp_region_R (Grew W) [] [(0,0), (0,1), (0,2), (0,4), (0,5), (1,3), (1,6), (1,7), (1,8), (0,9)] (by kernel_rfl) (by kernel_rfl) (fun _ _ _ _ h _ => h) (by first | exact ⟨_, _, ext_drew⟩ | exact ⟨_, _, drew_ext0⟩) ?_
      go_wp2_with (first | ((with_reducible refine wpR_id ?_); first | (refine wpR_take (v := ?_) rfl rfl ?_ ?_; rotate_left; (focus (rintro w' ⟨o', n', rfl⟩; go_simp; try with_reducible rfl)); simp only [Act.put, List.setIfInBounds_toArray, List.set_cons_zero, List.set_cons_succ]) | (refine wpR_pure (v := ?_) rfl rfl ?_ ?_; rotate_left; (focus (intro w'; go_simp; try with_reducible rfl)); simp only [Act.put, List.setIfInBounds_toArray, List.set_cons_zero, List.set_cons_succ]) | (refine wpR_takeG (v := ?_) rfl rfl rfl rfl rfl ?_ ?_; rotate_left; (focus (rintro w' ⟨o', n', rfl⟩; go_simp; try with_reducible rfl)); simp only [Act.put, List.setIfInBounds_toArray, List.set_cons_zero, List.set_cons_succ]) | (refine wpR_skip rfl rfl rfl rfl rfl rfl ?_; simp only [Act.put, List.setIfInBounds_toArray, List.set_cons_zero, List.set_cons_succ]) | (refine wpR_skipU rfl rfl rfl rfl rfl ?_; simp only [Act.put, List.setIfInBounds_toArray, List.set_cons_zero, List.set_cons_succ]) | (refine wpR_do rfl rfl (fun K hK => ?_)) | (refine wpR_doG rfl rfl rfl rfl rfl (fun K hK => ?_)) | (refine wpR_last rfl rfl (fun K hK => ?_)) | (refine wpR_nil ?_)) | ((with_reducible refine wpR_go ?_ ?_); (focus exact ⟨_, _, rfl⟩)) | ((with_reducible refine upon_id ?_); refine upon_fop rfl (by assumption) (by assumption) ?_; intro rr nn hr) | (go_at_call 192; ((with_reducible refine (at_any x D _ _ ?_ Hx.out hlt).mono ?_); (focus (first | assumption | (refine FS.ext ?_ _ _; assumption) | (refine IS.ext ?_ _ _; assumption) | (refine hDu _ ?_; assumption) | (refine hOu _ ?_; assumption) | (refine FW.fs ?_ (by omega) _; assumption) | (refine WS.fs ?_; assumption) | omega)); rintro e w1 ⟨bx, rfl, hbx, o4, n4, rfl⟩)) | (go_at_call 192; ((with_reducible refine (at_any y E _ _ ?_ Hy.out hlt2).mono ?_); (focus (first | assumption | (refine FS.ext ?_ _ _; assumption) | (refine IS.ext ?_ _ _; assumption) | (refine hDu _ ?_; assumption) | (refine hOu _ ?_; assumption) | (refine FW.fs ?_ (by omega) _; assumption) | (refine WS.fs ?_; assumption) | omega)); rintro e w1 ⟨bx, rfl, hbx, o4, n4, rfl⟩)))
      go_roundw
      case rel => exact ⟨j + 1, rr, by omega, by go_num, rfl, hr, _, _, rfl⟩
      case measure => simp [intOf]; omega
    · go_wp2
      go_ret2
      have e : x.n.toNat = j := by omega
      exact ⟨b, rfl, by rw [e]; exact hb, g0.ext _ _⟩

/-- The place of the greatest number without its sign, so far; -1: none. -/
def mostTo (x : VecM) : Nat → Int
  | 0 => -1
  | k + 1 => if mostTo x k < 0 ∨ fgt (fabs (x.num k)) (fabs (x.num (mostTo x k).toNat)) = true then k else mostTo x k
theorem mostTo_range (x : VecM) : ∀ k, -1 ≤ mostTo x k ∧ mostTo x k < k
  | 0 => by simp [mostTo]
  | k + 1 => by
    have := mostTo_range x k
    unfold mostTo
    split <;> omega
set_option maxRecDepth 100000 in
set_option maxHeartbeats 2000000 in
theorem most_ok (x : VecM) (D : Value) (w : World) (hD : FS w D x.ws) (hxw : x.wf) (hx : x.right = true) :
   Calls Try.prog 127 #[.agg #[D, .int .i64 x.off, .int .i64 x.n, .int .i64 x.inc]] w
    (fun e w' => e = .returned (.tuple #[.int .i64 (mostTo x x.n.toNat), .int .i64 0]) ∧ ∃ o n, w' = ext w o n) := by
  have hx0 : 0 ≤ x.n := by have := VecM.right_n hx; omega
  have hx1 : x.n ≤ 9223372036854775807 := by have := hxw.2.1.2; omega
  have k1 : (!x.right) = false := by simp [hx]
  have Hx := hid hx
  have Hw1 := hid hxw
  clear hxw hx
  go_enter Try.func127, Try.ntmps127
  refine seq_stop ?_
  go_wp2
  refine stop_go (fun W hW => ?_)
  have s1 : w.heap.size < W.heap.size := by rw [hW]; simp only [World.size_alloc]; omega
  have b1 : ∀ i, W.cell? ⟨w.heap.size, i, none⟩ = (#[D, .int .i64 x.off, .int .i64 x.n, .int .i64 x.inc] : Array Value)[i]? := by intro i; rw [hW]; go_simp
  have g0 : Grew w W := by rw [hW]; exact (Grew.refl _).alloc _
  clear hW
  have hDW : FS W D x.ws := hD.grew g0
  go_wp2_with (first | (go_at_call 135; ((with_reducible refine (right_any x D _ ?_ Hw1.out).mono ?_); (focus (first | assumption | (refine FS.ext ?_ _ _; assumption) | (refine IS.ext ?_ _ _; assumption) | (refine hDu _ ?_; assumption) | (refine hOu _ ?_; assumption) | (refine FW.fs ?_ (by omega) _; assumption) | (refine WS.fs ?_; assumption) | omega)); rintro e w1 ⟨rfl, o1, n1, rfl⟩)))
  go_loopw [4, 11] (fun s c wr => ∃ (j : Nat) (m : Int), (j : Int) ≤ x.n ∧ c = .int .i64 j ∧ s = .int .i64 m ∧ m = mostTo x j ∧
     ∃ o n, wr = ext W o n) (fun _ c _ => (x.n - intOf c).toNat)
  case atStart => exact ⟨0, -1, hx0, rfl, rfl, rfl, _, _, rfl⟩
  case round =>
    obtain ⟨j, m, hj, rfl, rfl, hm, o3, n3, hwr⟩ := hrel
    subst hwr
    have hmr := mostTo_range x j
    rw [← hm] at hmr
    have Hm := hid hm
    clear hm
    by_cases hlt : (j : Int) < x.n
    · by_cases hm0 : m < 0
      · go_wp2
        refine wp_region_R (Grew W) [] [(0,0), (0,1), (0,2), (0,3), (0,4), (0,7), (0,8), (1,5), (1,6), (1,9), (1,10), (0,11), (0,12)] (by kernel_rfl) (by kernel_rfl) (fun _ _ _ _ h _ => h) (by first | exact ⟨_, _, ext_drew⟩ | exact ⟨_, _, drew_ext0⟩) ?_
        go_wp2_with (first | ((with_reducible refine wpR_id ?_); first | (refine wpR_take (v := ?_) rfl rfl ?_ ?_; rotate_left; (focus (rintro w' ⟨o', n', rfl⟩; go_simp; try with_reducible rfl)); simp only [Act.put, List.setIfInBounds_toArray, List.set_cons_zero, List.set_cons_succ]) | (refine wpR_pure (v := ?_) rfl rfl ?_ ?_; rotate_left; (focus (intro w'; go_simp; try with_reducible rfl)); simp only [Act.put, List.setIfInBounds_toArray, List.set_cons_zero, List.set_cons_succ]) | (refine wpR_takeG (v := ?_) rfl rfl rfl rfl rfl ?_ ?_; rotate_left; (focus (rintro w' ⟨o', n', rfl⟩; go_simp; try with_reducible rfl)); simp only [Act.put, List.setIfInBounds_toArray, List.set_cons_zero, List.set_cons_succ]) | (refine wpR_skip rfl rfl rfl rfl rfl rfl ?_; simp only [Act.put, List.setIfInBounds_toArray, List.set_cons_zero, List.set_cons_succ]) | (refine wpR_skipU rfl rfl rfl rfl rfl ?_; simp only [Act.put, List.setIfInBounds_toArray, List.set_cons_zero, List.set_cons_succ]) | (refine wpR_do rfl rfl (fun K hK => ?_)) | (refine wpR_doG rfl rfl rfl rfl rfl (fun K hK => ?_)) | (refine wpR_last rfl rfl (fun K hK => ?_)) | (refine wpR_nil ?_)) | ((with_reducible refine wpR_go ?_ ?_); (focus exact ⟨_, _, rfl⟩)) | ((with_reducible refine upon_id ?_); refine upon_fop rfl (by assumption) (by assumption) ?_; intro rr nn hr))
        go_roundw
        case rel => exact ⟨j + 1, j, by omega, by go_num, rfl, by unfold mostTo; rw [if_pos (.inl (by rw [← Hm.out]; exact hm0))], _, _, rfl⟩
        case measure => simp [intOf]; omega
      · obtain ⟨m', rfl⟩ : ∃ m' : Nat, m = m' := ⟨m.toNat, by omega⟩
        have hlt2 : (m' : Int) < x.n := by omega
        have hm1 : decide ((m' : Int) < 0) = false := by simp
        go_wp2
        refine wp_region_R (Grew W) [] [(0,0), (0,1), (0,2), (0,3), (0,4), (0,7), (0,8), (1,5), (1,6), (1,9), (1,10), (0,11), (0,12)] (by kernel_rfl) (by kernel_rfl) (fun _ _ _ _ h _ => h) (by first | exact ⟨_, _, ext_drew⟩ | exact ⟨_, _, drew_ext0⟩) ?_
        go_wp2_with (first | ((with_reducible refine wpR_id ?_); first | (refine wpR_take (v := ?_) rfl rfl ?_ ?_; rotate_left; (focus (rintro w' ⟨o', n', rfl⟩; go_simp; try with_reducible rfl)); simp only [Act.put, List.setIfInBounds_toArray, List.set_cons_zero, List.set_cons_succ]) | (refine wpR_pure (v := ?_) rfl rfl ?_ ?_; rotate_left; (focus (intro w'; go_simp; try with_reducible rfl)); simp only [Act.put, List.setIfInBounds_toArray, List.set_cons_zero, List.set_cons_succ]) | (refine wpR_takeG (v := ?_) rfl rfl rfl rfl rfl ?_ ?_; rotate_left; (focus (rintro w' ⟨o', n', rfl⟩; go_simp; try with_reducible rfl)); simp only [Act.put, List.setIfInBounds_toArray, List.set_cons_zero, List.set_cons_succ]) | (refine wpR_skip rfl rfl rfl rfl rfl rfl ?_; simp only [Act.put, List.setIfInBounds_toArray, List.set_cons_zero, List.set_cons_succ]) | (refine wpR_skipU rfl rfl rfl rfl rfl ?_; simp only [Act.put, List.setIfInBounds_toArray, List.set_cons_zero, List.set_cons_succ]) | (refine wpR_do rfl rfl (fun K hK => ?_)) | (refine wpR_doG rfl rfl rfl rfl rfl (fun K hK => ?_)) | (refine wpR_last rfl rfl (fun K hK => ?_)) | (refine wpR_nil ?_)) | ((with_reducible refine wpR_go ?_ ?_); (focus exact ⟨_, _, rfl⟩)) | ((with_reducible refine upon_id ?_); refine upon_fop rfl (by assumption) (by assumption) ?_; intro rr nn hr) | (go_at_call 192; ((with_reducible refine (at_any x D j _ ?_ Hx.out hlt).mono ?_); (focus (first | assumption | (refine FS.ext ?_ _ _; assumption) | (refine IS.ext ?_ _ _; assumption) | (refine hDu _ ?_; assumption) | (refine hOu _ ?_; assumption) | (refine FW.fs ?_ (by omega) _; assumption) | (refine WS.fs ?_; assumption) | omega)); rintro e w1 ⟨bx, rfl, hbx, o4, n4, rfl⟩)) | (go_at_call 192; ((with_reducible refine (at_any x D m' _ ?_ Hx.out hlt2).mono ?_); (focus (first | assumption | (refine FS.ext ?_ _ _; assumption) | (refine IS.ext ?_ _ _; assumption) | (refine hDu _ ?_; assumption) | (refine hOu _ ?_; assumption) | (refine FW.fs ?_ (by omega) _; assumption) | (refine WS.fs ?_; assumption) | omega)); rintro e w1 ⟨by', rfl, hby, o4, n4, rfl⟩)) | (go_at_call 164; ((with_reducible refine (mabs_any _ _ _ (by assumption)).mono ?_); rintro e w1 ⟨ra, rfl, hra, rfl⟩)))
        · have q : fgt (fabs (x.num j)) (fabs (x.num m')) = true := gt_fact (by assumption) (by assumption) (by assumption)
          go_roundw
          case rel => exact ⟨j + 1, j, by omega, by go_num, rfl, by unfold mostTo; rw [if_pos (.inr (by rw [← Hm.out]; exact q))], _, _, rfl⟩
          case measure => simp [intOf]; omega
        · have q : fgt (fabs (x.num j)) (fabs (x.num m')) = false := gt_fact (by assumption) (by assumption) (by assumption)
          go_roundw
          case rel => exact ⟨j + 1, m', by omega, by go_num, rfl, by unfold mostTo; rw [if_neg (by rw [← Hm.out]; simp [q])]; exact Hm.out, _, _, rfl⟩
          case measure => simp [intOf]; omega
    · go_wp2
      go_ret2
      have e : x.n.toNat = j := by omega
      exact ⟨by rw [e, ← Hm.out]; rfl, g0.ext _ _⟩
end Go.Proofs.Ytcmggfpcbijcjaa
