/-
  Texts laid one behind the other (a claim has at most 60 files): Gemv4, LawSums, Dense, GclP.
-/
import Derived.Test.YtcmggfpcbijcjaaQGemvTurns1
import Derived.Test.YtcmggfpcbijcjaaQGemvTurns2
import Derived.Test.YtcmggfpcbijcjaaQGemvTurns3
import Derived.Test.YtcmggfpcbijcjaaQGemvTurns4
import Derived.Test.YtcmggfpcbijcjaaQGemvTurns5
section
/-
  Contracts: gemv.Mul where all is well, x a slice that came in (its place in the block any).
-/
set_option linter.unusedSimpArgs false
set_option linter.unusedVariables false
open Go Go.RowKit Sedge
namespace Go.Proofs.Ytcmggfpcbijcjaa
/-- Block b holds cells. -/
def Held (w : World) (b : Nat) : Prop := ∃ c e f, w.heap[b]? = some (.cells c e f) ∧ c.size ≠ 0
theorem Held.grew {w w' : World} {b : Nat} (h : Held w b) (g : Grew w w') : Held w' b := by
  obtain ⟨c, e, f, h, k⟩ := h; exact ⟨c, e, f, by rw [g.below.block b (some_lt' h)]; exact h, k⟩
theorem held_cell {w : World} {b i : Nat} {v : Value} (h : w.cell? ⟨b, i, none⟩ = some v) : Held w b := by
  unfold World.cell? at h
  simp only at h
  cases hb : w.heap[b]? with
  | none => rw [hb] at h; cases h
  | some x =>
    rw [hb] at h
    cases x with
    | cells c e f =>
      refine ⟨c, e, f, hb, fun h0 => ?_⟩
      simp only [Option.isSome_none, Bool.false_eq_true, if_false] at h
      rw [Array.getElem?_eq_none (by omega)] at h
      cases h
    | _ => cases h
theorem held_fs {w : World} {b o n c : Nat} {ws : List Nat} (h : FS w (.slice (some ⟨b, o, none⟩) n c) ws) (hn : 0 < ws.length) : Held w b := by
  obtain ⟨blk, so, e, _, hc⟩ := h.at.2 hn
  cases e
  obtain ⟨r, h1, _⟩ := hc 0 hn
  exact held_cell h1
theorem sameAddr_held {w : World} {a b : Addr} {ca cb : Array Value} {ta tb : TypeId} {fb : Nat × Nat} (hne : a.block ≠ b.block) (ha : w.heap[a.block]? = some (.cells ca ta (0, 0))) (hb : w.heap[b.block]? = some (.cells cb tb fb)) (hs : cb.size ≠ 0) :
    (sameAddr a b).run Try.prog w = .ok false w := by
  obtain ⟨f1, f2⟩ := fb
  simp [sameAddr, hne, World.frozen?, ha, hb, noView, viewAt, World.shape?, mayBeOne, stringish, hs]
theorem eql_held {w : World} {a b i j : Nat} (ha : Plain w a) (hb : Held w b) (hne : a ≠ b) : (binOp .eql 142 (.pointer (some ⟨a, i, none⟩)) (.pointer (some ⟨b, j, none⟩))).run Try.prog w = .ok (.bool false) w := by
  obtain ⟨t, hj, hs⟩ := info22
  obtain ⟨ca, ta, ha⟩ := ha
  obtain ⟨cb, tb, fb, hb, hz⟩ := hb
  have h : ∀ d : Nat, (Op.equalIn (d + 1) 142 (.pointer (some ⟨a, i, none⟩)) (.pointer (some ⟨b, j, none⟩))).run Try.prog w = .ok false w := fun d => by
    simp [Op.equalIn, run_underlying und142, sizeOf, typeInfo, hj, hs, sameAddr_held (w := w) (a := ⟨a, i, none⟩) (b := ⟨b, j, none⟩) hne ha hb hz]
  simp only [binOp]
  simp [Op.equal, Op.maxDepth, h 9999]
set_option maxRecDepth 100000 in
set_option maxHeartbeats 4000000 in
theorem meetO_any (x y : MatM) (a b ob ca cb : Nat) (w : World) (hA : FS w (.slice (some ⟨a, 0, none⟩) x.ws.length ca) x.ws) (hB : FS w (.slice (some ⟨b, ob, none⟩) y.ws.length cb) y.ws) (hPa : Plain w a) (hPb : Held w b) (hab : a ≠ b) (hwx : x.wf) (hwy : y.wf) (hlx : x.ws.length ≤ 1000000) (hly : y.ws.length ≤ 1000000) :
   Calls Try.prog 136 #[.agg #[.slice (some ⟨a, 0, none⟩) x.ws.length ca, .int .i64 x.off, .int .i64 x.rows, .int .i64 x.cols, .int .i64 x.ld], .agg #[.slice (some ⟨b, ob, none⟩) y.ws.length cb, .int .i64 y.off, .int .i64 y.rows, .int .i64 y.cols, .int .i64 y.ld]] w
     (fun e w' => e = .returned (.bool false) ∧ ∃ o n, w' = ext w o n) := by
  have Hwx := hid hwx
  have Hwy := hid hwy
  clear hwx hwy
  have hne : ∀ W', Grew w W' → a ≠ b → (binOp .eql 142 (.pointer (some ⟨a, 0, none⟩)) (.pointer (some ⟨b, ob, none⟩))).run Try.prog W' = .ok (.bool false) W' := fun W' g h => eql_held (hPa.grew g) (hPb.grew g) h
  obtain ⟨l1, hl1⟩ : ∃ z, Hid (z = spanLo x) := ⟨_, hid rfl⟩
  obtain ⟨h1, hh1⟩ : ∃ z, Hid (z = spanHi x) := ⟨_, hid rfl⟩
  obtain ⟨l2, hl2⟩ : ∃ z, Hid (z = spanLo y) := ⟨_, hid rfl⟩
  obtain ⟨h2, hh2⟩ : ∃ z, Hid (z = spanHi y) := ⟨_, hid rfl⟩
  have hM : ∀ one, meetM x y one = (MatM.full x && MatM.full y && one && decide (l1 ≤ h2) && decide (l2 ≤ h1)) := fun one => by unfold meetM; rw [hl1.out, hh1.out, hl2.out, hh2.out]
  have sx : ∀ w', FS w' (.slice (some ⟨a, 0, none⟩) x.ws.length ca) x.ws → Calls Try.prog 194 #[.agg #[.slice (some ⟨a, 0, none⟩) x.ws.length ca, .int .i64 x.off, .int .i64 x.rows, .int .i64 x.cols, .int .i64 x.ld]] w' (fun e w2 => e = .returned (.tuple #[.int .i64 l1, .int .i64 h1, .bool (MatM.full x)]) ∧ ∃ o n, w2 = ext w' o n) := fun w' h => by
    rw [hl1.out, hh1.out]; exact span_any x _ w' h Hwx.out hlx
  have sy : ∀ w', FS w' (.slice (some ⟨b, ob, none⟩) y.ws.length cb) y.ws → Calls Try.prog 194 #[.agg #[.slice (some ⟨b, ob, none⟩) y.ws.length cb, .int .i64 y.off, .int .i64 y.rows, .int .i64 y.cols, .int .i64 y.ld]] w' (fun e w2 => e = .returned (.tuple #[.int .i64 l2, .int .i64 h2, .bool (MatM.full y)]) ∧ ∃ o n, w2 = ext w' o n) := fun w' h => by
    rw [hl2.out, hh2.out]; exact span_any y _ w' h Hwy.out hly
  have px : MatM.full x = true → 0 < x.ws.length := fun h => by have := MatM.full_place h; omega
  have py : MatM.full y = true → 0 < y.ws.length := fun h => by have := MatM.full_place h; omega
  cases fx : MatM.full x
  · have q := hid (show meetM x y false = false by rw [hM, fx]; rfl)
    clear hM px py hne
    go_enter Try.func136, Try.ntmps136
    refine seq_stop ?_
    go_wp2
    refine stop_go (fun W hW => ?_)
    have s1 : w.heap.size < W.heap.size := by rw [hW]; simp only [World.size_alloc]; omega
    have b1 : ∀ i, W.cell? ⟨w.heap.size, i, none⟩ = (#[.slice (some ⟨a, 0, none⟩) x.ws.length ca, .int .i64 x.off, .int .i64 x.rows, .int .i64 x.cols, .int .i64 x.ld] : Array Value)[i]? := by intro i; rw [hW]; go_simp
    have s2 : w.heap.size + 1 < W.heap.size := by rw [hW]; simp only [World.size_alloc]; omega
    have b2 : ∀ i, W.cell? ⟨w.heap.size + 1, i, none⟩ = (#[.slice (some ⟨b, ob, none⟩) y.ws.length cb, .int .i64 y.off, .int .i64 y.rows, .int .i64 y.cols, .int .i64 y.ld] : Array Value)[i]? := by intro i; rw [hW]; go_simp
    have g0 : Grew w W := by rw [hW]; exact ((Grew.refl _).alloc _).alloc _
    clear hW
    have hAW := hA.grew g0
    have hBW := hB.grew g0
    go_wp2_with (first | (go_at_call 194; ((with_reducible refine (sx _ ?_).mono ?_); (focus (first | (with_reducible assumption) | (with_reducible refine FS.ext ?_ _ _; with_reducible assumption) | (with_reducible refine IS.ext ?_ _ _; with_reducible assumption) | (refine hDu _ ?_; with_reducible assumption) | (refine hOu _ ?_; with_reducible assumption) | (refine hDa _ ?_; with_reducible assumption) | (refine hDb _ ?_; with_reducible assumption) | (refine hDc _ ?_; with_reducible assumption) | (refine hDd _ ?_; with_reducible assumption) | (refine FW.fs ?_ (by omega) _; with_reducible assumption) | (refine WS.fs ?_; with_reducible assumption) | (refine FW.fs ?_ (by omega) _; assumption) | omega | assumption)); rintro e w1 ⟨rfl, o1, n1, rfl⟩)) | (go_at_call 194; ((with_reducible refine (sy _ ?_).mono ?_); (focus (first | (with_reducible assumption) | (with_reducible refine FS.ext ?_ _ _; with_reducible assumption) | (with_reducible refine IS.ext ?_ _ _; with_reducible assumption) | (refine hDu _ ?_; with_reducible assumption) | (refine hOu _ ?_; with_reducible assumption) | (refine hDa _ ?_; with_reducible assumption) | (refine hDb _ ?_; with_reducible assumption) | (refine hDc _ ?_; with_reducible assumption) | (refine hDd _ ?_; with_reducible assumption) | (refine FW.fs ?_ (by omega) _; with_reducible assumption) | (refine WS.fs ?_; with_reducible assumption) | (refine FW.fs ?_ (by omega) _; assumption) | omega | assumption)); rintro e w1 ⟨rfl, o2, n2, rfl⟩)))
    skip
    refine wp_region_R (Grew W) [] [(0,0), (0,1), (0,2), (0,3), (0,4), (0,5), (0,6), (0,7), (0,8), (0,9), (0,10), (0,11), (0,12), (0,13), (0,14), (0,15), (0,16), (0,17), (0,18), (0,19), (0,20), (0,21), (0,22), (0,23)] (by kernel_rfl) (by kernel_rfl) (fun _ _ _ _ h _ => h) (by first | exact ⟨_, _, ext_drew⟩ | exact ⟨_, _, drew_ext0⟩ | (show Grew _ _; repeat (first | (with_reducible exact Grew.refl _) | (with_reducible assumption) | (with_reducible exact Grew.same_o) | (with_reducible exact Grew.app_o) | (with_reducible refine Grew.ext ?_ _ _) | (with_reducible refine Grew.alloc ?_ _) | ((with_reducible refine Grew.setCell ?_ ?_ _); rotate_left; (focus (dsimp only; first | omega | (simp only [size_ext, World.size_alloc, Array.size_append]; omega)))) | (with_reducible refine Grew.drewN ?_ _) | (with_reducible refine Grew.drew ?_)))) ?_
    go_wp2_with (first | ((with_reducible refine wpR_id ?_); first | (refine wpR_take (v := ?_) rfl rfl ?_ ?_; rotate_left; (focus (rintro w' ⟨o', n', rfl⟩; go_simp; try with_reducible rfl)); simp only [Act.put, List.setIfInBounds_toArray, List.set_cons_zero, List.set_cons_succ]) | (refine wpR_pure (v := ?_) rfl rfl ?_ ?_; rotate_left; (focus (intro w'; go_simp; try with_reducible rfl)); simp only [Act.put, List.setIfInBounds_toArray, List.set_cons_zero, List.set_cons_succ]) | (refine wpR_takeG (v := ?_) rfl rfl rfl rfl rfl ?_ ?_; rotate_left; (focus (rintro w' ⟨o', n', rfl⟩; go_simp; try with_reducible rfl)); simp only [Act.put, List.setIfInBounds_toArray, List.set_cons_zero, List.set_cons_succ]) | (refine wpR_skip rfl rfl rfl rfl rfl rfl ?_; simp only [Act.put, List.setIfInBounds_toArray, List.set_cons_zero, List.set_cons_succ]) | (refine wpR_skipU rfl rfl rfl rfl rfl ?_; simp only [Act.put, List.setIfInBounds_toArray, List.set_cons_zero, List.set_cons_succ]) | (refine wpR_do rfl rfl (fun K hK => ?_)) | (refine wpR_doG rfl rfl rfl rfl rfl (fun K hK => ?_)) | (refine wpR_last rfl rfl (fun K hK => ?_)) | (refine wpR_nil ?_)) | ((with_reducible refine wpR_go ?_ ?_); (focus exact ⟨_, _, rfl⟩)) | ((with_reducible refine upon_id ?_); refine upon_fop rfl (by assumption) (by assumption) ?_; intro rr nn hr))
    go_ret
    exact ⟨by first | rfl | simp, by (show Grew _ _; repeat (first | (with_reducible exact Grew.refl _) | (with_reducible assumption) | (with_reducible exact Grew.same_o) | (with_reducible exact Grew.app_o) | (with_reducible refine Grew.ext ?_ _ _) | (with_reducible refine Grew.alloc ?_ _) | ((with_reducible refine Grew.setCell ?_ ?_ _); rotate_left; (focus (dsimp only; first | omega | (simp only [size_ext, World.size_alloc, Array.size_append]; omega)))) | (with_reducible refine Grew.drewN ?_ _) | (with_reducible refine Grew.drew ?_)))⟩
  · cases fy : MatM.full y
    · have q := hid (show meetM x y false = false by rw [hM, fx, fy]; rfl)
      clear hM px py hne
      go_enter Try.func136, Try.ntmps136
      refine seq_stop ?_
      go_wp2
      refine stop_go (fun W hW => ?_)
      have s1 : w.heap.size < W.heap.size := by rw [hW]; simp only [World.size_alloc]; omega
      have b1 : ∀ i, W.cell? ⟨w.heap.size, i, none⟩ = (#[.slice (some ⟨a, 0, none⟩) x.ws.length ca, .int .i64 x.off, .int .i64 x.rows, .int .i64 x.cols, .int .i64 x.ld] : Array Value)[i]? := by intro i; rw [hW]; go_simp
      have s2 : w.heap.size + 1 < W.heap.size := by rw [hW]; simp only [World.size_alloc]; omega
      have b2 : ∀ i, W.cell? ⟨w.heap.size + 1, i, none⟩ = (#[.slice (some ⟨b, ob, none⟩) y.ws.length cb, .int .i64 y.off, .int .i64 y.rows, .int .i64 y.cols, .int .i64 y.ld] : Array Value)[i]? := by intro i; rw [hW]; go_simp
      have g0 : Grew w W := by rw [hW]; exact ((Grew.refl _).alloc _).alloc _
      clear hW
      have hAW := hA.grew g0
      have hBW := hB.grew g0
      go_wp2_with (first | (go_at_call 194; ((with_reducible refine (sx _ ?_).mono ?_); (focus (first | (with_reducible assumption) | (with_reducible refine FS.ext ?_ _ _; with_reducible assumption) | (with_reducible refine IS.ext ?_ _ _; with_reducible assumption) | (refine hDu _ ?_; with_reducible assumption) | (refine hOu _ ?_; with_reducible assumption) | (refine hDa _ ?_; with_reducible assumption) | (refine hDb _ ?_; with_reducible assumption) | (refine hDc _ ?_; with_reducible assumption) | (refine hDd _ ?_; with_reducible assumption) | (refine FW.fs ?_ (by omega) _; with_reducible assumption) | (refine WS.fs ?_; with_reducible assumption) | (refine FW.fs ?_ (by omega) _; assumption) | omega | assumption)); rintro e w1 ⟨rfl, o1, n1, rfl⟩)) | (go_at_call 194; ((with_reducible refine (sy _ ?_).mono ?_); (focus (first | (with_reducible assumption) | (with_reducible refine FS.ext ?_ _ _; with_reducible assumption) | (with_reducible refine IS.ext ?_ _ _; with_reducible assumption) | (refine hDu _ ?_; with_reducible assumption) | (refine hOu _ ?_; with_reducible assumption) | (refine hDa _ ?_; with_reducible assumption) | (refine hDb _ ?_; with_reducible assumption) | (refine hDc _ ?_; with_reducible assumption) | (refine hDd _ ?_; with_reducible assumption) | (refine FW.fs ?_ (by omega) _; with_reducible assumption) | (refine WS.fs ?_; with_reducible assumption) | (refine FW.fs ?_ (by omega) _; assumption) | omega | assumption)); rintro e w1 ⟨rfl, o2, n2, rfl⟩)))
      skip
      refine wp_region_R (Grew W) [] [(0,0), (0,1), (0,2), (0,3), (0,4), (0,5), (0,6), (0,7), (0,8), (0,9), (0,10), (0,11), (0,12), (0,13), (0,14), (0,15), (0,16), (0,17), (0,18), (0,19), (0,20), (0,21), (0,22), (0,23)] (by kernel_rfl) (by kernel_rfl) (fun _ _ _ _ h _ => h) (by first | exact ⟨_, _, ext_drew⟩ | exact ⟨_, _, drew_ext0⟩ | (show Grew _ _; repeat (first | (with_reducible exact Grew.refl _) | (with_reducible assumption) | (with_reducible exact Grew.same_o) | (with_reducible exact Grew.app_o) | (with_reducible refine Grew.ext ?_ _ _) | (with_reducible refine Grew.alloc ?_ _) | ((with_reducible refine Grew.setCell ?_ ?_ _); rotate_left; (focus (dsimp only; first | omega | (simp only [size_ext, World.size_alloc, Array.size_append]; omega)))) | (with_reducible refine Grew.drewN ?_ _) | (with_reducible refine Grew.drew ?_)))) ?_
      go_wp2_with (first | ((with_reducible refine wpR_id ?_); first | (refine wpR_take (v := ?_) rfl rfl ?_ ?_; rotate_left; (focus (rintro w' ⟨o', n', rfl⟩; go_simp; try with_reducible rfl)); simp only [Act.put, List.setIfInBounds_toArray, List.set_cons_zero, List.set_cons_succ]) | (refine wpR_pure (v := ?_) rfl rfl ?_ ?_; rotate_left; (focus (intro w'; go_simp; try with_reducible rfl)); simp only [Act.put, List.setIfInBounds_toArray, List.set_cons_zero, List.set_cons_succ]) | (refine wpR_takeG (v := ?_) rfl rfl rfl rfl rfl ?_ ?_; rotate_left; (focus (rintro w' ⟨o', n', rfl⟩; go_simp; try with_reducible rfl)); simp only [Act.put, List.setIfInBounds_toArray, List.set_cons_zero, List.set_cons_succ]) | (refine wpR_skip rfl rfl rfl rfl rfl rfl ?_; simp only [Act.put, List.setIfInBounds_toArray, List.set_cons_zero, List.set_cons_succ]) | (refine wpR_skipU rfl rfl rfl rfl rfl ?_; simp only [Act.put, List.setIfInBounds_toArray, List.set_cons_zero, List.set_cons_succ]) | (refine wpR_do rfl rfl (fun K hK => ?_)) | (refine wpR_doG rfl rfl rfl rfl rfl (fun K hK => ?_)) | (refine wpR_last rfl rfl (fun K hK => ?_)) | (refine wpR_nil ?_)) | ((with_reducible refine wpR_go ?_ ?_); (focus exact ⟨_, _, rfl⟩)) | ((with_reducible refine upon_id ?_); refine upon_fop rfl (by assumption) (by assumption) ?_; intro rr nn hr))
      go_ret
      exact ⟨by first | rfl | simp, by (show Grew _ _; repeat (first | (with_reducible exact Grew.refl _) | (with_reducible assumption) | (with_reducible exact Grew.same_o) | (with_reducible exact Grew.app_o) | (with_reducible refine Grew.ext ?_ _ _) | (with_reducible refine Grew.alloc ?_ _) | ((with_reducible refine Grew.setCell ?_ ?_ _); rotate_left; (focus (dsimp only; first | omega | (simp only [size_ext, World.size_alloc, Array.size_append]; omega)))) | (with_reducible refine Grew.drewN ?_ _) | (with_reducible refine Grew.drew ?_)))⟩
    · have lx := px fx
      have ly := py fy
      have q := hid (show meetM x y false = false by rw [hM]; simp)
      clear hM px py
      go_enter Try.func136, Try.ntmps136
      refine seq_stop ?_
      go_wp2
      refine stop_go (fun W hW => ?_)
      have s1 : w.heap.size < W.heap.size := by rw [hW]; simp only [World.size_alloc]; omega
      have b1 : ∀ i, W.cell? ⟨w.heap.size, i, none⟩ = (#[.slice (some ⟨a, 0, none⟩) x.ws.length ca, .int .i64 x.off, .int .i64 x.rows, .int .i64 x.cols, .int .i64 x.ld] : Array Value)[i]? := by intro i; rw [hW]; go_simp
      have s2 : w.heap.size + 1 < W.heap.size := by rw [hW]; simp only [World.size_alloc]; omega
      have b2 : ∀ i, W.cell? ⟨w.heap.size + 1, i, none⟩ = (#[.slice (some ⟨b, ob, none⟩) y.ws.length cb, .int .i64 y.off, .int .i64 y.rows, .int .i64 y.cols, .int .i64 y.ld] : Array Value)[i]? := by intro i; rw [hW]; go_simp
      have g0 : Grew w W := by rw [hW]; exact ((Grew.refl _).alloc _).alloc _
      clear hW
      have hAW := hA.grew g0
      have hBW := hB.grew g0
      go_wp2_with (first | (go_at_call 194; ((with_reducible refine (sx _ ?_).mono ?_); (focus (first | (with_reducible assumption) | (with_reducible refine FS.ext ?_ _ _; with_reducible assumption) | (with_reducible refine IS.ext ?_ _ _; with_reducible assumption) | (refine hDu _ ?_; with_reducible assumption) | (refine hOu _ ?_; with_reducible assumption) | (refine hDa _ ?_; with_reducible assumption) | (refine hDb _ ?_; with_reducible assumption) | (refine hDc _ ?_; with_reducible assumption) | (refine hDd _ ?_; with_reducible assumption) | (refine FW.fs ?_ (by omega) _; with_reducible assumption) | (refine WS.fs ?_; with_reducible assumption) | (refine FW.fs ?_ (by omega) _; assumption) | omega | assumption)); rintro e w1 ⟨rfl, o1, n1, rfl⟩)) | (go_at_call 194; ((with_reducible refine (sy _ ?_).mono ?_); (focus (first | (with_reducible assumption) | (with_reducible refine FS.ext ?_ _ _; with_reducible assumption) | (with_reducible refine IS.ext ?_ _ _; with_reducible assumption) | (refine hDu _ ?_; with_reducible assumption) | (refine hOu _ ?_; with_reducible assumption) | (refine hDa _ ?_; with_reducible assumption) | (refine hDb _ ?_; with_reducible assumption) | (refine hDc _ ?_; with_reducible assumption) | (refine hDd _ ?_; with_reducible assumption) | (refine FW.fs ?_ (by omega) _; with_reducible assumption) | (refine WS.fs ?_; with_reducible assumption) | (refine FW.fs ?_ (by omega) _; assumption) | omega | assumption)); rintro e w1 ⟨rfl, o2, n2, rfl⟩)))
      have hnn : ∀ o n, (binOp .eql 142 (.pointer (some ⟨a, 0, none⟩)) (.pointer (some ⟨b, ob, none⟩))).run Try.prog (ext W o n) = .ok (.bool false) (ext W o n) := fun o n => hne _ (g0.ext o n) hab
      refine wp_region_R (Grew W) [] [(0,0), (0,1), (0,2), (0,3), (0,4), (0,5), (0,6), (0,7), (0,8), (0,9), (0,10), (0,11), (0,12), (0,13), (0,14), (0,15), (0,16), (0,17), (0,18), (0,19), (0,20), (0,21), (0,22), (0,23)] (by kernel_rfl) (by kernel_rfl) (fun _ _ _ _ h _ => h) (by first | exact ⟨_, _, ext_drew⟩ | exact ⟨_, _, drew_ext0⟩ | (show Grew _ _; repeat (first | (with_reducible exact Grew.refl _) | (with_reducible assumption) | (with_reducible exact Grew.same_o) | (with_reducible exact Grew.app_o) | (with_reducible refine Grew.ext ?_ _ _) | (with_reducible refine Grew.alloc ?_ _) | ((with_reducible refine Grew.setCell ?_ ?_ _); rotate_left; (focus (dsimp only; first | omega | (simp only [size_ext, World.size_alloc, Array.size_append]; omega)))) | (with_reducible refine Grew.drewN ?_ _) | (with_reducible refine Grew.drew ?_)))) ?_
      go_wp2_with (first | ((with_reducible refine wpR_id ?_); first | (refine wpR_take (v := ?_) rfl rfl ?_ ?_; rotate_left; (focus (rintro w' ⟨o', n', rfl⟩; go_simp; try with_reducible rfl)); simp only [Act.put, List.setIfInBounds_toArray, List.set_cons_zero, List.set_cons_succ]) | (refine wpR_pure (v := ?_) rfl rfl ?_ ?_; rotate_left; (focus (intro w'; go_simp; try with_reducible rfl)); simp only [Act.put, List.setIfInBounds_toArray, List.set_cons_zero, List.set_cons_succ]) | (refine wpR_takeG (v := ?_) rfl rfl rfl rfl rfl ?_ ?_; rotate_left; (focus (rintro w' ⟨o', n', rfl⟩; go_simp; try with_reducible rfl)); simp only [Act.put, List.setIfInBounds_toArray, List.set_cons_zero, List.set_cons_succ]) | (refine wpR_skip rfl rfl rfl rfl rfl rfl ?_; simp only [Act.put, List.setIfInBounds_toArray, List.set_cons_zero, List.set_cons_succ]) | (refine wpR_skipU rfl rfl rfl rfl rfl ?_; simp only [Act.put, List.setIfInBounds_toArray, List.set_cons_zero, List.set_cons_succ]) | (refine wpR_do rfl rfl (fun K hK => ?_)) | (refine wpR_doG rfl rfl rfl rfl rfl (fun K hK => ?_)) | (refine wpR_last rfl rfl (fun K hK => ?_)) | (refine wpR_nil ?_)) | ((with_reducible refine wpR_go ?_ ?_); (focus exact ⟨_, _, rfl⟩)) | ((with_reducible refine upon_id ?_); refine upon_fop rfl (by assumption) (by assumption) ?_; intro rr nn hr))
      go_ret
      exact ⟨by first | rfl | simp, by (show Grew _ _; repeat (first | (with_reducible exact Grew.refl _) | (with_reducible assumption) | (with_reducible exact Grew.same_o) | (with_reducible exact Grew.app_o) | (with_reducible refine Grew.ext ?_ _ _) | (with_reducible refine Grew.alloc ?_ _) | ((with_reducible refine Grew.setCell ?_ ?_ _); rotate_left; (focus (dsimp only; first | omega | (simp only [size_ext, World.size_alloc, Array.size_append]; omega)))) | (with_reducible refine Grew.drewN ?_ _) | (with_reducible refine Grew.drew ?_)))⟩
set_option maxRecDepth 100000 in
set_option maxHeartbeats 4000000 in
theorem gatO_any (x : VecM) (g og cap i : Nat) (w : World) (hx : x.right = true) (hi : (i : Int) < x.n) (hl : x.ws.length ≤ 1000000) :
   Calls Try.prog 160 #[.agg #[.slice (some ⟨g, og, none⟩) x.ws.length cap, .int .i64 x.off, .int .i64 x.n, .int .i64 x.inc], .int .i64 i] w
     (fun e w' => e = .returned (.pointer (some ⟨g, og + x.place i, none⟩)) ∧ ∃ o n, w' = ext w o n) := by
  have hp := VecM.right_place hx hi
  have hn := VecM.right_n hx
  have r1 : IntKind.i64.wrap (i * x.inc) = i * x.inc := IntWalk.i64_in _ (by omega)
  have r2 : IntKind.i64.wrap (x.off + i * x.inc) = x.off + i * x.inc := IntWalk.i64_in _ (by omega)
  unfold VecM.place
  clear hx
  go_enter Try.func160, Try.ntmps160
  refine seq_stop ?_
  go_wp2
  refine stop_go (fun W hW => ?_)
  have s1 : w.heap.size < W.heap.size := by rw [hW]; simp only [World.size_alloc]; omega
  have b1 : ∀ i, W.cell? ⟨w.heap.size, i, none⟩ = (#[.slice (some ⟨g, og, none⟩) x.ws.length cap, .int .i64 x.off, .int .i64 x.n, .int .i64 x.inc] : Array Value)[i]? := by intro i; rw [hW]; go_simp
  have g0 : Grew w W := by rw [hW]; exact (Grew.refl _).alloc _
  clear hW
  go_wp2
  go_ret
  exact ⟨rfl, by (show Grew _ _; repeat (first | (with_reducible exact Grew.refl _) | (with_reducible assumption) | (with_reducible exact Grew.same_o) | (with_reducible exact Grew.app_o) | (with_reducible refine Grew.ext ?_ _ _) | (with_reducible refine Grew.alloc ?_ _) | ((with_reducible refine Grew.setCell ?_ ?_ _); rotate_left; (focus (dsimp only; first | omega | (simp only [size_ext, World.size_alloc, Array.size_append]; omega)))) | (with_reducible refine Grew.drewN ?_ _) | (with_reducible refine Grew.drew ?_)))⟩
set_option maxRecDepth 100000 in
set_option maxHeartbeats 4000000 in
theorem columnsO_any (m : MatM) (x y : VecM) (bm cm bx ox cx g cg a α Ta : Nat) (s0 : Nat → Nat) (L0 : List Nat) (w : World) (ha : IsF a α) (hca : ∀ i, w.cell? ⟨Ta, i, none⟩ = (#[.float .f64 a] : Array Value)[i]?) (kTa : Ta < w.heap.size) (nTa : Ta ≠ g)
    (hF : FW w g L0) (hV : VH y L0 s0) (hm : m.good = true) (hx : x.right = true) (hy : y.right = true) (hwm : m.wf) (hxn : x.n = m.cols) (hyn : y.n = m.rows) (hy0 : 0 < y.n) (hlm : m.ws.length ≤ 1000000) (hlx : x.ws.length ≤ 1000000) (hly : y.ws.length ≤ 1000000)
    (hcolA : ∀ w' L s, But w [g] w' → FW w' g L → VH y L s → ∀ j : Nat, (j : Int) < m.cols → Calls Try.prog 149 #[.agg #[.slice (some ⟨bm, 0, none⟩) m.ws.length cm, .int .i64 m.off, .int .i64 m.rows, .int .i64 m.cols, .int .i64 m.ld], .int .i64 j] w'
      (fun e w2 => e = .returned (.agg #[.slice (some ⟨bm, 0, none⟩) m.ws.length cm, .int .i64 (m.off + j * m.ld), .int .i64 m.rows, .int .i64 1]) ∧ ∃ o n, w2 = ext w' o n))
    (rdm : ∀ i j : Nat, (i : Int) < m.rows → (j : Int) < m.cols → Reads w y g bm (m.place i j) (m.num i j)) (rdx : ∀ j : Nat, (j : Int) < x.n → Reads w y g bx (ox + x.place j) (x.num j)) (kbm : bm < w.heap.size) (kbx : bx < w.heap.size) :
   Calls Try.prog 146 #[.agg #[.slice (some ⟨bm, 0, none⟩) m.ws.length cm, .int .i64 m.off, .int .i64 m.rows, .int .i64 m.cols, .int .i64 m.ld], .agg #[.slice (some ⟨bx, ox, none⟩) x.ws.length cx, .int .i64 x.off, .int .i64 x.n, .int .i64 x.inc], .agg #[.slice (some ⟨g, 0, none⟩) y.ws.length cg, .int .i64 y.off, .int .i64 y.n, .int .i64 y.inc], .func (.func 147) #[] #[.pointer (some ⟨Ta, 0, none⟩)]] w
     (fun e w' => e = .returned (.tuple #[]) ∧ But w [g] w' ∧ ∃ L, FW w' g L ∧ VH y L (fun r => mulTo α m.num x.num (s0 r) r x.n.toNat)) := by
  have hn := MatM.good_n hm
  have hnx := VecM.right_n hx
  have hny := VecM.right_n hy
  have hltg := hF.lt
  have Hm := hid hm
  have Hx := hid hx
  have Hy := hid hy
  have Hxn := hid hxn
  have Hyn := hid hyn
  have hnlx := VecM.right_nle hx hlx
  have hnly := VecM.right_nle hy hly
  have haty : ∀ i : Nat, (i : Int) < y.n → ∀ w', Calls Try.prog 160 #[.agg #[.slice (some ⟨g, 0, none⟩) y.ws.length cg, .int .i64 y.off, .int .i64 y.n, .int .i64 y.inc], .int .i64 i] w' (fun e w2 => e = .returned (.pointer (some ⟨g, y.place i, none⟩)) ∧ ∃ o n, w2 = ext w' o n) := fun i hi w' => gat_any y g cg i w' hy hi hly
  have hatx : ∀ i : Nat, (i : Int) < x.n → ∀ w', Calls Try.prog 160 #[.agg #[.slice (some ⟨bx, ox, none⟩) x.ws.length cx, .int .i64 x.off, .int .i64 x.n, .int .i64 x.inc], .int .i64 i] w' (fun e w2 => e = .returned (.pointer (some ⟨bx, ox + x.place i, none⟩)) ∧ ∃ o n, w2 = ext w' o n) := fun i hi w' => gatO_any x bx ox cx i w' hx hi hlx
  have hatm : ∀ i j : Nat, (i : Int) < m.rows → (j : Int) < m.cols → ∀ w', Calls Try.prog 160 #[.agg #[.slice (some ⟨bm, 0, none⟩) m.ws.length cm, .int .i64 (m.off + j * m.ld), .int .i64 m.rows, .int .i64 1], .int .i64 i] w' (fun e w2 => e = .returned (.pointer (some ⟨bm, m.place i j, none⟩)) ∧ ∃ o n, w2 = ext w' o n) := fun i j hi hj w' => by
    have hr := colV_right hm hj (by omega)
    have h := gat_any (colV m j) bm cm i w' hr hi hlm
    have e1 : (colV m j).place i = m.place i j := by unfold colV VecM.place MatM.place; simp only [show (0 : Int) < m.rows by omega, if_true]; congr 1; omega
    have e2 : (colV m j).off = m.off + j * m.ld := by unfold colV; simp only [show (0 : Int) < m.rows by omega, if_true]
    rw [e1, e2] at h
    exact h
  clear hm hx hy hwm hxn hyn
  have hmc : ∀ v V x X w', IsF v V → IsF x X → (∀ i, w'.cell? ⟨Ta, i, none⟩ = (#[.float .f64 a] : Array Value)[i]?) → Calls Try.prog 147 #[.float .f64 v, .float .f64 x, .pointer (some ⟨Ta, 0, none⟩)] w' (fun e w2 => ∃ r, e = .returned (.float .f64 r) ∧ IsF r (fmul (fmul α X) V) ∧ ∃ o n, w2 = ext w' o n) := fun v V x X w' h1 h2 h3 => mcl_any v x a V X α Ta w' h1 h2 ha h3
  go_enter Try.func146, Try.ntmps146
  refine seq_stop ?_
  go_wp2
  refine stop_go (fun W hW => ?_)
  have s1 : w.heap.size < W.heap.size := by rw [hW]; simp only [World.size_alloc]; omega
  have b1 : ∀ i, W.cell? ⟨w.heap.size, i, none⟩ = (#[.slice (some ⟨bm, 0, none⟩) m.ws.length cm, .int .i64 m.off, .int .i64 m.rows, .int .i64 m.cols, .int .i64 m.ld] : Array Value)[i]? := by intro i; rw [hW]; go_simp
  have s2 : w.heap.size + 1 < W.heap.size := by rw [hW]; simp only [World.size_alloc]; omega
  have b2 : ∀ i, W.cell? ⟨w.heap.size + 1, i, none⟩ = (#[.slice (some ⟨bx, ox, none⟩) x.ws.length cx, .int .i64 x.off, .int .i64 x.n, .int .i64 x.inc] : Array Value)[i]? := by intro i; rw [hW]; go_simp
  have s3 : w.heap.size + 1 + 1 < W.heap.size := by rw [hW]; simp only [World.size_alloc]; omega
  have b3 : ∀ i, W.cell? ⟨w.heap.size + 1 + 1, i, none⟩ = (#[.slice (some ⟨g, 0, none⟩) y.ws.length cg, .int .i64 y.off, .int .i64 y.n, .int .i64 y.inc] : Array Value)[i]? := by intro i; rw [hW]; go_simp
  have g0 : Grew w W := by rw [hW]; exact (((Grew.refl _).alloc _).alloc _).alloc _
  clear hW
  have zW := g0.below.size
  have bw : ∀ w', But W [g] w' → But w [g] w' := fun w' h => ((But.refl w [g]).grew g0).trans h (fun _ hb => .inl hb)
  have c1 : ∀ w', But W [g] w' → ∀ i, w'.cell? ⟨w.heap.size, i, none⟩ = (#[.slice (some ⟨bm, 0, none⟩) m.ws.length cm, .int .i64 m.off, .int .i64 m.rows, .int .i64 m.cols, .int .i64 m.ld] : Array Value)[i]? := fun w' h i => (h.cell s1 (by simp; omega)).trans (b1 i)
  have c2 : ∀ w', But W [g] w' → ∀ i, w'.cell? ⟨w.heap.size + 1, i, none⟩ = (#[.slice (some ⟨bx, ox, none⟩) x.ws.length cx, .int .i64 x.off, .int .i64 x.n, .int .i64 x.inc] : Array Value)[i]? := fun w' h i => (h.cell s2 (by simp; omega)).trans (b2 i)
  have c3 : ∀ w', But W [g] w' → ∀ i, w'.cell? ⟨w.heap.size + 1 + 1, i, none⟩ = (#[.slice (some ⟨g, 0, none⟩) y.ws.length cg, .int .i64 y.off, .int .i64 y.n, .int .i64 y.inc] : Array Value)[i]? := fun w' h i => (h.cell s3 (by simp; omega)).trans (b3 i)
  have cA : ∀ w', But w [g] w' → ∀ i, w'.cell? ⟨Ta, i, none⟩ = (#[.float .f64 a] : Array Value)[i]? := fun w' h i => (h.cell kTa (by simpa using nTa)).trans (hca i)
  have hFW := hF.grew g0
  clear b1 b2 b3
  have t2 := c2 _ (But.refl W [g])
  go_wp2
  clear t2
  go_loopw [13] (fun c wr => ∃ (j : Nat) (L : List Nat), (j : Int) ≤ x.n ∧ c = .int .i64 j ∧ But W [g] wr ∧ FW wr g L ∧ VH y L (fun r => mulTo α m.num x.num (s0 r) r j)) (fun c _ => (x.n - intOf c).toNat)
  case atStart => exact ⟨0, L0, hnx.1, rfl, But.refl _ _, hFW, hV⟩
  case round =>
    obtain ⟨j, L, hj, rfl, hB, hL, hS⟩ := hrel
    have t1 := c1 _ hB
    have zB := hB.size
    have k1 : w.heap.size < wr.heap.size := by omega
    have t3 := c3 _ hB
    have k3 : w.heap.size + 1 + 1 < wr.heap.size := by omega
    by_cases hlt : (j : Int) < x.n
    · have hlt' := hid hlt
      have hjm : (j : Int) < m.cols := by have := Hxn.out; omega
      have hcj := hcolA wr L _ (bw _ hB) hL hS j hjm
      go_wp2_with (first | (go_at_call 149; ((with_reducible refine (hcj).mono ?_); rintro e w1 ⟨rfl, oc, nc, rfl⟩)))
      refine name_any (fun V hV => ?_)
      have gV : Grew wr V := by rw [← hV]; (show Grew _ _; repeat (first | (with_reducible exact Grew.refl _) | (with_reducible assumption) | (with_reducible exact Grew.same_o) | (with_reducible exact Grew.app_o) | (with_reducible refine Grew.ext ?_ _ _) | (with_reducible refine Grew.alloc ?_ _) | ((with_reducible refine Grew.setCell ?_ ?_ _); rotate_left; (focus (dsimp only; first | omega | (simp only [size_ext, World.size_alloc, Array.size_append]; omega)))) | (with_reducible refine Grew.drewN ?_ _) | (with_reducible refine Grew.drew ?_)))
      have BV : But W [g] V := hB.grew gV
      have cT : ∀ i, V.cell? ⟨wr.heap.size + oc.size, i, none⟩ = (#[.slice (some ⟨bm, 0, none⟩) m.ws.length cm, .int .i64 (m.off + j * m.ld), .int .i64 m.rows, .int .i64 1] : Array Value)[i]? := by subst hV; intro i; go_simp
      have kV : wr.heap.size + oc.size < V.heap.size := by rw [← hV]; simp only [World.size_alloc, size_ext]; omega
      obtain ⟨T, hT⟩ : ∃ T, wr.heap.size + oc.size = T := ⟨_, rfl⟩
      have zT : wr.heap.size ≤ T := by omega
      rw [hT] at cT kV
      simp only [hT]
      have ltg2 := hL.lt
      have cV : ∀ w', But V [g] w' → ∀ i, w'.cell? ⟨T, i, none⟩ = (#[.slice (some ⟨bm, 0, none⟩) m.ws.length cm, .int .i64 (m.off + j * m.ld), .int .i64 m.rows, .int .i64 1] : Array Value)[i]? := fun w' h i => (h.cell kV (by simp; omega)).trans (cT i)
      have bV : ∀ w', But V [g] w' → But W [g] w' := fun w' h => BV.trans h (fun _ hb => .inl hb)
      have hLV : FW V g L := hL.grew gV
      clear hV hT cT t3
      go_loopw [21] (fun c wr => ∃ (i : Nat) (L : List Nat), (i : Int) ≤ y.n ∧ c = .int .i64 i ∧ But V [g] wr ∧ FW wr g L ∧ VH y L (fun r => if r < i then mulTo α m.num x.num (s0 r) r (j + 1) else mulTo α m.num x.num (s0 r) r j)) (fun c _ => (y.n - intOf c).toNat)
      case atStart => exact ⟨0, L, hny.1, rfl, But.refl _ _, hLV, hS.congr fun r _ => by simp⟩
      case round =>
        obtain ⟨i, L2, hi, rfl, hB2, hL2, hS2⟩ := hrel
        by_cases hli : (i : Int) < y.n
        · have hli' := hid hli
          have him : (i : Int) < m.rows := by have := Hyn.out; omega
          have tT := cV _ hB2
          have t2 := c2 _ (bV _ hB2)
          have t3 := c3 _ (bV _ hB2)
          have zB2 := hB2.size
          have zBV := BV.size
          have x1 : T < wr.heap.size := by omega
          have x2 : w.heap.size + 1 < wr.heap.size := by omega
          have x3 : w.heap.size + 1 + 1 < wr.heap.size := by omega
          have hgi := hS2.get i hli
          obtain ⟨r0, hr0, hf0⟩ := hL2.get (i := y.place i) (by rw [hS2.len]; exact VecM.place_lt Hy.out hli)
          rw [hgi, if_neg (by omega)] at hf0
          obtain ⟨rm, hrm, hfm⟩ := rdm i j him hjm wr L2 _ (bw _ (bV _ hB2)) hL2 hS2
          obtain ⟨rx, hrx, hfx⟩ := rdx j hlt'.out wr L2 _ (bw _ (bV _ hB2)) hL2 hS2
          have gl := hL2.lt
          have kbm2 : bm < wr.heap.size := by omega
          have kbx2 : bx < wr.heap.size := by omega
          have kTa2 : Ta < wr.heap.size := by omega
          have fz : ∀ i, wr.frozen? ⟨g, i, none⟩ = false := hL2.notFrozen
          have hca2 : ∀ w', Grew wr w' → ∀ i, w'.cell? ⟨Ta, i, none⟩ = (#[.float .f64 a] : Array Value)[i]? := fun w' hg => cA _ (bw _ (bV _ (hB2.grew hg)))
          have hay := haty i hli
          have hax := hatx j hlt'.out
          have ham := hatm i j him hjm
          go_wp2
          refine wp_region_R (Grew wr) [19] [(0,0), (3,1), (3,5), (0,6), (3,7), (0,11), (3,12), (1,2), (3,3), (0,4), (1,8), (3,9), (0,10), (1,13), (3,14), (0,15), (1,16), (1,17), (3,18), (2,19)] (by kernel_rfl) (by kernel_rfl) (fun _ _ _ _ h _ => h) (by first | exact ⟨_, _, ext_drew⟩ | exact ⟨_, _, drew_ext0⟩ | (show Grew _ _; repeat (first | (with_reducible exact Grew.refl _) | (with_reducible assumption) | (with_reducible exact Grew.same_o) | (with_reducible exact Grew.app_o) | (with_reducible refine Grew.ext ?_ _ _) | (with_reducible refine Grew.alloc ?_ _) | ((with_reducible refine Grew.setCell ?_ ?_ _); rotate_left; (focus (dsimp only; first | omega | (simp only [size_ext, World.size_alloc, Array.size_append]; omega)))) | (with_reducible refine Grew.drewN ?_ _) | (with_reducible refine Grew.drew ?_)))) ?_
          go_wp2_with (first | ((with_reducible refine wpR_id ?_); first | (refine wpR_take (v := ?_) rfl rfl ?_ ?_; rotate_left; (focus (rintro w' ⟨o', n', rfl⟩; go_simp; try with_reducible rfl)); simp only [Act.put, List.setIfInBounds_toArray, List.set_cons_zero, List.set_cons_succ]) | (refine wpR_pure (v := ?_) rfl rfl ?_ ?_; rotate_left; (focus (intro w'; go_simp; try with_reducible rfl)); simp only [Act.put, List.setIfInBounds_toArray, List.set_cons_zero, List.set_cons_succ]) | (refine wpR_takeG (v := ?_) rfl rfl rfl rfl rfl ?_ ?_; rotate_left; (focus (rintro w' ⟨o', n', rfl⟩; go_simp; try with_reducible rfl)); simp only [Act.put, List.setIfInBounds_toArray, List.set_cons_zero, List.set_cons_succ]) | (refine wpR_skip rfl rfl rfl rfl rfl rfl ?_; simp only [Act.put, List.setIfInBounds_toArray, List.set_cons_zero, List.set_cons_succ]) | (refine wpR_skipU rfl rfl rfl rfl rfl ?_; simp only [Act.put, List.setIfInBounds_toArray, List.set_cons_zero, List.set_cons_succ]) | (refine wpR_do rfl rfl (fun K hK => ?_)) | (refine wpR_doG rfl rfl rfl rfl rfl (fun K hK => ?_)) | (refine wpR_last rfl rfl (fun K hK => ?_)) | (refine wpR_nil ?_)) | ((with_reducible refine wpR_go ?_ ?_); (focus exact ⟨_, _, rfl⟩)) | ((with_reducible refine upon_id ?_); refine upon_fop rfl (by assumption) (by assumption) ?_; intro rr nn hr) | (go_at_call 160; ((with_reducible refine (hay _).mono ?_); rintro e w1 ⟨rfl, o1, n1, rfl⟩)) | (go_at_call 160; ((with_reducible refine (ham _).mono ?_); rintro e w1 ⟨rfl, o2, n2, rfl⟩)) | (go_at_call 160; ((with_reducible refine (hax _).mono ?_); rintro e w1 ⟨rfl, o3, n3, rfl⟩)) | (go_at_call 147; ((with_reducible refine (hmc rm _ rx _ _ hfm hfx (hca2 _ (by (show Grew _ _; repeat (first | (with_reducible exact Grew.refl _) | (with_reducible assumption) | (with_reducible exact Grew.same_o) | (with_reducible exact Grew.app_o) | (with_reducible refine Grew.ext ?_ _ _) | (with_reducible refine Grew.alloc ?_ _) | ((with_reducible refine Grew.setCell ?_ ?_ _); rotate_left; (focus (dsimp only; first | omega | (simp only [size_ext, World.size_alloc, Array.size_append]; omega)))) | (with_reducible refine Grew.drewN ?_ _) | (with_reducible refine Grew.drew ?_)))))).mono ?_); rintro e w1 ⟨rc, rfl, hrc, o4, n4, rfl⟩)))
          go_roundw
          case rel =>
            refine ⟨i + 1, _, by have := hli'.out; omega, by go_num, (hB2.setc hL2 (by simp)).grew ⟨_, _, rfl⟩, (hL2.setc (k := y.place i) hr).ext _ _, (hS2.set Hy.out hli'.out).congr fun r hr => ?_⟩
            by_cases e : r = i
            · subst e; simp [mulTo]; rfl
            · rw [if_neg e]
              by_cases h2 : r < i
              · rw [if_pos h2, if_pos (by omega)]
              · rw [if_neg h2, if_neg (by omega)]
          case measure => (have := hli'.out; simp [intOf]; omega)
        · go_wp2
          go_roundw
          case rel => exact ⟨j + 1, L2, by have := hlt'.out; omega, by go_num, bV _ hB2, hL2, hS2.congr fun r hr => by rw [if_pos (by omega)]⟩
          case measure => (have := hlt'.out; simp [intOf]; omega)
    · have e : j = x.n.toNat := by omega
      go_wp2
      go_end0
      exact ⟨rfl, bw _ hB, L, hL, hS.congr fun r hr => by rw [e]⟩
/-- What is asked of a product: all is well. -/
structure MulOkO (m : MatM) (x y : VecM) (bm cm bx ox cx g cg : Nat) (rows cols : Int) (w : World) : Prop where
  M : FS w (.slice (some ⟨bm, 0, none⟩) m.ws.length cm) m.ws
  X : FS w (.slice (some ⟨bx, ox, none⟩) x.ws.length cx) x.ws
  Y : FS w (.slice (some ⟨g, 0, none⟩) y.ws.length cg) y.ws
  pM : Plain w bm
  pX : Held w bx
  pY : Plain w g
  good : m.good = true
  rx : x.right = true
  ry : y.right = true
  xn : x.n = cols
  yn : y.n = rows
  m1 : meetM (rowM y) m (decide (g = bm)) = false
  m2 : g ≠ bx
  wm : m.wf
  wx : x.wf
  wy : y.wf
  lm : m.ws.length ≤ 1000000
  lx : x.ws.length ≤ 1000000
  ly : y.ws.length ≤ 1000000
set_option maxRecDepth 100000 in
set_option maxHeartbeats 4000000 in
/-- gemv.check, where all is well. -/
theorem vcheckO_ok (m : MatM) (x y : VecM) (bm cm bx ox cx g cg : Nat) (rows cols : Int) (w : World) (H : MulOkO m x y bm cm bx ox cx g cg rows cols w) :
   Calls Try.prog 144 #[.agg #[(.slice (some ⟨bm, 0, none⟩) m.ws.length cm), .int .i64 m.off, .int .i64 m.rows, .int .i64 m.cols, .int .i64 m.ld], .int .i64 rows, .int .i64 cols, .agg #[(.slice (some ⟨bx, ox, none⟩) x.ws.length cx), .int .i64 x.off, .int .i64 x.n, .int .i64 x.inc], .agg #[(.slice (some ⟨g, 0, none⟩) y.ws.length cg), .int .i64 y.off, .int .i64 y.n, .int .i64 y.inc]] w (fun e w' => e = .returned (.int .i64 0) ∧ ∃ o n, w' = ext w o n) := by
  have cG : ∀ w', FS w' (.slice (some ⟨bm, 0, none⟩) m.ws.length cm) m.ws → Calls Try.prog 130 #[.agg #[(.slice (some ⟨bm, 0, none⟩) m.ws.length cm), .int .i64 m.off, .int .i64 m.rows, .int .i64 m.cols, .int .i64 m.ld]] w' (fun e w2 => e = .returned (.bool true) ∧ ∃ o n, w2 = ext w' o n) := fun w' h => by
    have := good_any m _ w' h H.wm; rw [H.good] at this; exact this
  have cX : ∀ w', FS w' (.slice (some ⟨bx, ox, none⟩) x.ws.length cx) x.ws → Calls Try.prog 135 #[.agg #[(.slice (some ⟨bx, ox, none⟩) x.ws.length cx), .int .i64 x.off, .int .i64 x.n, .int .i64 x.inc]] w' (fun e w2 => e = .returned (.bool true) ∧ ∃ o n, w2 = ext w' o n) := fun w' h => by
    have := right_any x _ w' h H.wx; rw [H.rx] at this; exact this
  have cY : ∀ w', FS w' (.slice (some ⟨g, 0, none⟩) y.ws.length cg) y.ws → Calls Try.prog 135 #[.agg #[(.slice (some ⟨g, 0, none⟩) y.ws.length cg), .int .i64 y.off, .int .i64 y.n, .int .i64 y.inc]] w' (fun e w2 => e = .returned (.bool true) ∧ ∃ o n, w2 = ext w' o n) := fun w' h => by
    have := right_any y _ w' h H.wy; rw [H.ry] at this; exact this
  have cM1 : ∀ w', FS w' (.slice (some ⟨g, 0, none⟩) y.ws.length cg) y.ws → FS w' (.slice (some ⟨bm, 0, none⟩) m.ws.length cm) m.ws → Plain w' g → Plain w' bm → Calls Try.prog 136 #[.agg #[(.slice (some ⟨g, 0, none⟩) y.ws.length cg), .int .i64 y.off, .int .i64 1, .int .i64 y.n, .int .i64 y.inc], .agg #[(.slice (some ⟨bm, 0, none⟩) m.ws.length cm), .int .i64 m.off, .int .i64 m.rows, .int .i64 m.cols, .int .i64 m.ld]] w' (fun e w2 => e = .returned (.bool false) ∧ ∃ o n, w2 = ext w' o n) := fun w' h1 h2 p1 p2 => by
    have := meetM_any (rowM y) m g bm cg cm w' h1 h2 p1 p2 (rowM_wf H.wy) H.wm H.ly H.lm
    rw [H.m1] at this; exact this
  have cM2 : ∀ w', FS w' (.slice (some ⟨g, 0, none⟩) y.ws.length cg) y.ws → FS w' (.slice (some ⟨bx, ox, none⟩) x.ws.length cx) x.ws → Plain w' g → Held w' bx → Calls Try.prog 136 #[.agg #[(.slice (some ⟨g, 0, none⟩) y.ws.length cg), .int .i64 y.off, .int .i64 1, .int .i64 y.n, .int .i64 y.inc], .agg #[(.slice (some ⟨bx, ox, none⟩) x.ws.length cx), .int .i64 x.off, .int .i64 1, .int .i64 x.n, .int .i64 x.inc]] w' (fun e w2 => e = .returned (.bool false) ∧ ∃ o n, w2 = ext w' o n) := fun w' h1 h2 p1 p2 => by
    exact meetO_any (rowM y) (rowM x) g bx ox cg cx w' h1 h2 p1 p2 H.m2 (rowM_wf H.wy) (rowM_wf H.wx) H.ly H.lx
  have hM := H.M
  have hX := H.X
  have hY := H.Y
  have pM := H.pM
  have pX := H.pX
  have pY := H.pY
  have d1 : (x.n != cols) = false := by simpa using H.xn
  have d2 : (y.n != rows) = false := by simpa using H.yn
  clear H
  go_enter Try.func144, Try.ntmps144
  refine seq_stop ?_
  go_wp2
  refine stop_go (fun W hW => ?_)
  have s1 : w.heap.size < W.heap.size := by rw [hW]; simp only [World.size_alloc]; omega
  have b1 : ∀ i, W.cell? ⟨w.heap.size, i, none⟩ = (#[(.slice (some ⟨bm, 0, none⟩) m.ws.length cm), .int .i64 m.off, .int .i64 m.rows, .int .i64 m.cols, .int .i64 m.ld] : Array Value)[i]? := by intro i; rw [hW]; go_simp
  have s2 : w.heap.size + 1 < W.heap.size := by rw [hW]; simp only [World.size_alloc]; omega
  have b2 : ∀ i, W.cell? ⟨w.heap.size + 1, i, none⟩ = (#[(.slice (some ⟨bx, ox, none⟩) x.ws.length cx), .int .i64 x.off, .int .i64 x.n, .int .i64 x.inc] : Array Value)[i]? := by intro i; rw [hW]; go_simp
  have s3 : w.heap.size + 1 + 1 < W.heap.size := by rw [hW]; simp only [World.size_alloc]; omega
  have b3 : ∀ i, W.cell? ⟨w.heap.size + 1 + 1, i, none⟩ = (#[(.slice (some ⟨g, 0, none⟩) y.ws.length cg), .int .i64 y.off, .int .i64 y.n, .int .i64 y.inc] : Array Value)[i]? := by intro i; rw [hW]; go_simp
  have g0 : Grew w W := by rw [hW]; exact (((Grew.refl _).alloc _).alloc _).alloc _
  clear hW
  have hMW := hM.grew g0
  have hXW := hX.grew g0
  have hYW := hY.grew g0
  go_wp2_with (first | (go_at_call 130; ((with_reducible refine (cG _ ?_).mono ?_); (focus (first | (with_reducible assumption) | (with_reducible refine FS.ext ?_ _ _; with_reducible assumption) | (with_reducible refine IS.ext ?_ _ _; with_reducible assumption) | (refine hDu _ ?_; with_reducible assumption) | (refine hOu _ ?_; with_reducible assumption) | (refine hDa _ ?_; with_reducible assumption) | (refine hDb _ ?_; with_reducible assumption) | (refine hDc _ ?_; with_reducible assumption) | (refine hDd _ ?_; with_reducible assumption) | (refine FW.fs ?_ (by omega) _; with_reducible assumption) | (refine WS.fs ?_; with_reducible assumption) | (refine FW.fs ?_ (by omega) _; assumption) | omega | assumption)); rintro e w1 ⟨rfl, oa, na, rfl⟩)) | (go_at_call 135; ((with_reducible refine (cX _ ?_).mono ?_); (focus (first | (with_reducible assumption) | (with_reducible refine FS.ext ?_ _ _; with_reducible assumption) | (with_reducible refine IS.ext ?_ _ _; with_reducible assumption) | (refine hDu _ ?_; with_reducible assumption) | (refine hOu _ ?_; with_reducible assumption) | (refine hDa _ ?_; with_reducible assumption) | (refine hDb _ ?_; with_reducible assumption) | (refine hDc _ ?_; with_reducible assumption) | (refine hDd _ ?_; with_reducible assumption) | (refine FW.fs ?_ (by omega) _; with_reducible assumption) | (refine WS.fs ?_; with_reducible assumption) | (refine FW.fs ?_ (by omega) _; assumption) | omega | assumption)); rintro e w1 ⟨rfl, ob, nb, rfl⟩)) | (go_at_call 135; ((with_reducible refine (cY _ ?_).mono ?_); (focus (first | (with_reducible assumption) | (with_reducible refine FS.ext ?_ _ _; with_reducible assumption) | (with_reducible refine IS.ext ?_ _ _; with_reducible assumption) | (refine hDu _ ?_; with_reducible assumption) | (refine hOu _ ?_; with_reducible assumption) | (refine hDa _ ?_; with_reducible assumption) | (refine hDb _ ?_; with_reducible assumption) | (refine hDc _ ?_; with_reducible assumption) | (refine hDd _ ?_; with_reducible assumption) | (refine FW.fs ?_ (by omega) _; with_reducible assumption) | (refine WS.fs ?_; with_reducible assumption) | (refine FW.fs ?_ (by omega) _; assumption) | omega | assumption)); rintro e w1 ⟨rfl, oc, nc, rfl⟩)))
  refine wp_region_R (Grew W) [] [(0,0), (0,2), (1,1), (1,3), (0,4), (0,5), (0,7), (1,6), (1,8), (1,9), (0,10), (0,11)] (by kernel_rfl) (by kernel_rfl) (fun _ _ _ _ h _ => h) (by first | exact ⟨_, _, ext_drew⟩ | exact ⟨_, _, drew_ext0⟩ | (show Grew _ _; repeat (first | (with_reducible exact Grew.refl _) | (with_reducible assumption) | (with_reducible exact Grew.same_o) | (with_reducible exact Grew.app_o) | (with_reducible refine Grew.ext ?_ _ _) | (with_reducible refine Grew.alloc ?_ _) | ((with_reducible refine Grew.setCell ?_ ?_ _); rotate_left; (focus (dsimp only; first | omega | (simp only [size_ext, World.size_alloc, Array.size_append]; omega)))) | (with_reducible refine Grew.drewN ?_ _) | (with_reducible refine Grew.drew ?_)))) ?_
  go_wp2_with (first | ((with_reducible refine wpR_id ?_); first | (refine wpR_take (v := ?_) rfl rfl ?_ ?_; rotate_left; (focus (rintro w' ⟨o', n', rfl⟩; go_simp; try with_reducible rfl)); simp only [Act.put, List.setIfInBounds_toArray, List.set_cons_zero, List.set_cons_succ]) | (refine wpR_pure (v := ?_) rfl rfl ?_ ?_; rotate_left; (focus (intro w'; go_simp; try with_reducible rfl)); simp only [Act.put, List.setIfInBounds_toArray, List.set_cons_zero, List.set_cons_succ]) | (refine wpR_takeG (v := ?_) rfl rfl rfl rfl rfl ?_ ?_; rotate_left; (focus (rintro w' ⟨o', n', rfl⟩; go_simp; try with_reducible rfl)); simp only [Act.put, List.setIfInBounds_toArray, List.set_cons_zero, List.set_cons_succ]) | (refine wpR_skip rfl rfl rfl rfl rfl rfl ?_; simp only [Act.put, List.setIfInBounds_toArray, List.set_cons_zero, List.set_cons_succ]) | (refine wpR_skipU rfl rfl rfl rfl rfl ?_; simp only [Act.put, List.setIfInBounds_toArray, List.set_cons_zero, List.set_cons_succ]) | (refine wpR_do rfl rfl (fun K hK => ?_)) | (refine wpR_doG rfl rfl rfl rfl rfl (fun K hK => ?_)) | (refine wpR_last rfl rfl (fun K hK => ?_)) | (refine wpR_nil ?_)) | ((with_reducible refine wpR_go ?_ ?_); (focus exact ⟨_, _, rfl⟩)) | ((with_reducible refine upon_id ?_); refine upon_fop rfl (by assumption) (by assumption) ?_; intro rr nn hr) | (go_at_call 196; ((with_reducible refine (vrow_any y _ _ _ _).mono ?_); rintro e w1 ⟨rfl, od, nd, rfl⟩)) | (go_at_call 196; ((with_reducible refine (vrow_any x _ _ _ _).mono ?_); rintro e w1 ⟨rfl, od, nd, rfl⟩)) | (go_at_call 136; ((with_reducible refine (cM1 _ ?_ ?_ (pY.grew (by (show Grew _ _; repeat (first | (with_reducible exact Grew.refl _) | (with_reducible assumption) | (with_reducible exact Grew.same_o) | (with_reducible exact Grew.app_o) | (with_reducible refine Grew.ext ?_ _ _) | (with_reducible refine Grew.alloc ?_ _) | ((with_reducible refine Grew.setCell ?_ ?_ _); rotate_left; (focus (dsimp only; first | omega | (simp only [size_ext, World.size_alloc, Array.size_append]; omega)))) | (with_reducible refine Grew.drewN ?_ _) | (with_reducible refine Grew.drew ?_))))) (pM.grew (by (show Grew _ _; repeat (first | (with_reducible exact Grew.refl _) | (with_reducible assumption) | (with_reducible exact Grew.same_o) | (with_reducible exact Grew.app_o) | (with_reducible refine Grew.ext ?_ _ _) | (with_reducible refine Grew.alloc ?_ _) | ((with_reducible refine Grew.setCell ?_ ?_ _); rotate_left; (focus (dsimp only; first | omega | (simp only [size_ext, World.size_alloc, Array.size_append]; omega)))) | (with_reducible refine Grew.drewN ?_ _) | (with_reducible refine Grew.drew ?_)))))).mono ?_); (focus (first | (with_reducible assumption) | (with_reducible refine FS.ext ?_ _ _; with_reducible assumption) | (with_reducible refine IS.ext ?_ _ _; with_reducible assumption) | (refine hDu _ ?_; with_reducible assumption) | (refine hOu _ ?_; with_reducible assumption) | (refine hDa _ ?_; with_reducible assumption) | (refine hDb _ ?_; with_reducible assumption) | (refine hDc _ ?_; with_reducible assumption) | (refine hDd _ ?_; with_reducible assumption) | (refine FW.fs ?_ (by omega) _; with_reducible assumption) | (refine WS.fs ?_; with_reducible assumption) | (refine FW.fs ?_ (by omega) _; assumption) | omega | assumption)); (focus (first | (with_reducible assumption) | (with_reducible refine FS.ext ?_ _ _; with_reducible assumption) | (with_reducible refine IS.ext ?_ _ _; with_reducible assumption) | (refine hDu _ ?_; with_reducible assumption) | (refine hOu _ ?_; with_reducible assumption) | (refine hDa _ ?_; with_reducible assumption) | (refine hDb _ ?_; with_reducible assumption) | (refine hDc _ ?_; with_reducible assumption) | (refine hDd _ ?_; with_reducible assumption) | (refine FW.fs ?_ (by omega) _; with_reducible assumption) | (refine WS.fs ?_; with_reducible assumption) | (refine FW.fs ?_ (by omega) _; assumption) | omega | assumption)); rintro e w1 ⟨rfl, oe, ne, rfl⟩)) | (go_at_call 136; ((with_reducible refine (cM2 _ ?_ ?_ (pY.grew (by (show Grew _ _; repeat (first | (with_reducible exact Grew.refl _) | (with_reducible assumption) | (with_reducible exact Grew.same_o) | (with_reducible exact Grew.app_o) | (with_reducible refine Grew.ext ?_ _ _) | (with_reducible refine Grew.alloc ?_ _) | ((with_reducible refine Grew.setCell ?_ ?_ _); rotate_left; (focus (dsimp only; first | omega | (simp only [size_ext, World.size_alloc, Array.size_append]; omega)))) | (with_reducible refine Grew.drewN ?_ _) | (with_reducible refine Grew.drew ?_))))) (pX.grew (by (show Grew _ _; repeat (first | (with_reducible exact Grew.refl _) | (with_reducible assumption) | (with_reducible exact Grew.same_o) | (with_reducible exact Grew.app_o) | (with_reducible refine Grew.ext ?_ _ _) | (with_reducible refine Grew.alloc ?_ _) | ((with_reducible refine Grew.setCell ?_ ?_ _); rotate_left; (focus (dsimp only; first | omega | (simp only [size_ext, World.size_alloc, Array.size_append]; omega)))) | (with_reducible refine Grew.drewN ?_ _) | (with_reducible refine Grew.drew ?_)))))).mono ?_); (focus (first | (with_reducible assumption) | (with_reducible refine FS.ext ?_ _ _; with_reducible assumption) | (with_reducible refine IS.ext ?_ _ _; with_reducible assumption) | (refine hDu _ ?_; with_reducible assumption) | (refine hOu _ ?_; with_reducible assumption) | (refine hDa _ ?_; with_reducible assumption) | (refine hDb _ ?_; with_reducible assumption) | (refine hDc _ ?_; with_reducible assumption) | (refine hDd _ ?_; with_reducible assumption) | (refine FW.fs ?_ (by omega) _; with_reducible assumption) | (refine WS.fs ?_; with_reducible assumption) | (refine FW.fs ?_ (by omega) _; assumption) | omega | assumption)); (focus (first | (with_reducible assumption) | (with_reducible refine FS.ext ?_ _ _; with_reducible assumption) | (with_reducible refine IS.ext ?_ _ _; with_reducible assumption) | (refine hDu _ ?_; with_reducible assumption) | (refine hOu _ ?_; with_reducible assumption) | (refine hDa _ ?_; with_reducible assumption) | (refine hDb _ ?_; with_reducible assumption) | (refine hDc _ ?_; with_reducible assumption) | (refine hDd _ ?_; with_reducible assumption) | (refine FW.fs ?_ (by omega) _; with_reducible assumption) | (refine WS.fs ?_; with_reducible assumption) | (refine FW.fs ?_ (by omega) _; assumption) | omega | assumption)); rintro e w1 ⟨rfl, of, nf, rfl⟩)))
  go_ret
  exact ⟨rfl, by (show Grew _ _; repeat (first | (with_reducible exact Grew.refl _) | (with_reducible assumption) | (with_reducible exact Grew.same_o) | (with_reducible exact Grew.app_o) | (with_reducible refine Grew.ext ?_ _ _) | (with_reducible refine Grew.alloc ?_ _) | ((with_reducible refine Grew.setCell ?_ ?_ _); rotate_left; (focus (dsimp only; first | omega | (simp only [size_ext, World.size_alloc, Array.size_append]; omega)))) | (with_reducible refine Grew.drewN ?_ _) | (with_reducible refine Grew.drew ?_)))⟩
set_option maxRecDepth 100000 in
set_option maxHeartbeats 4000000 in
/-- gemv.Mul, where all is well. -/
theorem mulO_ok (a α b β : Nat) (m : MatM) (x y : VecM) (bm cm bx ox cx g cg : Nat) (w : World) (ha : IsF a α) (hb : IsF b β) (H : MulOkO m x y bm cm bx ox cx g cg m.rows m.cols w) (hF : FW w g y.ws) (hy0 : 0 < y.n) (hmg : bm = g → m.ws = y.ws) (kbm : bm < w.heap.size) (kbx : bx < w.heap.size) :
   Calls Try.prog 71 #[.float .f64 a, .agg #[(.slice (some ⟨bm, 0, none⟩) m.ws.length cm), .int .i64 m.off, .int .i64 m.rows, .int .i64 m.cols, .int .i64 m.ld], .agg #[(.slice (some ⟨bx, ox, none⟩) x.ws.length cx), .int .i64 x.off, .int .i64 x.n, .int .i64 x.inc], .float .f64 b, .agg #[(.slice (some ⟨g, 0, none⟩) y.ws.length cg), .int .i64 y.off, .int .i64 y.n, .int .i64 y.inc]] w
     (fun e w' => e = .returned (.int .i64 0) ∧ But w [g] w' ∧ ∃ L, FW w' g L ∧ VH y L (fun r => mulTo α m.num x.num (beginF β (y.num r)) r x.n.toNat)) := by
  have hck : ∀ w', Grew w w' → Calls Try.prog 144 #[.agg #[(.slice (some ⟨bm, 0, none⟩) m.ws.length cm), .int .i64 m.off, .int .i64 m.rows, .int .i64 m.cols, .int .i64 m.ld], .int .i64 m.rows, .int .i64 m.cols, .agg #[(.slice (some ⟨bx, ox, none⟩) x.ws.length cx), .int .i64 x.off, .int .i64 x.n, .int .i64 x.inc], .agg #[(.slice (some ⟨g, 0, none⟩) y.ws.length cg), .int .i64 y.off, .int .i64 y.n, .int .i64 y.inc]] w' (fun e w2 => e = .returned (.int .i64 0) ∧ ∃ o n, w2 = ext w' o n) := fun w' hg =>
    vcheckO_ok m x y bm cm bx ox cx g cg m.rows m.cols w' ⟨H.M.grew hg, H.X.grew hg, H.Y.grew hg, H.pM.grew hg, H.pX.grew hg, H.pY.grew hg, H.good, H.rx, H.ry, H.xn, H.yn, H.m1, H.m2, H.wm, H.wx, H.wy, H.lm, H.lx, H.ly⟩
  have hltg := hF.lt
  have H' := hid H
  have hny := VecM.right_n H.ry
  have Hmg := hid hmg
  have d0 : decide (0 < y.n) = true := by simpa using hy0
  clear H hmg
  go_enter Try.func71, Try.ntmps71
  refine seq_stop ?_
  go_wp2
  refine stop_go (fun W hW => ?_)
  have s1 : w.heap.size < W.heap.size := by rw [hW]; simp only [World.size_alloc]; omega
  have b1 : ∀ i, W.cell? ⟨w.heap.size, i, none⟩ = (#[.float .f64 a] : Array Value)[i]? := by intro i; rw [hW]; go_simp
  have s2 : w.heap.size + 1 < W.heap.size := by rw [hW]; simp only [World.size_alloc]; omega
  have b2 : ∀ i, W.cell? ⟨w.heap.size + 1, i, none⟩ = (#[(.slice (some ⟨bm, 0, none⟩) m.ws.length cm), .int .i64 m.off, .int .i64 m.rows, .int .i64 m.cols, .int .i64 m.ld] : Array Value)[i]? := by intro i; rw [hW]; go_simp
  have s3 : w.heap.size + 1 + 1 < W.heap.size := by rw [hW]; simp only [World.size_alloc]; omega
  have b3 : ∀ i, W.cell? ⟨w.heap.size + 1 + 1, i, none⟩ = (#[(.slice (some ⟨bx, ox, none⟩) x.ws.length cx), .int .i64 x.off, .int .i64 x.n, .int .i64 x.inc] : Array Value)[i]? := by intro i; rw [hW]; go_simp
  have s4 : w.heap.size + 1 + 1 + 1 < W.heap.size := by rw [hW]; simp only [World.size_alloc]; omega
  have b4 : ∀ i, W.cell? ⟨w.heap.size + 1 + 1 + 1, i, none⟩ = (#[(.slice (some ⟨g, 0, none⟩) y.ws.length cg), .int .i64 y.off, .int .i64 y.n, .int .i64 y.inc] : Array Value)[i]? := by intro i; rw [hW]; go_simp
  have g0 : Grew w W := by rw [hW]; exact ((((Grew.refl _).alloc _).alloc _).alloc _).alloc _
  clear hW
  have hFW := hF.grew g0
  have zW := g0.below.size
  have hmf := hmf
  go_wp2_with (first | (go_at_call 144; ((with_reducible refine (hck _ (g0.trans (by (show Grew _ _; repeat (first | (with_reducible exact Grew.refl _) | (with_reducible assumption) | (with_reducible exact Grew.same_o) | (with_reducible exact Grew.app_o) | (with_reducible refine Grew.ext ?_ _ _) | (with_reducible refine Grew.alloc ?_ _) | ((with_reducible refine Grew.setCell ?_ ?_ _); rotate_left; (focus (dsimp only; first | omega | (simp only [size_ext, World.size_alloc, Array.size_append]; omega)))) | (with_reducible refine Grew.drewN ?_ _) | (with_reducible refine Grew.drew ?_)))))).mono ?_); rintro e w1 ⟨rfl, oa, na, rfl⟩)))
  refine name_call (fun V hV => ?_)
  have gV : Grew W V := by rw [← hV]; (show Grew _ _; repeat (first | (with_reducible exact Grew.refl _) | (with_reducible assumption) | (with_reducible exact Grew.same_o) | (with_reducible exact Grew.app_o) | (with_reducible refine Grew.ext ?_ _ _) | (with_reducible refine Grew.alloc ?_ _) | ((with_reducible refine Grew.setCell ?_ ?_ _); rotate_left; (focus (dsimp only; first | omega | (simp only [size_ext, World.size_alloc, Array.size_append]; omega)))) | (with_reducible refine Grew.drewN ?_ _) | (with_reducible refine Grew.drew ?_)))
  have gw : Grew w V := g0.trans gV
  have zV := gV.below.size
  have hFV := hF.grew gw
  have c1 : ∀ w', But V [g] w' → ∀ i, w'.cell? ⟨w.heap.size, i, none⟩ = (#[.float .f64 a] : Array Value)[i]? := fun w' h i => (h.cell (by omega) (by simp; omega)).trans ((gV.cell s1).trans (b1 i))
  have c2 : ∀ w', But V [g] w' → ∀ i, w'.cell? ⟨w.heap.size + 1, i, none⟩ = (#[(.slice (some ⟨bm, 0, none⟩) m.ws.length cm), .int .i64 m.off, .int .i64 m.rows, .int .i64 m.cols, .int .i64 m.ld] : Array Value)[i]? := fun w' h i => (h.cell (by omega) (by simp; omega)).trans ((gV.cell s2).trans (b2 i))
  have c3 : ∀ w', But V [g] w' → ∀ i, w'.cell? ⟨w.heap.size + 1 + 1, i, none⟩ = (#[(.slice (some ⟨bx, ox, none⟩) x.ws.length cx), .int .i64 x.off, .int .i64 x.n, .int .i64 x.inc] : Array Value)[i]? := fun w' h i => (h.cell (by omega) (by simp; omega)).trans ((gV.cell s3).trans (b3 i))
  have c4 : ∀ w', But V [g] w' → ∀ i, w'.cell? ⟨w.heap.size + 1 + 1 + 1, i, none⟩ = (#[(.slice (some ⟨g, 0, none⟩) y.ws.length cg), .int .i64 y.off, .int .i64 y.n, .int .i64 y.inc] : Array Value)[i]? := fun w' h i => (h.cell (by omega) (by simp; omega)).trans ((gV.cell s4).trans (b4 i))
  clear hV b1 b2 b3 b4 hck
  refine (begin_any b β y g cg y.num y.ws V hb hFV (VH.start y) H'.out.ry H'.out.ly).mono ?_
  rintro e w1 ⟨rfl, hB1, L1, hL1, hS1⟩
  have t1 := c2 _ hB1
  have t2 := c3 _ hB1
  have t3 := c4 _ hB1
  have z1 := hB1.size
  have k1 : w.heap.size + 1 < w1.heap.size := by omega
  have k2 : w.heap.size + 1 + 1 < w1.heap.size := by omega
  have k3 : w.heap.size + 1 + 1 + 1 < w1.heap.size := by omega
  have bw : ∀ w', But w1 [g] w' → But w [g] w' := fun w' h => (((But.refl w [g]).grew gw).trans hB1 (fun _ hb => .inl hb)).trans h (fun _ hb => .inl hb)
  have bV : ∀ w', But w1 [g] w' → But V [g] w' := fun w' h => hB1.trans h (fun _ hb => .inl hb)
  have hcol : Calls Try.prog 146 #[.agg #[(.slice (some ⟨bm, 0, none⟩) m.ws.length cm), .int .i64 m.off, .int .i64 m.rows, .int .i64 m.cols, .int .i64 m.ld], .agg #[(.slice (some ⟨bx, ox, none⟩) x.ws.length cx), .int .i64 x.off, .int .i64 x.n, .int .i64 x.inc], .agg #[(.slice (some ⟨g, 0, none⟩) y.ws.length cg), .int .i64 y.off, .int .i64 y.n, .int .i64 y.inc], .func (.func 147) #[] #[.pointer (some ⟨w.heap.size, 0, none⟩)]] w1
     (fun e w' => e = .returned (.tuple #[]) ∧ But w1 [g] w' ∧ ∃ L, FW w' g L ∧ VH y L (fun r => mulTo α m.num x.num (beginF β (y.num r)) r x.n.toNat)) := by
    have H := H'.out
    refine columnsO_any m x y bm cm bx ox cx g cg a α w.heap.size (fun r => beginF β (y.num r)) L1 w1 ha (fun i => c1 _ hB1 i) (by omega) (by omega) hL1 hS1 H.good H.rx H.ry H.wm H.xn H.yn hy0 H.lm H.lx H.ly ?_ ?_ ?_ (by have := gw.below.size; omega) (by have := gw.below.size; omega)
    · intro w' L s hB hL hS j hj
      have hr0 : 0 < m.rows := by have := H.yn; omega
      by_cases hbg : bm = g
      · have hl : L.length = m.ws.length := by rw [hS.len, Hmg.out hbg]
        have h1 := hL.fs (by rw [hl]; have := H.lm; omega) cm
        rw [hl, ← hbg] at h1
        have := col_any (withL m L) (.slice (some ⟨bm, 0, none⟩) m.ws.length cm) j w' h1 (by rw [withL_good hl]; exact H.good) H.wm hj
        have e : (colV (withL m L) j).off = m.off + j * m.ld := by unfold colV withL; simp [hr0]
        rw [e] at this
        exact this
      · have h1 := (bw _ hB).fs_ne H.M hbg
        have := col_any m (.slice (some ⟨bm, 0, none⟩) m.ws.length cm) j w' h1 H.good H.wm hj
        have e : (colV m j).off = m.off + j * m.ld := by unfold colV; simp [hr0]
        rw [e] at this
        exact this
    · intro i j hi hj w' L s hB hL hS
      have hpl := (MatM.places H.good).lt i j (by omega) (by omega)
      by_cases hbg : bm = g
      · have hm1 := H.m1
        rw [show decide (g = bm) = true by simpa using hbg.symm] at hm1
        obtain ⟨r, h1, h2⟩ := hL.get (i := m.place i j) (by rw [hS.len, ← Hmg.out hbg]; exact hpl)
        refine ⟨r, by rw [hbg]; exact h1, ?_⟩
        rw [hS.rest _ (fun q hq => meet_no H.ry H.good hm1 hq hi hj), ← Hmg.out hbg] at h2
        exact h2
      · have h1 := (bw _ hB).fs_ne H.M hbg
        obtain ⟨blk, o, h2, _, h3⟩ := h1.at.2 (by omega)
        cases h2
        obtain ⟨r, h4, h5⟩ := h3 _ hpl
        rw [Nat.zero_add] at h4
        exact ⟨r, h4, h5⟩
    · intro j hj w' L s hB hL hS
      have hpl := VecM.place_lt H.rx hj
      obtain ⟨blk, o, h2, hb2, h3⟩ := H.X.at.2 (by omega)
      cases h2
      obtain ⟨r, h4, h5⟩ := h3 _ hpl
      exact ⟨r, ((bw _ hB).cell hb2 (by simpa using fun e => H.m2 e.symm)).trans h4, h5⟩
  go_wp2_with (first | (go_at_call 146; ((with_reducible refine (hcol).mono ?_); rintro e w1 ⟨rfl, hB2, L2, hL2, hS2⟩)))
  go_ret
  exact ⟨rfl, bw _ hB2, L2, hL2, hS2⟩
end Go.Proofs.Ytcmggfpcbijcjaa
end
section
/-
  The law SumsLists: its example, its walk.
-/
set_option linter.unusedSimpArgs false
set_option linter.unusedVariables false
open Go Go.RowKit Sedge
namespace Go.Proofs.Ytcmggfpcbijcjaa
def L123 : List Nat := [4607182418800017408, 4611686018427387904, 4613937818241073152]
def L456 : List Nat := [4616189618054758400, 4617315517961601024, 4618441417868443648]
theorem wf_small (ws : List Nat) (off n inc : Int) (h1 : I64 off) (h2 : I64 n) (h3 : I64 inc) : VecM.wf ⟨ws, off, n, inc⟩ := ⟨h1, h2, h3⟩
theorem i64_small {x : Int} (h : -1000000 ≤ x ∧ x ≤ 1000000) : I64 x := by unfold I64; omega
theorem most_ex (D : Value) (w : World) (hD : FS w D L123) :
    Calls Try.prog 127 #[.agg #[D, .int .i64 0, .int .i64 3, .int .i64 1]] w (fun e w' => e = .returned (.tuple #[.int .i64 2, .int .i64 0]) ∧ ∃ o n, w' = ext w o n) := by
  have h := most_ok ⟨L123, 0, 3, 1⟩ D w hD (wf_small _ _ _ _ (i64_small (by decide)) (i64_small (by decide)) (i64_small (by decide))) (by decide +kernel)
  have e : mostTo ⟨L123, 0, 3, 1⟩ (Int.toNat 3) = 2 := by decide +kernel
  simp only [e] at h
  exact h
theorem dot_ex (D E : Value) (w : World) (hD : FS w D L123) (hE : FS w E L456) :
    Calls Try.prog 128 #[.agg #[D, .int .i64 0, .int .i64 3, .int .i64 1], .agg #[E, .int .i64 0, .int .i64 3, .int .i64 1]] w
      (fun e w' => ∃ b, e = .returned (.tuple #[.float .f64 b, .int .i64 0]) ∧ IsF b 4629700416936869888 ∧ ∃ o n, w' = ext w o n) := by
  have hw : ∀ ws, VecM.wf ⟨ws, 0, 3, 1⟩ := fun ws => wf_small _ _ _ _ (i64_small (by decide)) (i64_small (by decide)) (i64_small (by decide))
  have h := dot_ok ⟨L123, 0, 3, 1⟩ ⟨L456, 0, 3, 1⟩ D E w hD hE (hw _) (hw _) (by decide +kernel) (by decide +kernel) rfl
  have e : dotTo ⟨L123, 0, 3, 1⟩ ⟨L456, 0, 3, 1⟩ (Int.toNat 3) = 4629700416936869888 := by decide +kernel
  simp only [e] at h
  exact h
theorem eq_fact {r s X Y : Nat} (hr : IsF r X) (hs : IsF s Y) : (FloatKind.f64.format.order r s == some .eq) = feq X Y := by
  unfold feq; rw [← hr.order hs]; rfl
theorem eq_is {r s X Y : Nat} (hr : IsF r X) (hs : IsF s Y) {v : Bool} (h : feq X Y = v) : (FloatKind.f64.format.order r s == some .eq) = v := (eq_fact hr hs).trans h
set_option maxRecDepth 100000 in
set_option maxHeartbeats 1000000 in
theorem awake05 (w : World) : Calls Try.prog 35 #[] w (fun e w' => e = .returned (.bool true) ∧ ∃ o n, w' = ext w o n) := by
  have h1 : ∀ x ∈ L123, IsF x x := by decide +kernel
  have h2 : ∀ x ∈ L456, IsF x x := by decide +kernel
  have H1 := hid h1
  have H2 := hid h2
  clear h1 h2
  go_enter Try.func35, Try.ntmps35
  go_wp2_with (first | (go_at_call 127; ((with_reducible refine (most_ex _ _ ?_).mono ?_); (focus (repeat (first | exact FS.lit L123 (by decide) H1.out 3 _ (by simp only [size_ext, World.size_alloc]) | exact FS.lit L123 (by decide) H1.out 3 _ rfl | refine FS.alloc ?_ _ | refine FS.ext ?_ _ _))); rintro e w1 ⟨rfl, o1, n1, rfl⟩)) | (go_at_call 128; ((with_reducible refine (dot_ex _ _ _ ?_ ?_).mono ?_); (focus (repeat (first | exact FS.lit L123 (by decide) H1.out 3 _ (by simp only [size_ext, World.size_alloc]) | exact FS.lit L123 (by decide) H1.out 3 _ rfl | refine FS.alloc ?_ _ | refine FS.ext ?_ _ _))); (focus (repeat (first | exact FS.lit L456 (by decide) H2.out 3 _ (by simp only [size_ext, World.size_alloc]) | exact FS.lit L456 (by decide) H2.out 3 _ rfl | refine FS.alloc ?_ _ | refine FS.ext ?_ _ _))); rintro e w1 ⟨b, rfl, hb, o1, n1, rfl⟩; have q : (FloatKind.f64.format.order b 4629700416936869888 == some .eq) = true := eq_is hb (Y := 4629700416936869888) (by decide +kernel) (by decide +kernel))))
  go_ret
  exact ⟨rfl, by (show Grew _ _; repeat (first | (with_reducible exact Grew.refl _) | (with_reducible assumption) | (with_reducible exact Grew.same_o) | (with_reducible exact Grew.app_o) | (with_reducible refine Grew.ext ?_ _ _) | (with_reducible refine Grew.alloc ?_ _) | ((with_reducible refine Grew.setCell ?_ ?_ _); rotate_left; (focus (dsimp only; first | omega | (simp only [size_ext, World.size_alloc, Array.size_append]; omega)))) | (with_reducible refine Grew.drewN ?_ _) | (with_reducible refine Grew.drew ?_)))⟩
theorem fsumTo_length (l : List Nat) : fsumTo l l.length = fsumTo l l.length := rfl
set_option maxRecDepth 100000 in
set_option maxHeartbeats 1000000 in
theorem sumsLists_any (D : Value) (ws : List Nat) (w : World) (hD : FS w D ws) :
    Calls Try.prog 4 #[D] w (fun e w' => e = .returned (.bool true) ∧ ∃ o n, w' = ext w o n) := by
  obtain ⟨a, cap, rfl⟩ := hD.shape
  have hl := hD.len
  have HD := hD.at.2
  have hl' : (ws.length : Int) ≤ 9223372036854775807 := by omega
  by_cases h100 : (100 : Int) < (ws.length : Int)
  · go_enter Try.func4, Try.ntmps4
    go_wp2_with (first | (go_at_call 35; ((with_reducible refine (awake05 _).mono ?_); rintro e w1 ⟨rfl, o1, n1, rfl⟩)))
    go_ret
    exact ⟨rfl, by (show Grew _ _; repeat (first | (with_reducible exact Grew.refl _) | (with_reducible assumption) | (with_reducible exact Grew.same_o) | (with_reducible exact Grew.app_o) | (with_reducible refine Grew.ext ?_ _ _) | (with_reducible refine Grew.alloc ?_ _) | ((with_reducible refine Grew.setCell ?_ ?_ _); rotate_left; (focus (dsimp only; first | omega | (simp only [size_ext, World.size_alloc, Array.size_append]; omega)))) | (with_reducible refine Grew.drewN ?_ _) | (with_reducible refine Grew.drew ?_)))⟩
  · go_enter Try.func4, Try.ntmps4
    go_wp2_with (first | (go_at_call 35; ((with_reducible refine (awake05 _).mono ?_); rintro e w1 ⟨rfl, o1, n1, rfl⟩)))
    go_loopw [3, 4] (fun s c wr => ∃ k b : Nat, k ≤ ws.length ∧ c = .int .i64 k ∧ s = .float .f64 b ∧ IsF b (fsumTo ws k) ∧ ∃ o n, wr = ext w o n) (fun _ c _ => ws.length - (intOf c).toNat)
    case atStart => exact ⟨0, 0, Nat.zero_le _, rfl, rfl, isF_zero, _, _, rfl⟩
    case round =>
      obtain ⟨k, s, hk, rfl, rfl, hs, oo, nn, hwr⟩ := hrel
      subst hwr
      by_cases hlt : k < ws.length
      · obtain ⟨blk, o, rfl, hblk, hc⟩ := HD (by omega)
        obtain ⟨b, hb, hx⟩ := hc k hlt
        clear hc HD
        go_wp2_with (first | (go_at_call 36; ((with_reducible refine (plus_any _ _ _ _ _ hs hx).mono ?_); rintro e w1 ⟨rr, rfl, hr, o1, n1, rfl⟩)))
        go_roundw
        case rel => exact ⟨k + 1, rr, by omega, by go_num, rfl, hr, _, _, rfl⟩
        case measure => simp [intOf]; omega
      · have e : k = ws.length := by omega
        subst e
        have d1 : decide (fsumTo ws ws.length = fsumTo ws ws.length) = true := by simp
        have d2 : decide (fgreatest ws = fgreatest ws) = true := by simp
        clear HD
        go_wp2_with (first | (go_at_call 38; ((with_reducible refine (sum_any _ ws _ ?_).mono ?_); (focus (first | (with_reducible assumption) | (with_reducible refine FS.ext ?_ _ _; with_reducible assumption) | (with_reducible refine IS.ext ?_ _ _; with_reducible assumption) | (refine hDu _ ?_; with_reducible assumption) | (refine hOu _ ?_; with_reducible assumption) | (refine hDa _ ?_; with_reducible assumption) | (refine hDb _ ?_; with_reducible assumption) | (refine hDc _ ?_; with_reducible assumption) | (refine hDd _ ?_; with_reducible assumption) | (refine FW.fs ?_ (by omega) _; with_reducible assumption) | (refine WS.fs ?_; with_reducible assumption) | (refine FW.fs ?_ (by omega) _; assumption) | omega | assumption)); rintro e w1 ⟨r1, rfl, hr1, o1, n1, rfl⟩)) | (go_at_call 39; ((with_reducible refine (greatest_any _ ws _ ?_).mono ?_); (focus (first | (with_reducible assumption) | (with_reducible refine FS.ext ?_ _ _; with_reducible assumption) | (with_reducible refine IS.ext ?_ _ _; with_reducible assumption) | (refine hDu _ ?_; with_reducible assumption) | (refine hOu _ ?_; with_reducible assumption) | (refine hDa _ ?_; with_reducible assumption) | (refine hDb _ ?_; with_reducible assumption) | (refine hDc _ ?_; with_reducible assumption) | (refine hDd _ ?_; with_reducible assumption) | (refine FW.fs ?_ (by omega) _; with_reducible assumption) | (refine WS.fs ?_; with_reducible assumption) | (refine FW.fs ?_ (by omega) _; assumption) | omega | assumption)); rintro e w1 ⟨r2, rfl, hr2, rfl⟩)) | (go_at_call 40; ((with_reducible refine (rgreatest_any _ ws _ ?_).mono ?_); (focus (first | (with_reducible assumption) | (with_reducible refine FS.ext ?_ _ _; with_reducible assumption) | (with_reducible refine IS.ext ?_ _ _; with_reducible assumption) | (refine hDu _ ?_; with_reducible assumption) | (refine hOu _ ?_; with_reducible assumption) | (refine hDa _ ?_; with_reducible assumption) | (refine hDb _ ?_; with_reducible assumption) | (refine hDc _ ?_; with_reducible assumption) | (refine hDd _ ?_; with_reducible assumption) | (refine FW.fs ?_ (by omega) _; with_reducible assumption) | (refine WS.fs ?_; with_reducible assumption) | (refine FW.fs ?_ (by omega) _; assumption) | omega | assumption)); rintro e w1 ⟨r3, rfl, hr3, o1, n1, rfl⟩)) | (go_at_call 37; first | ((with_reducible refine (same_any _ _ _ _ _ hr1 hs).mono ?_); rintro e w1 ⟨rfl, rfl⟩) | ((with_reducible refine (same_any _ _ _ _ _ hr2 hr3).mono ?_); rintro e w1 ⟨rfl, rfl⟩)) | (go_at_call 35; ((with_reducible refine (awake05 _).mono ?_); rintro e w1 ⟨rfl, o1, n1, rfl⟩)))
        go_ret
        exact ⟨rfl, by (show Grew _ _; repeat (first | (with_reducible exact Grew.refl _) | (with_reducible assumption) | (with_reducible exact Grew.same_o) | (with_reducible exact Grew.app_o) | (with_reducible refine Grew.ext ?_ _ _) | (with_reducible refine Grew.alloc ?_ _) | ((with_reducible refine Grew.setCell ?_ ?_ _); rotate_left; (focus (dsimp only; first | omega | (simp only [size_ext, World.size_alloc, Array.size_append]; omega)))) | (with_reducible refine Grew.drewN ?_ _) | (with_reducible refine Grew.drew ?_)))⟩
end Go.Proofs.Ytcmggfpcbijcjaa
end
section
/-
  Contract: view.Dense with its numbers written out; the example of layer 4.
-/
set_option linter.unusedSimpArgs false
set_option linter.unusedVariables false
open Go Go.RowKit Sedge
namespace Go.Proofs.Ytcmggfpcbijcjaa
/-- The list that Dense makes. -/
def denseTo (r c : Nat) (l : List Nat) (k : Nat) : List Nat := writes (List.replicate (r * c) 0) (fun k => k / c + k % c * r) (fun k => l.getD k 0) k
def denseL (r c : Nat) (l : List Nat) : List Nat := denseTo r c l (min l.length (r * c))
set_option maxRecDepth 100000 in
set_option maxHeartbeats 1000000 in
/-- view.Dense, of sizes within 64. -/
theorem dense_any (r c : Nat) (aL : Option Addr) (ls : List Nat) (w : World) (hL : FS w (.slice aL ls.length ls.length) ls) (hr : r ≤ 64) (hc : c ≤ 64) (hr1 : 1 ≤ r) (hc1 : 1 ≤ c) (hlen : ls.length = r * c) :
   Calls Try.prog 69 #[.int .i64 r, .int .i64 c, .slice aL ls.length ls.length] w (fun e w' => ∃ v, e = .returned (.agg #[v, .int .i64 0, .int .i64 r, .int .i64 c, .int .i64 r]) ∧ WS w' w.heap.size v (denseL r c ls) ∧ ∃ o n, w' = ext w o n) := by
  have hm : r * c ≤ 64 * 64 := Nat.mul_le_mul hr hc
  have h2 : IntKind.i64.wrap ((r : Int) * c) = (r : Int) * c := IntWalk.i64_in _ (by rw [← Int.natCast_mul]; omega)
  have hlL := hL.len
  have d1 : decide ((r : Int) < 0) = false := by simp
  have d2 : decide ((c : Int) < 0) = false := by simp
  have d3 : decide ((64 : Int) < (r : Int)) = false := by simp; omega
  have d4 : decide ((64 : Int) < (c : Int)) = false := by simp; omega
  have d5 : (ls.length : Int) = (r : Int) * c := by rw [hlen, Int.natCast_mul]
  have d6 : decide ((1 : Int) ≤ (r : Int)) = true := by simp; omega
  go_enter Try.func69, Try.ntmps69
  refine seq_stop ?_
  go_wp2
  refine stop_go (fun W hW => ?_)
  have s1 : w.heap.size < W.heap.size := by rw [hW]; simp only [World.size_alloc]; omega
  have b1 : ∀ i, W.cell? ⟨w.heap.size, i, none⟩ = (#[.slice none 0 0, .int .i64 0, .int .i64 0, .int .i64 0, .int .i64 0] : Array Value)[i]? := by intro i; rw [hW]; go_simp
  have f1 : ∀ i, W.frozen? ⟨w.heap.size, i, none⟩ = false := by intro i; rw [hW]; go_simp
  have g0 : Grew w W := by rw [hW]; exact (Grew.refl _).alloc _
  clear hW
  have hLW : FS W (.slice aL ls.length ls.length) ls := hL.grew g0
  go_wp2_with (at_make; refine make_f (L := (r : Int) * (c : Int)) finfo (Grew.refl W) _ _ rfl rfl (r * c) (Int.natCast_mul r c).symm rfl rfl (by omega) ?_; intro oo nn k hk ho; have hF := ho.made)
  refine name_any (fun V hV => ?_)
  have gV : Grew W V := by rw [← hV]; (show Grew _ _; repeat (first | (with_reducible exact Grew.refl _) | (with_reducible assumption) | (with_reducible exact Grew.same_o) | (with_reducible exact Grew.app_o) | (with_reducible refine Grew.ext ?_ _ _) | (with_reducible refine Grew.alloc ?_ _) | ((with_reducible refine Grew.setCell ?_ ?_ _); rotate_left; (focus (dsimp only; first | omega | (simp only [size_ext, World.size_alloc, Array.size_append]; omega)))) | (with_reducible refine Grew.drewN ?_ _) | (with_reducible refine Grew.drew ?_)))
  have sV := gV.below.size
  have k1 : w.heap.size < V.heap.size := by omega
  have k3 : W.heap.size + oo.size < V.heap.size := by rw [← hV]; simp only [World.size_alloc, size_ext]; omega
  have c1 : ∀ i, V.cell? ⟨w.heap.size, i, none⟩ = (#[.slice none 0 0, .int .i64 0, .int .i64 0, .int .i64 0, .int .i64 0] : Array Value)[i]? := fun i => (gV.cell s1).trans (b1 i)
  have z1 : ∀ i, V.frozen? ⟨w.heap.size, i, none⟩ = false := fun i => (gV.frozen s1).trans (f1 i)
  have c3 : ∀ i, V.cell? ⟨W.heap.size + oo.size, i, none⟩ = (#[.slice (some ⟨k, 0, none⟩) (r * c) (r * c), .int .i64 0, .int .i64 r, .int .i64 c, .int .i64 r] : Array Value)[i]? := by subst hV; intro i; go_simp
  have hFV : FW V k (List.replicate (r * c) 0) := by rw [← hV]; (repeat (first | (with_reducible assumption) | ((with_reducible refine FW.ext_set ?_ ?_ ?_ _); rotate_left; (focus (simp only [size_setCell', World.size_alloc, size_ext, size_upd]; omega)); (focus (dsimp only; omega))) | ((with_reducible refine FW.setCell_ne ?_ ?_ _); rotate_left; (focus (dsimp only; omega))) | (with_reducible refine FW.ext ?_ _ _) | (with_reducible refine FW.alloc ?_ _)))
  have hLV : FS V (.slice aL ls.length ls.length) ls := hLW.grew gV
  have gl := hFV.lt
  have q1 : w.heap.size ≠ k := by omega
  have q3 : W.heap.size + oo.size ≠ k := by have := hF.lt; simp only [size_ext] at this; omega
  have HL := hid hlen
  clear hV b1 f1 hL ho
  go_loopw [43] (fun s wr => ∃ (i : Nat) (cs : Array Value) (o : Array Obj) (n : Nat), i ≤ r * c ∧ s = .int .i64 i ∧ wr = ext (upd V k cs) o n ∧ CF cs (denseTo r c ls i)) (fun s _ => r * c - (intOf s).toNat)
  case atStart =>
    obtain ⟨cs, h1, h2⟩ := hFV.self
    exact ⟨0, cs, #[], _, Nat.zero_le _, rfl, by rw [h1]; exact ext_zero.symm, h2⟩
  case round =>
    obtain ⟨i, cs, o2, n2, hi, rfl, hwr, hcs⟩ := hrel
    subst hwr
    by_cases hlt : i < r * c
    · have e1 : i / c < r := by rw [Nat.div_lt_iff_lt_mul (by omega)]; exact hlt
      have e2 : i % c < c := Nat.mod_lt _ (by omega)
      have e3 : i % c * r + r ≤ c * r := by have := Nat.mul_le_mul_right r e2; rw [Nat.succ_mul] at this; exact this
      have e4 : c * r = r * c := Nat.mul_comm c r
      obtain ⟨p, hp⟩ : ∃ p : Nat, p = i / c := ⟨_, rfl⟩
      obtain ⟨q, hq⟩ : ∃ q : Nat, q = i % c := ⟨_, rfl⟩
      rw [← hp] at e1
      rw [← hq] at e2 e3
      have hq1 : (i : Int).tdiv c = (p : Int) := by rw [hp]; rfl
      have hq2 : (i : Int).tmod c = (q : Int) := by rw [hq]; rfl
      have hq3 : (i : Int) / c = (p : Int) := by rw [hp]; rfl
      have hq4 : (i : Int) % c = (q : Int) := by rw [hq]; rfl
      have m0 : (q : Int) * r = ((q * r : Nat) : Int) := (Int.natCast_mul q r).symm
      have w1 : IntKind.i64.wrap ((q : Int) * r) = (q : Int) * r := IntWalk.i64_in _ (by omega)
      have w2 : IntKind.i64.wrap ((p : Int) + (q : Int) * r) = (p : Int) + (q : Int) * r := IntWalk.i64_in _ (by omega)
      have n0 : ((p : Int) + (q : Int) * r).toNat = p + q * r := by omega
      have n1 : 0 ≤ (p : Int) + (q : Int) * r := by omega
      have n3 : (p : Int) + (q : Int) * r < ((r * c : Nat) : Int) := by omega
      have n2' : (c : Int) ≠ 0 := by omega
      have n6 : (p : Int) + (q : Int) * r < (r : Int) * c := by rw [← Int.natCast_mul r c]; exact n3
      have n8 : p + q * r < r * c := by omega
      have n5 : ¬ c = 0 := by omega
      have w0 : IntKind.i64.wrap (p : Int) = p := IntWalk.i64_in _ (by omega)
      have w3 : IntKind.i64.wrap (q : Int) = q := IntWalk.i64_in _ (by omega)
      have n4 : ((c : Int) == 0) = false := by simp; omega
      have fz : ∀ i, V.frozen? ⟨k, i, none⟩ = false := hFV.notFrozen
      have hlen2 : (denseTo r c ls i).length = r * c := by simp [denseTo]
      obtain ⟨r0, hr0, _⟩ := (hFV.mk' hcs o2 n2).get (i := p + q * r) (by rw [hlen2]; omega)
      have hr1 := (cell_ext (by simpa using gl)).symm.trans hr0
      obtain ⟨blk, o, rfl, hblk, hc⟩ := hLW.at.2 (by omega)
      obtain ⟨b, hb0, hf⟩ := hc i (by omega)
      have hb := (gV.cell hblk).trans hb0
      have qb : blk ≠ k := by omega
      have kb : blk < V.heap.size := by omega
      have Hp := hid hp
      have Hq := hid hq
      clear hb0 hc hr0 m0 hp hq
      go_wp2
      refine wp_region_R (Over V k) [] [(0,0), (0,1), (0,2), (0,3), (0,4), (0,5), (0,6), (0,7), (0,8), (0,9), (0,10), (0,11), (0,12), (0,13), (1,14)] (by kernel_rfl) (by kernel_rfl) (fun _ _ _ _ h _ => h) ⟨_, _, _, ext_drew⟩ ?_
      go_wp2_with (first | ((with_reducible refine wpR_id ?_); first | (refine wpR_take (v := ?_) rfl rfl ?_ ?_; rotate_left; (focus (rintro w' ⟨cs', o', n', rfl⟩; go_simp; try with_reducible rfl)); simp only [Act.put, List.setIfInBounds_toArray, List.set_cons_zero, List.set_cons_succ]) | (refine wpR_pure (v := ?_) rfl rfl ?_ ?_; rotate_left; (focus (intro w'; go_simp; try with_reducible rfl)); simp only [Act.put, List.setIfInBounds_toArray, List.set_cons_zero, List.set_cons_succ]) | (refine wpR_takeG (v := ?_) rfl rfl rfl rfl rfl ?_ ?_; rotate_left; (focus (rintro w' ⟨cs', o', n', rfl⟩; go_simp; try with_reducible rfl)); simp only [Act.put, List.setIfInBounds_toArray, List.set_cons_zero, List.set_cons_succ]) | (refine wpR_skip rfl rfl rfl rfl rfl rfl ?_; simp only [Act.put, List.setIfInBounds_toArray, List.set_cons_zero, List.set_cons_succ]) | (refine wpR_skipU rfl rfl rfl rfl rfl ?_; simp only [Act.put, List.setIfInBounds_toArray, List.set_cons_zero, List.set_cons_succ]) | (refine wpR_do rfl rfl (fun K hK => ?_)) | (refine wpR_doG rfl rfl rfl rfl rfl (fun K hK => ?_)) | (refine wpR_last rfl rfl (fun K hK => ?_)) | (refine wpR_nil ?_)) | ((with_reducible refine wpR_go ?_ ?_); (focus exact ⟨_, _, _, rfl⟩)) | ((with_reducible refine upon_id ?_); refine upon_fop rfl (by assumption) (by assumption) ?_; intro rr nn hr))
      go_roundw
      case rel =>
        refine ⟨i + 1, _, _, _, by omega, by go_num, rfl, ?_⟩
        have h8 := hcs.set (i := p + q * r) hf
        unfold denseTo at h8 ⊢; unfold writes
        rw [← Hp.out, ← Hq.out]; exact h8
      case measure => simp [intOf]; omega
    · have e : i = r * c := by omega
      subst e
      have hfw : FW (ext (upd V k cs) o2 n2) k (denseL r c ls) := by unfold denseL; rw [HL.out, Nat.min_self]; exact hFV.mk' hcs _ _
      have gu : Grew w (upd V k cs) := (g0.trans gV).upd (by omega) cs
      go_wp2
      refine bodyPost_ret (v := .agg #[.slice (some ⟨k, 0, none⟩) (r * c) (r * c), .int .i64 0, .int .i64 r, .int .i64 c, .int .i64 r]) (by simp [results, Try.results69, go_sem, *]) rfl ?_
      exact ⟨_, rfl, ⟨k, r * c, by simp [denseL, denseTo], by omega, by (repeat (first | (with_reducible assumption) | ((with_reducible refine FW.ext_set ?_ ?_ ?_ _); rotate_left; (focus (simp only [size_setCell', World.size_alloc, size_ext, size_upd]; omega)); (focus (dsimp only; omega))) | ((with_reducible refine FW.setCell_ne ?_ ?_ _); rotate_left; (focus (dsimp only; omega))) | (with_reducible refine FW.ext ?_ _ _) | (with_reducible refine FW.alloc ?_ _))), by simp [denseL, denseTo]; omega⟩, by (show Grew _ _; repeat (first | (with_reducible exact Grew.refl _) | (with_reducible assumption) | (with_reducible exact Grew.same_o) | (with_reducible exact Grew.app_o) | (with_reducible refine Grew.ext ?_ _ _) | (with_reducible refine Grew.alloc ?_ _) | ((with_reducible refine Grew.setCell ?_ ?_ _); rotate_left; (focus (dsimp only; first | omega | (simp only [size_ext, World.size_alloc, Array.size_append]; omega)))) | (with_reducible refine Grew.drewN ?_ _) | (with_reducible refine Grew.drew ?_)))⟩
end Go.Proofs.Ytcmggfpcbijcjaa
end
section
/-
  GemvClose: the product that is made, its numbers; New with its room.
-/
set_option linter.unusedSimpArgs false
set_option linter.unusedVariables false
open Go Go.RowKit Sedge
namespace Go.Proofs.Ytcmggfpcbijcjaa
set_option maxRecDepth 100000 in
/-- straightedgeref03.New. -/
theorem rnewc_any (r c : Nat) (w : World) (hr : r ≤ 1000) (hc : c ≤ 1000) :
   Calls Try.prog 68 #[.int .i64 r, .int .i64 c] w (fun e w' => ∃ k, e = .returned (.agg #[.int .i64 r, .int .i64 c, .slice (some ⟨k, 0, none⟩) (r * c) (r * c)]) ∧ w.heap.size ≤ k ∧ FW w' k (List.replicate (r * c) 0) ∧ ∃ o n, w' = ext w o n) := by
  have hm : r * c ≤ 1000 * 1000 := Nat.mul_le_mul hr hc
  have h2 : IntKind.i64.wrap ((r : Int) * c) = (r : Int) * c := IntWalk.i64_in _ (by rw [← Int.natCast_mul]; omega)
  go_enter Try.func68, Try.ntmps68
  refine seq_stop ?_
  go_wp2
  refine stop_go (fun W hW => ?_)
  have s1 : w.heap.size < W.heap.size := by rw [hW]; simp only [World.size_alloc]; omega
  have b1 : ∀ i, W.cell? ⟨w.heap.size, i, none⟩ = (#[.int .i64 0, .int .i64 0, .slice none 0 0] : Array Value)[i]? := by intro i; rw [hW]; go_simp
  have f1 : ∀ i, W.frozen? ⟨w.heap.size, i, none⟩ = false := by intro i; rw [hW]; go_simp
  have g0 : Grew w W := by rw [hW]; exact (Grew.refl _).alloc _
  clear hW
  go_wp2_with (at_make; refine make_f (L := (r : Int) * (c : Int)) finfo (Grew.refl W) _ _ rfl rfl (r * c) (Int.natCast_mul r c).symm rfl rfl (by omega) ?_; intro oo nn k hk ho; have hF := ho.made)
  refine bodyPost_ret (v := .agg #[.int .i64 r, .int .i64 c, .slice (some ⟨k, 0, none⟩) (r * c) (r * c)]) (by simp [results, Try.results68, go_sem, *]) rfl ?_
  exact ⟨_, rfl, by omega, by (repeat (first | (with_reducible assumption) | ((with_reducible refine FW.ext_set ?_ ?_ ?_ _); rotate_left; (focus (simp only [size_setCell', World.size_alloc, size_ext, size_upd]; omega)); (focus (dsimp only; omega))) | ((with_reducible refine FW.setCell_ne ?_ ?_ _); rotate_left; (focus (dsimp only; omega))) | (with_reducible refine FW.ext ?_ _ _) | (with_reducible refine FW.alloc ?_ _))), by (show Grew _ _; repeat (first | (with_reducible exact Grew.refl _) | (with_reducible assumption) | (with_reducible exact Grew.same_o) | (with_reducible exact Grew.app_o) | (with_reducible refine Grew.ext ?_ _ _) | (with_reducible refine Grew.alloc ?_ _) | ((with_reducible refine Grew.setCell ?_ ?_ _); rotate_left; (focus (dsimp only; first | omega | (simp only [size_ext, World.size_alloc, Array.size_append]; omega)))) | (with_reducible refine Grew.drewN ?_ _) | (with_reducible refine Grew.drew ?_)))⟩
theorem denseL_length (r c : Nat) (l : List Nat) : (denseL r c l).length = r * c := by simp [denseL, denseTo]
theorem dense_num {r c : Nat} {l : List Nat} (hl : l.length = r * c) {i j : Nat} (hi : i < r) (hj : j < c) : (denseL r c l).getD (i + j * r) 0 = l.getD (i * c + j) 0 := by
  have hc : 0 < c := by omega
  have hk : i * c + j < r * c := by
    have := Nat.mul_le_mul_right c (show i + 1 ≤ r by omega)
    rw [Nat.add_mul] at this; omega
  have e1 : (i * c + j) / c = i := by rw [Nat.add_comm, Nat.add_mul_div_right _ _ hc, Nat.div_eq_of_lt hj, Nat.zero_add]
  have e2 : (i * c + j) % c = j := by rw [Nat.add_comm, Nat.add_mul_mod_self_right, Nat.mod_eq_of_lt hj]
  unfold denseL denseTo
  rw [hl, Nat.min_self]
  have h := writes_at (l := List.replicate (r * c) 0) (p := fun k => k / c + k % c * r) (f := fun k => l.getD k 0) (r * c) (fun s t hs ht e => ?_) (fun t ht => ?_) (i * c + j) hk
  · simp only [e1, e2] at h
    exact h
  · have hs1 : s / c < r := by rw [Nat.div_lt_iff_lt_mul hc]; exact hs
    have ht1 : t / c < r := by rw [Nat.div_lt_iff_lt_mul hc]; exact ht
    have hr : 0 < r := by omega
    have m1 : (s / c + s % c * r) % r = s / c := by rw [Nat.add_mul_mod_self_right, Nat.mod_eq_of_lt hs1]
    have m2 : (t / c + t % c * r) % r = t / c := by rw [Nat.add_mul_mod_self_right, Nat.mod_eq_of_lt ht1]
    have n1 : (s / c + s % c * r) / r = s % c := by rw [Nat.add_mul_div_right _ _ hr, Nat.div_eq_of_lt hs1, Nat.zero_add]
    have n2 : (t / c + t % c * r) / r = t % c := by rw [Nat.add_mul_div_right _ _ hr, Nat.div_eq_of_lt ht1, Nat.zero_add]
    have q1 : s / c = t / c := by rw [← m1, ← m2, e]
    have q2 : s % c = t % c := by rw [← n1, ← n2, e]
    rw [← Nat.div_add_mod s c, ← Nat.div_add_mod t c, q1, q2]
  · have ht1 : t / c < r := by rw [Nat.div_lt_iff_lt_mul hc]; exact ht
    have ht2 : t % c < c := Nat.mod_lt _ hc
    rw [List.length_replicate]
    have := Nat.mul_le_mul_right r (show t % c + 1 ≤ c by omega)
    rw [Nat.add_mul, Nat.mul_comm c r] at this
    omega
theorem mul_cl (r c : Nat) (TT X Y : List Nat) (hT : TT.length = r * c) (hr : r ≤ 12) (hr1 : 1 ≤ r) (hc : c ≤ 12) (hc1 : 1 ≤ c) (gm cm bx ox cx g cg : Nat) (w : World) (hM : FW w gm (denseL r c TT)) (hX : FS w (.slice (some ⟨bx, ox, none⟩) X.length cx) X) (hcX : c ≤ X.length) (hXl : X.length ≤ 1000) (hZ : FW w g Y) (hY : Y.length = r)
    (n1 : g ≠ gm) (n2 : g ≠ bx) :
    Calls Try.prog 71 #[.float .f64 4607182418800017408, .agg #[.slice (some ⟨gm, 0, none⟩) (r * c) cm, .int .i64 0, .int .i64 r, .int .i64 c, .int .i64 r], .agg #[.slice (some ⟨bx, ox, none⟩) X.length cx, .int .i64 0, .int .i64 c, .int .i64 1], .float .f64 4607182418800017408, .agg #[.slice (some ⟨g, 0, none⟩) Y.length cg, .int .i64 0, .int .i64 Y.length, .int .i64 1]] w
      (fun e w' => e = .returned (.int .i64 0) ∧ But w [g] w' ∧ ∃ Z, FW w' g Z ∧ Z.length = r ∧ ∀ i, i < r → ∃ S : Nat → Nat, S 0 = fmul 4607182418800017408 (Y.getD i 0) ∧ (∀ j, j < c → S (j + 1) = fadd (S j) (fmul (fmul 4607182418800017408 (X.getD j 0)) (TT.getD (i * c + j) 0))) ∧ Z.getD i 0 = S c) := by
  have hm : r * c ≤ 12 * 12 := Nat.mul_le_mul hr hc
  have hDl := denseL_length r c TT
  have hms : ((c : Int) - 1) * r + ((r : Int) - 1) < (r * c : Nat) := by
    rw [Int.sub_mul, Int.one_mul, Int.natCast_mul, Int.mul_comm]; omega
  have h := mulO_ok 4607182418800017408 4607182418800017408 4607182418800017408 4607182418800017408 ⟨denseL r c TT, 0, r, c, r⟩ ⟨X, 0, c, 1⟩ ⟨Y, 0, r, 1⟩ gm cm bx ox cx g cg w (by decide +kernel) (by decide +kernel)
    ⟨hM.fs (by rw [hDl]; omega) cm, hX, hZ.fs (by omega) cg, FW.plain hM, held_fs hX (by omega), FW.plain hZ,
      by simp only [MatM.good, fitsB, hDl, Bool.and_eq_true, Bool.or_eq_true, decide_eq_true_eq]; refine ⟨by omega, .inr ⟨by omega, by omega⟩⟩,
      by simp only [VecM.right, fitsB, Bool.and_eq_true, Bool.or_eq_true, decide_eq_true_eq]; refine ⟨by omega, .inr ⟨by omega, by omega⟩⟩,
      by simp only [VecM.right, fitsB, Bool.and_eq_true, Bool.or_eq_true, decide_eq_true_eq]; refine ⟨by omega, .inr ⟨by omega, by omega⟩⟩,
      rfl, rfl, by rw [show decide (g = gm) = false by simpa using n1]; simp [meetM], n2, by simp [MatM.wf, I64]; omega, by simp [VecM.wf, I64]; omega, by simp [VecM.wf, I64]; omega, by show (denseL r c TT).length ≤ _; rw [hDl]; omega, by show X.length ≤ _; omega, by show Y.length ≤ _; omega⟩
    hZ (by show (0 : Int) < r; omega) (fun e => absurd e.symm n1) hM.lt (by obtain ⟨blk, o, e, hb, _⟩ := hX.at.2 (by omega); cases e; exact hb)
  rw [show (denseL r c TT).length = r * c from hDl] at h
  rw [hY]
  simp only at h
  rw [hY] at h
  refine h.mono fun e w' hh => ?_
  obtain ⟨rfl, q1, Z, q2, q3⟩ := hh
  refine ⟨rfl, q1, Z, q2, by rw [q3.len]; exact hY, fun i hi => ?_⟩
  have hz := q3.get i (by show (i : Int) < r; omega)
  refine ⟨fun j => mulTo 4607182418800017408 (MatM.num ⟨denseL r c TT, 0, r, c, r⟩) (VecM.num ⟨X, 0, c, 1⟩) (beginF 4607182418800017408 (VecM.num ⟨Y, 0, r, 1⟩ i)) i j, ?_, fun j hj => ?_, ?_⟩
  · show beginF _ _ = _
    have e0 : VecM.num ⟨Y, 0, r, 1⟩ i = Y.getD i 0 := by unfold VecM.num VecM.place; simp
    rw [e0]
    unfold beginF
    rw [if_neg (by decide +kernel)]
  · show fadd _ _ = _
    have e1 : VecM.num ⟨X, 0, c, 1⟩ j = X.getD j 0 := by unfold VecM.num VecM.place; simp
    have e2 : MatM.num ⟨denseL r c TT, 0, r, c, r⟩ i j = TT.getD (i * c + j) 0 := by
      rw [← dense_num hT hi hj]
      unfold MatM.num MatM.place
      simp only
      congr 1
      rw [Int.zero_add, ← Int.natCast_mul, ← Int.natCast_add, Int.toNat_natCast]
    rw [e1, e2]
  · have e3 : VecM.place ⟨Y, 0, r, 1⟩ i = i := by unfold VecM.place; simp
    rw [e3] at hz
    rw [hz]
    simp
end Go.Proofs.Ytcmggfpcbijcjaa
end
