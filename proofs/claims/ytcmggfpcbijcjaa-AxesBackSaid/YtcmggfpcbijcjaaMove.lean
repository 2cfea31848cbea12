/-
  Contracts: rows, what swaps numbers, rows that change places (layers 3 and 4).
-/
import Derived.Test.YtcmggfpcbijcjaaTabs
set_option linter.unusedSimpArgs false
set_option linter.unusedVariables false
open Go Go.RowKit Sedge
namespace Go.Proofs.Ytcmggfpcbijcjaa
/-- A row, as a vector. -/
def rowV (m : MatM) (i : Nat) : VecM := ⟨m.ws, if 0 < m.cols then m.off + i else m.off, m.cols, m.ld⟩
set_option maxRecDepth 100000 in
set_option maxHeartbeats 1000000 in
theorem row_any (x : MatM) (D : Value) (i : Nat) (w : World) (hD : FS w D x.ws) (hx : x.good = true) (hwf : x.wf) (hi : (i : Int) < x.rows) :
   Calls Try.prog 132 #[.agg #[D, .int .i64 x.off, .int .i64 x.rows, .int .i64 x.cols, .int .i64 x.ld], .int .i64 i] w
     (fun e w' => e = .returned (.agg #[D, .int .i64 (rowV x i).off, .int .i64 x.cols, .int .i64 x.ld]) ∧ ∃ o n, w' = ext w o n) := by
  have hn := MatM.good_n hx
  obtain ⟨aD, capD, rfl⟩ := hD.shape
  have k1 : (!x.good) = false := by simp [hx]
  have hlen := hD.len
  have Hw := hid hwf
  have k3 : decide ((i : Int) < 0) = false := by simp
  have k4 : decide (x.rows ≤ (i : Int)) = false := by simp; omega
  by_cases hc : 0 < x.cols
  · have hp := MatM.good_place hx (i := i) (j := 0) hi (by simpa using hc)
    simp only [Int.natCast_zero, Int.zero_mul, Int.add_zero] at hp
    have e : (rowV x i).off = x.off + i := by simp [rowV, hc]
    have Hx := hid hx
    rw [e]
    clear hx hwf e
    go_enter Try.func132, Try.ntmps132
    refine seq_stop ?_
    go_wp2
    refine stop_go (fun W hW => ?_)
    have s1 : w.heap.size < W.heap.size := by rw [hW]; simp only [World.size_alloc]; omega
    have b1 : ∀ i, W.cell? ⟨w.heap.size, i, none⟩ = (#[.slice aD x.ws.length capD, .int .i64 x.off, .int .i64 x.rows, .int .i64 x.cols, .int .i64 x.ld] : Array Value)[i]? := by intro i; rw [hW]; go_simp
    have f1 : ∀ i, W.frozen? ⟨w.heap.size, i, none⟩ = false := by intro i; rw [hW]; go_simp
    have s2 : w.heap.size + 1 < W.heap.size := by rw [hW]; simp only [World.size_alloc]; omega
    have b2 : ∀ i, W.cell? ⟨w.heap.size + 1, i, none⟩ = (#[.slice none 0 0, .int .i64 0, .int .i64 0, .int .i64 0] : Array Value)[i]? := by intro i; rw [hW]; go_simp
    have f2 : ∀ i, W.frozen? ⟨w.heap.size + 1, i, none⟩ = false := by intro i; rw [hW]; go_simp
    have g0 : Grew w W := by rw [hW]; exact ((Grew.refl _).alloc _).alloc _
    clear hW
    have hDW : FS W (.slice aD x.ws.length capD) x.ws := hD.grew g0
    go_wp2_with (first | (go_at_call 130; ((with_reducible refine (good_any x _ _ ?_ Hw.out).mono ?_); (focus (first | assumption | (refine FS.ext ?_ _ _; assumption) | (refine IS.ext ?_ _ _; assumption) | (refine hDu _ ?_; assumption) | (refine hOu _ ?_; assumption) | (refine FW.fs ?_ (by omega) _; assumption) | (refine WS.fs ?_; assumption) | omega)); rintro e w1 ⟨rfl, o1, n1, rfl⟩)))
    refine bodyPost_ret (v := .agg #[.slice aD x.ws.length capD, .int .i64 (x.off + i), .int .i64 x.cols, .int .i64 x.ld]) (by simp [results, Try.results132, go_sem, *]) rfl ?_
    exact ⟨rfl, by (show Grew _ _; repeat (first | (with_reducible exact Grew.refl _) | (with_reducible assumption) | (with_reducible refine Grew.ext ?_ _ _) | (with_reducible refine Grew.alloc ?_ _) | ((with_reducible refine Grew.setCell ?_ ?_ _); rotate_left; (focus (dsimp only; first | omega | (simp only [size_ext, World.size_alloc, Array.size_append]; omega)))) | (with_reducible refine Grew.drewN ?_ _) | (with_reducible refine Grew.drew ?_)))⟩
  · have e : (rowV x i).off = x.off := by simp [rowV, hc]
    have Hx := hid hx
    rw [e]
    clear hx hwf e
    go_enter Try.func132, Try.ntmps132
    refine seq_stop ?_
    go_wp2
    refine stop_go (fun W hW => ?_)
    have s1 : w.heap.size < W.heap.size := by rw [hW]; simp only [World.size_alloc]; omega
    have b1 : ∀ i, W.cell? ⟨w.heap.size, i, none⟩ = (#[.slice aD x.ws.length capD, .int .i64 x.off, .int .i64 x.rows, .int .i64 x.cols, .int .i64 x.ld] : Array Value)[i]? := by intro i; rw [hW]; go_simp
    have f1 : ∀ i, W.frozen? ⟨w.heap.size, i, none⟩ = false := by intro i; rw [hW]; go_simp
    have s2 : w.heap.size + 1 < W.heap.size := by rw [hW]; simp only [World.size_alloc]; omega
    have b2 : ∀ i, W.cell? ⟨w.heap.size + 1, i, none⟩ = (#[.slice none 0 0, .int .i64 0, .int .i64 0, .int .i64 0] : Array Value)[i]? := by intro i; rw [hW]; go_simp
    have f2 : ∀ i, W.frozen? ⟨w.heap.size + 1, i, none⟩ = false := by intro i; rw [hW]; go_simp
    have g0 : Grew w W := by rw [hW]; exact ((Grew.refl _).alloc _).alloc _
    clear hW
    have hDW : FS W (.slice aD x.ws.length capD) x.ws := hD.grew g0
    go_wp2_with (first | (go_at_call 130; ((with_reducible refine (good_any x _ _ ?_ Hw.out).mono ?_); (focus (first | assumption | (refine FS.ext ?_ _ _; assumption) | (refine IS.ext ?_ _ _; assumption) | (refine hDu _ ?_; assumption) | (refine hOu _ ?_; assumption) | (refine FW.fs ?_ (by omega) _; assumption) | (refine WS.fs ?_; assumption) | omega)); rintro e w1 ⟨rfl, o1, n1, rfl⟩)))
    refine bodyPost_ret (v := .agg #[.slice aD x.ws.length capD, .int .i64 x.off, .int .i64 x.cols, .int .i64 x.ld]) (by simp [results, Try.results132, go_sem, *]) rfl ?_
    exact ⟨rfl, by (show Grew _ _; repeat (first | (with_reducible exact Grew.refl _) | (with_reducible assumption) | (with_reducible refine Grew.ext ?_ _ _) | (with_reducible refine Grew.alloc ?_ _) | ((with_reducible refine Grew.setCell ?_ ?_ _); rotate_left; (focus (dsimp only; first | omega | (simp only [size_ext, World.size_alloc, Array.size_append]; omega)))) | (with_reducible refine Grew.drewN ?_ _) | (with_reducible refine Grew.drew ?_)))⟩

/-- The numbers at p k and q k change places, one pair behind the other. -/
def swaps (l : List Nat) (p q : Nat → Nat) : Nat → List Nat
  | 0 => l
  | k + 1 => ((swaps l p q k).set (p k) ((swaps l p q k).getD (q k) 0)).set (q k) ((swaps l p q k).getD (p k) 0)
@[simp] theorem swaps_length (l : List Nat) (p q : Nat → Nat) : ∀ k, (swaps l p q k).length = l.length
  | 0 => rfl
  | k + 1 => by unfold swaps; rw [List.length_set, List.length_set, swaps_length l p q k]
set_option maxRecDepth 100000 in
set_option maxHeartbeats 2000000 in
/-- move.swap, of vectors in one list. -/
theorem swap1_any (x y : VecM) (g cap : Nat) (w : World) (hF : FW w g x.ws) (hxy : y.ws = x.ws) (hx : x.right = true) (hy : y.right = true) (hwx : x.wf) (hwy : y.wf) (hn : y.n = x.n) (hl : x.ws.length ≤ 1000000) :
   Calls Try.prog 131 #[.agg #[.slice (some ⟨g, 0, none⟩) x.ws.length cap, .int .i64 x.off, .int .i64 x.n, .int .i64 x.inc], .agg #[.slice (some ⟨g, 0, none⟩) x.ws.length cap, .int .i64 y.off, .int .i64 y.n, .int .i64 y.inc]] w
     (fun e w' => e = .returned (.tuple #[]) ∧ Wrote w w' g (swaps x.ws x.place y.place x.n.toNat)) := by
  have hx0 : 0 ≤ x.n := by have := VecM.right_n hx; omega
  have hx1 : x.n ≤ 9223372036854775807 := by have := hwx.2.1.2; omega
  have hox := VecM.right_n hx
  have hoy := VecM.right_n hy
  have Hx := hid hx
  have Hy := hid hy
  have Hn := hid hn
  have Hxy := hid hxy
  have hltg := hF.lt
  clear hx hy hwx hwy hn hxy
  go_enter Try.func131, Try.ntmps131
  refine seq_stop ?_
  go_wp2
  refine stop_go (fun W hW => ?_)
  have s1 : w.heap.size < W.heap.size := by rw [hW]; simp only [World.size_alloc]; omega
  have b1 : ∀ i, W.cell? ⟨w.heap.size, i, none⟩ = (#[.slice (some ⟨g, 0, none⟩) x.ws.length cap, .int .i64 x.off, .int .i64 x.n, .int .i64 x.inc] : Array Value)[i]? := by intro i; rw [hW]; go_simp
  have f1 : ∀ i, W.frozen? ⟨w.heap.size, i, none⟩ = false := by intro i; rw [hW]; go_simp
  have s2 : w.heap.size + 1 < W.heap.size := by rw [hW]; simp only [World.size_alloc]; omega
  have b2 : ∀ i, W.cell? ⟨w.heap.size + 1, i, none⟩ = (#[.slice (some ⟨g, 0, none⟩) x.ws.length cap, .int .i64 y.off, .int .i64 y.n, .int .i64 y.inc] : Array Value)[i]? := by intro i; rw [hW]; go_simp
  have f2 : ∀ i, W.frozen? ⟨w.heap.size + 1, i, none⟩ = false := by intro i; rw [hW]; go_simp
  have g0 : Grew w W := by rw [hW]; exact ((Grew.refl _).alloc _).alloc _
  clear hW
  have hFW := hF.grew g0
  have gl := hFW.lt
  have q1 : w.heap.size ≠ g := by omega
  have q2 : w.heap.size + 1 ≠ g := by omega
  have fz : ∀ i, W.frozen? ⟨g, i, none⟩ = false := hFW.notFrozen
  go_wp2
  go_loopw [9] (fun c wr => ∃ (i : Nat) (cs : Array Value) (o : Array Obj) (n : Nat), (i : Int) ≤ x.n ∧ c = .int .i64 i ∧ wr = ext (upd W g cs) o n ∧ CF cs (swaps x.ws x.place y.place i)) (fun c _ => (x.n - intOf c).toNat)
  case atStart =>
    obtain ⟨cs, h1, h2⟩ := hFW.self
    exact ⟨0, cs, #[], _, hx0, rfl, by rw [h1]; exact ext_zero.symm, h2⟩
  case round =>
    obtain ⟨i, cs, o2, n2, hi, rfl, hwr, hcs⟩ := hrel
    subst hwr
    by_cases hlt : (i : Int) < x.n
    · have hp := VecM.right_place Hx.out hlt
      have hq := VecM.right_place Hy.out (i := i) (by have := Hn.out; omega)
      rw [Hxy.out] at hq
      have h2 : IntKind.i64.wrap (i * x.inc) = i * x.inc := IntWalk.i64_in _ (by omega)
      have h3 : IntKind.i64.wrap (x.off + i * x.inc) = x.off + i * x.inc := IntWalk.i64_in _ (by omega)
      have h4 : IntKind.i64.wrap (i * y.inc) = i * y.inc := IntWalk.i64_in _ (by omega)
      have h5 : IntKind.i64.wrap (y.off + i * y.inc) = y.off + i * y.inc := IntWalk.i64_in _ (by omega)
      have hlen : (swaps x.ws x.place y.place i).length = x.ws.length := by simp
      have hfw : ∀ o n, FW (ext (upd W g cs) o n) g (swaps x.ws x.place y.place i) := fun o n => hFW.mk' hcs o n
      obtain ⟨r0, hr0, hf0⟩ := (hfw o2 n2).get (i := x.place i) (by rw [hlen]; unfold VecM.place; omega)
      obtain ⟨s0, hs0, hg0⟩ := (hfw o2 n2).get (i := y.place i) (by rw [hlen]; unfold VecM.place; omega)
      have hr1 := (cell_ext (by simpa using gl)).symm.trans hr0
      have hs1 := (cell_ext (by simpa using gl)).symm.trans hs0
      unfold VecM.place at hr1 hs1
      obtain ⟨t0, ht0, _⟩ := (hFW.mk' (hcs.set (i := x.place i) hg0) o2 n2).get (i := y.place i) (by rw [List.length_set, hlen]; unfold VecM.place; omega)
      have ht1 := (cell_ext (by simpa using gl)).symm.trans ht0
      unfold VecM.place at ht1
      clear hr0 hs0 ht0
      go_wp2
      refine wp_region_R (Grew (upd W g cs)) [] [(0,0), (0,1), (0,2), (0,3), (0,4), (0,5), (0,6), (0,7), (0,8), (0,9), (0,10), (0,11), (0,12), (0,13), (0,14), (0,15), (0,16), (0,17), (0,18), (0,19), (0,20), (0,21)] (by kernel_rfl) (by kernel_rfl) (fun _ _ _ _ h _ => h) (by first | exact ⟨_, _, ext_drew⟩ | exact ⟨_, _, drew_ext0⟩) ?_
      go_wp2_with (first | ((with_reducible refine wpR_id ?_); first | (refine wpR_take (v := ?_) rfl rfl ?_ ?_; rotate_left; (focus (rintro w' ⟨o', n', rfl⟩; go_simp; try with_reducible rfl)); simp only [Act.put, List.setIfInBounds_toArray, List.set_cons_zero, List.set_cons_succ]) | (refine wpR_pure (v := ?_) rfl rfl ?_ ?_; rotate_left; (focus (intro w'; go_simp; try with_reducible rfl)); simp only [Act.put, List.setIfInBounds_toArray, List.set_cons_zero, List.set_cons_succ]) | (refine wpR_takeG (v := ?_) rfl rfl rfl rfl rfl ?_ ?_; rotate_left; (focus (rintro w' ⟨o', n', rfl⟩; go_simp; try with_reducible rfl)); simp only [Act.put, List.setIfInBounds_toArray, List.set_cons_zero, List.set_cons_succ]) | (refine wpR_skip rfl rfl rfl rfl rfl rfl ?_; simp only [Act.put, List.setIfInBounds_toArray, List.set_cons_zero, List.set_cons_succ]) | (refine wpR_skipU rfl rfl rfl rfl rfl ?_; simp only [Act.put, List.setIfInBounds_toArray, List.set_cons_zero, List.set_cons_succ]) | (refine wpR_do rfl rfl (fun K hK => ?_)) | (refine wpR_doG rfl rfl rfl rfl rfl (fun K hK => ?_)) | (refine wpR_last rfl rfl (fun K hK => ?_)) | (refine wpR_nil ?_)) | ((with_reducible refine wpR_go ?_ ?_); (focus exact ⟨_, _, rfl⟩)) | ((with_reducible refine upon_id ?_); refine upon_fop rfl (by assumption) (by assumption) ?_; intro rr nn hr))
      refine wp_region_R (Grew (upd W g cs)) [9, 11] [(3,0), (3,1), (3,2), (3,3), (0,4), (3,5), (3,6), (0,7), (3,8), (2,9), (3,10), (2,11)] (by kernel_rfl) (by kernel_rfl) (fun _ _ _ _ h _ => h) (by first | exact ⟨_, _, ext_drew⟩ | exact ⟨_, _, drew_ext0⟩) ?_
      go_wp2_with (first | ((with_reducible refine wpR_id ?_); first | (refine wpR_take (v := ?_) rfl rfl ?_ ?_; rotate_left; (focus (rintro w' ⟨o', n', rfl⟩; go_simp; try with_reducible rfl)); simp only [Act.put, List.setIfInBounds_toArray, List.set_cons_zero, List.set_cons_succ]) | (refine wpR_pure (v := ?_) rfl rfl ?_ ?_; rotate_left; (focus (intro w'; go_simp; try with_reducible rfl)); simp only [Act.put, List.setIfInBounds_toArray, List.set_cons_zero, List.set_cons_succ]) | (refine wpR_takeG (v := ?_) rfl rfl rfl rfl rfl ?_ ?_; rotate_left; (focus (rintro w' ⟨o', n', rfl⟩; go_simp; try with_reducible rfl)); simp only [Act.put, List.setIfInBounds_toArray, List.set_cons_zero, List.set_cons_succ]) | (refine wpR_skip rfl rfl rfl rfl rfl rfl ?_; simp only [Act.put, List.setIfInBounds_toArray, List.set_cons_zero, List.set_cons_succ]) | (refine wpR_skipU rfl rfl rfl rfl rfl ?_; simp only [Act.put, List.setIfInBounds_toArray, List.set_cons_zero, List.set_cons_succ]) | (refine wpR_do rfl rfl (fun K hK => ?_)) | (refine wpR_doG rfl rfl rfl rfl rfl (fun K hK => ?_)) | (refine wpR_last rfl rfl (fun K hK => ?_)) | (refine wpR_nil ?_)) | ((with_reducible refine wpR_go ?_ ?_); (focus exact ⟨_, _, rfl⟩)) | ((with_reducible refine upon_id ?_); refine upon_fop rfl (by assumption) (by assumption) ?_; intro rr nn hr))
      go_roundw
      case rel =>
        refine ⟨i + 1, _, _, _, by omega, by go_num, rfl, ?_⟩
        unfold swaps
        exact (hcs.set (i := x.place i) hg0).set (i := y.place i) hf0
      case measure => simp [intOf]; omega
    · have e : x.n.toNat = i := by omega
      go_wp2
      go_end0
      exact ⟨rfl, Wrote.grew_l g0 (by omega) ⟨cs, _, _, rfl, by first | exact hcs | (rw [e]; exact hcs)⟩⟩
/-- move.Rows: the error's number; the list behind it. -/
def rowsOk (m : MatM) (i k : Int) : Bool := m.good && decide (0 ≤ i) && decide (0 ≤ k) && decide (i < m.rows) && decide (k < m.rows)
def rowsE (m : MatM) (i k : Int) : Int := if rowsOk m i k = true then 0 else 1
def rowsL (m : MatM) (i k : Int) : List Nat := if rowsOk m i k = true ∧ i ≠ k then swaps m.ws (rowV m i.toNat).place (rowV m k.toNat).place m.cols.toNat else m.ws
theorem rowV_right {m : MatM} (h : m.good = true) {i : Nat} (hi : (i : Int) < m.rows) : (rowV m i).right = true := by
  have h0 := MatM.good_n h
  by_cases hc : 0 < m.cols
  · have h2 := MatM.good_place h (i := i) (j := m.cols.toNat - 1) hi (by omega)
    have e : ((m.cols.toNat - 1 : Nat) : Int) = m.cols - 1 := by omega
    rw [e] at h2
    simp [rowV, VecM.right, fitsB, hc]; omega
  · have : m.cols = 0 := by omega
    simp [rowV, VecM.right, this]; omega
theorem rowV_wf {m : MatM} (h : m.good = true) (hwf : m.wf) {i : Nat} (hi : (i : Int) < m.rows) (hl : m.ws.length ≤ 1000000) : (rowV m i).wf := by
  have h0 := MatM.good_n h
  obtain ⟨a, b, c, d⟩ := hwf
  by_cases hc : 0 < m.cols
  · have h2 := MatM.good_place h (i := i) (j := 0) hi (by simpa using hc)
    simp [rowV, VecM.wf, hc, I64] at *; omega
  · simp [rowV, VecM.wf, hc]; exact ⟨a, c, d⟩
set_option maxRecDepth 100000 in
set_option maxHeartbeats 2000000 in
theorem rows_any (x : MatM) (g cap : Nat) (i k : Int) (w : World) (hF : FW w g x.ws) (hwf : x.wf) (hl : x.ws.length ≤ 1000000) (hi : I64 i) (hk : I64 k) :
   Calls Try.prog 44 #[.agg #[.slice (some ⟨g, 0, none⟩) x.ws.length cap, .int .i64 x.off, .int .i64 x.rows, .int .i64 x.cols, .int .i64 x.ld], .int .i64 i, .int .i64 k] w
     (fun e w' => e = .returned (.int .i64 (rowsE x i k)) ∧ Wrote w w' g (rowsL x i k)) := by
  have hD := hF.fs (by omega) cap
  have hlt := hF.lt
  have Hw := hid hwf
  have hr0 := hwf.2.1
  unfold I64 at hi hk hr0
  clear hwf
  have no : ∀ w', Grew w w' → rowsOk x i k = false → Wrote w w' g (rowsL x i k) := fun w' hg hn => by
    unfold rowsL; rw [hn]; exact Wrote.grew_r (Wrote.refl hF) hg
  have No := hid no
  clear no
  cases hgd : x.good
  · have q : rowsOk x i k = false := by simp [rowsOk, hgd]
    have k1 : (!x.good) = true := by simp [hgd]
    have Hgd := hid hgd
    clear hgd
    go_enter Try.func44, Try.ntmps44
    refine seq_stop ?_
    go_wp2
    refine stop_go (fun W hW => ?_)
    have s1 : w.heap.size < W.heap.size := by rw [hW]; simp only [World.size_alloc]; omega
    have b1 : ∀ i, W.cell? ⟨w.heap.size, i, none⟩ = (#[.slice (some ⟨g, 0, none⟩) x.ws.length cap, .int .i64 x.off, .int .i64 x.rows, .int .i64 x.cols, .int .i64 x.ld] : Array Value)[i]? := by intro i; rw [hW]; go_simp
    have g0 : Grew w W := by rw [hW]; exact (Grew.refl _).alloc _
    clear hW
    have hDW := hD.grew g0
    go_wp2_with (first | (go_at_call 130; ((with_reducible refine (good_any x _ _ ?_ Hw.out).mono ?_); (focus (first | assumption | (refine FS.ext ?_ _ _; assumption) | (refine IS.ext ?_ _ _; assumption) | (refine hDu _ ?_; assumption) | (refine hOu _ ?_; assumption) | (refine FW.fs ?_ (by omega) _; assumption) | (refine WS.fs ?_; assumption) | omega)); rintro e w1 ⟨rfl, o1, n1, rfl⟩)))
    go_ret
    exact ⟨by unfold rowsE; rw [q]; rfl, No.out _ (by (show Grew _ _; repeat (first | (with_reducible exact Grew.refl _) | (with_reducible assumption) | (with_reducible refine Grew.ext ?_ _ _) | (with_reducible refine Grew.alloc ?_ _) | ((with_reducible refine Grew.setCell ?_ ?_ _); rotate_left; (focus (dsimp only; first | omega | (simp only [size_ext, World.size_alloc, Array.size_append]; omega)))) | (with_reducible refine Grew.drewN ?_ _) | (with_reducible refine Grew.drew ?_)))) q⟩
  have k1 : (!x.good) = false := by simp [hgd]
  have Hgd := hid hgd
  clear hgd
  by_cases c1 : i < 0
  · have q : rowsOk x i k = false := by simp [rowsOk]; omega
    have d1 : decide (i < 0) = true := by simpa using c1
    go_enter Try.func44, Try.ntmps44
    refine seq_stop ?_
    go_wp2
    refine stop_go (fun W hW => ?_)
    have s1 : w.heap.size < W.heap.size := by rw [hW]; simp only [World.size_alloc]; omega
    have b1 : ∀ i, W.cell? ⟨w.heap.size, i, none⟩ = (#[.slice (some ⟨g, 0, none⟩) x.ws.length cap, .int .i64 x.off, .int .i64 x.rows, .int .i64 x.cols, .int .i64 x.ld] : Array Value)[i]? := by intro i; rw [hW]; go_simp
    have g0 : Grew w W := by rw [hW]; exact (Grew.refl _).alloc _
    clear hW
    have hDW := hD.grew g0
    go_wp2_with (first | (go_at_call 130; ((with_reducible refine (good_any x _ _ ?_ Hw.out).mono ?_); (focus (first | assumption | (refine FS.ext ?_ _ _; assumption) | (refine IS.ext ?_ _ _; assumption) | (refine hDu _ ?_; assumption) | (refine hOu _ ?_; assumption) | (refine FW.fs ?_ (by omega) _; assumption) | (refine WS.fs ?_; assumption) | omega)); rintro e w1 ⟨rfl, o1, n1, rfl⟩)))
    go_ret
    exact ⟨by unfold rowsE; rw [q]; rfl, No.out _ (by (show Grew _ _; repeat (first | (with_reducible exact Grew.refl _) | (with_reducible assumption) | (with_reducible refine Grew.ext ?_ _ _) | (with_reducible refine Grew.alloc ?_ _) | ((with_reducible refine Grew.setCell ?_ ?_ _); rotate_left; (focus (dsimp only; first | omega | (simp only [size_ext, World.size_alloc, Array.size_append]; omega)))) | (with_reducible refine Grew.drewN ?_ _) | (with_reducible refine Grew.drew ?_)))) q⟩
  have d1 : decide (i < 0) = false := by simpa using c1
  by_cases c2 : k < 0
  · have q : rowsOk x i k = false := by simp [rowsOk]; omega
    have d2 : decide (k < 0) = true := by simpa using c2
    go_enter Try.func44, Try.ntmps44
    refine seq_stop ?_
    go_wp2
    refine stop_go (fun W hW => ?_)
    have s1 : w.heap.size < W.heap.size := by rw [hW]; simp only [World.size_alloc]; omega
    have b1 : ∀ i, W.cell? ⟨w.heap.size, i, none⟩ = (#[.slice (some ⟨g, 0, none⟩) x.ws.length cap, .int .i64 x.off, .int .i64 x.rows, .int .i64 x.cols, .int .i64 x.ld] : Array Value)[i]? := by intro i; rw [hW]; go_simp
    have g0 : Grew w W := by rw [hW]; exact (Grew.refl _).alloc _
    clear hW
    have hDW := hD.grew g0
    go_wp2_with (first | (go_at_call 130; ((with_reducible refine (good_any x _ _ ?_ Hw.out).mono ?_); (focus (first | assumption | (refine FS.ext ?_ _ _; assumption) | (refine IS.ext ?_ _ _; assumption) | (refine hDu _ ?_; assumption) | (refine hOu _ ?_; assumption) | (refine FW.fs ?_ (by omega) _; assumption) | (refine WS.fs ?_; assumption) | omega)); rintro e w1 ⟨rfl, o1, n1, rfl⟩)))
    go_ret
    exact ⟨by unfold rowsE; rw [q]; rfl, No.out _ (by (show Grew _ _; repeat (first | (with_reducible exact Grew.refl _) | (with_reducible assumption) | (with_reducible refine Grew.ext ?_ _ _) | (with_reducible refine Grew.alloc ?_ _) | ((with_reducible refine Grew.setCell ?_ ?_ _); rotate_left; (focus (dsimp only; first | omega | (simp only [size_ext, World.size_alloc, Array.size_append]; omega)))) | (with_reducible refine Grew.drewN ?_ _) | (with_reducible refine Grew.drew ?_)))) q⟩
  have d2 : decide (k < 0) = false := by simpa using c2
  by_cases c3 : x.rows ≤ i
  · have q : rowsOk x i k = false := by simp [rowsOk]; omega
    have d3 : decide (x.rows ≤ i) = true := by simpa using c3
    go_enter Try.func44, Try.ntmps44
    refine seq_stop ?_
    go_wp2
    refine stop_go (fun W hW => ?_)
    have s1 : w.heap.size < W.heap.size := by rw [hW]; simp only [World.size_alloc]; omega
    have b1 : ∀ i, W.cell? ⟨w.heap.size, i, none⟩ = (#[.slice (some ⟨g, 0, none⟩) x.ws.length cap, .int .i64 x.off, .int .i64 x.rows, .int .i64 x.cols, .int .i64 x.ld] : Array Value)[i]? := by intro i; rw [hW]; go_simp
    have g0 : Grew w W := by rw [hW]; exact (Grew.refl _).alloc _
    clear hW
    have hDW := hD.grew g0
    go_wp2_with (first | (go_at_call 130; ((with_reducible refine (good_any x _ _ ?_ Hw.out).mono ?_); (focus (first | assumption | (refine FS.ext ?_ _ _; assumption) | (refine IS.ext ?_ _ _; assumption) | (refine hDu _ ?_; assumption) | (refine hOu _ ?_; assumption) | (refine FW.fs ?_ (by omega) _; assumption) | (refine WS.fs ?_; assumption) | omega)); rintro e w1 ⟨rfl, o1, n1, rfl⟩)))
    go_ret
    exact ⟨by unfold rowsE; rw [q]; rfl, No.out _ (by (show Grew _ _; repeat (first | (with_reducible exact Grew.refl _) | (with_reducible assumption) | (with_reducible refine Grew.ext ?_ _ _) | (with_reducible refine Grew.alloc ?_ _) | ((with_reducible refine Grew.setCell ?_ ?_ _); rotate_left; (focus (dsimp only; first | omega | (simp only [size_ext, World.size_alloc, Array.size_append]; omega)))) | (with_reducible refine Grew.drewN ?_ _) | (with_reducible refine Grew.drew ?_)))) q⟩
  have d3 : decide (x.rows ≤ i) = false := by simpa using c3
  by_cases c4 : x.rows ≤ k
  · have q : rowsOk x i k = false := by simp [rowsOk]; omega
    have d4 : decide (x.rows ≤ k) = true := by simpa using c4
    go_enter Try.func44, Try.ntmps44
    refine seq_stop ?_
    go_wp2
    refine stop_go (fun W hW => ?_)
    have s1 : w.heap.size < W.heap.size := by rw [hW]; simp only [World.size_alloc]; omega
    have b1 : ∀ i, W.cell? ⟨w.heap.size, i, none⟩ = (#[.slice (some ⟨g, 0, none⟩) x.ws.length cap, .int .i64 x.off, .int .i64 x.rows, .int .i64 x.cols, .int .i64 x.ld] : Array Value)[i]? := by intro i; rw [hW]; go_simp
    have g0 : Grew w W := by rw [hW]; exact (Grew.refl _).alloc _
    clear hW
    have hDW := hD.grew g0
    go_wp2_with (first | (go_at_call 130; ((with_reducible refine (good_any x _ _ ?_ Hw.out).mono ?_); (focus (first | assumption | (refine FS.ext ?_ _ _; assumption) | (refine IS.ext ?_ _ _; assumption) | (refine hDu _ ?_; assumption) | (refine hOu _ ?_; assumption) | (refine FW.fs ?_ (by omega) _; assumption) | (refine WS.fs ?_; assumption) | omega)); rintro e w1 ⟨rfl, o1, n1, rfl⟩)))
    go_ret
    exact ⟨by unfold rowsE; rw [q]; rfl, No.out _ (by (show Grew _ _; repeat (first | (with_reducible exact Grew.refl _) | (with_reducible assumption) | (with_reducible refine Grew.ext ?_ _ _) | (with_reducible refine Grew.alloc ?_ _) | ((with_reducible refine Grew.setCell ?_ ?_ _); rotate_left; (focus (dsimp only; first | omega | (simp only [size_ext, World.size_alloc, Array.size_append]; omega)))) | (with_reducible refine Grew.drewN ?_ _) | (with_reducible refine Grew.drew ?_)))) q⟩
  have d4 : decide (x.rows ≤ k) = false := by simpa using c4
  have q : rowsOk x i k = true := by simp [rowsOk, Hgd.out]; omega
  by_cases c5 : i = k
  · subst c5
    go_enter Try.func44, Try.ntmps44
    refine seq_stop ?_
    go_wp2
    refine stop_go (fun W hW => ?_)
    have s1 : w.heap.size < W.heap.size := by rw [hW]; simp only [World.size_alloc]; omega
    have b1 : ∀ i, W.cell? ⟨w.heap.size, i, none⟩ = (#[.slice (some ⟨g, 0, none⟩) x.ws.length cap, .int .i64 x.off, .int .i64 x.rows, .int .i64 x.cols, .int .i64 x.ld] : Array Value)[i]? := by intro i; rw [hW]; go_simp
    have g0 : Grew w W := by rw [hW]; exact (Grew.refl _).alloc _
    clear hW
    have hDW := hD.grew g0
    go_wp2_with (first | (go_at_call 130; ((with_reducible refine (good_any x _ _ ?_ Hw.out).mono ?_); (focus (first | assumption | (refine FS.ext ?_ _ _; assumption) | (refine IS.ext ?_ _ _; assumption) | (refine hDu _ ?_; assumption) | (refine hOu _ ?_; assumption) | (refine FW.fs ?_ (by omega) _; assumption) | (refine WS.fs ?_; assumption) | omega)); rintro e w1 ⟨rfl, o1, n1, rfl⟩)))
    go_ret
    exact ⟨by unfold rowsE; rw [q]; rfl, by unfold rowsL; simp only [ne_eq, not_true_eq_false, and_false, if_false]; exact Wrote.grew_r (Wrote.refl hF) (by (show Grew _ _; repeat (first | (with_reducible exact Grew.refl _) | (with_reducible assumption) | (with_reducible refine Grew.ext ?_ _ _) | (with_reducible refine Grew.alloc ?_ _) | ((with_reducible refine Grew.setCell ?_ ?_ _); rotate_left; (focus (dsimp only; first | omega | (simp only [size_ext, World.size_alloc, Array.size_append]; omega)))) | (with_reducible refine Grew.drewN ?_ _) | (with_reducible refine Grew.drew ?_))))⟩
  · have d5 : (i != k) = true := by simpa using c5
    have hL : rowsL x i k = swaps x.ws (rowV x i.toNat).place (rowV x k.toNat).place x.cols.toNat := by unfold rowsL; rw [if_pos ⟨q, c5⟩]
    obtain ⟨a, rfl⟩ : ∃ a : Nat, i = a := ⟨i.toNat, by omega⟩
    obtain ⟨b, rfl⟩ : ∃ b : Nat, k = b := ⟨k.toNat, by omega⟩
    have ha : (a : Int) < x.rows := by omega
    have hb : (b : Int) < x.rows := by omega
    have r1 := hid (rowV_right Hgd.out ha)
    have r2 := hid (rowV_right Hgd.out hb)
    have v1 := hid (rowV_wf Hgd.out Hw.out ha hl)
    have v2 := hid (rowV_wf Hgd.out Hw.out hb hl)
    have HL := hid hL
    have Q := hid q
    clear hL q
    go_enter Try.func44, Try.ntmps44
    refine seq_stop ?_
    go_wp2
    refine stop_go (fun W hW => ?_)
    have s1 : w.heap.size < W.heap.size := by rw [hW]; simp only [World.size_alloc]; omega
    have b1 : ∀ i, W.cell? ⟨w.heap.size, i, none⟩ = (#[.slice (some ⟨g, 0, none⟩) x.ws.length cap, .int .i64 x.off, .int .i64 x.rows, .int .i64 x.cols, .int .i64 x.ld] : Array Value)[i]? := by intro i; rw [hW]; go_simp
    have g0 : Grew w W := by rw [hW]; exact (Grew.refl _).alloc _
    clear hW
    have hDW := hD.grew g0
    have hFW := hF.grew g0
    have gl := hFW.lt
    have q1 : w.heap.size ≠ g := by omega
    obtain ⟨cs0, hs0, hcs0⟩ := hFW.self
    have HS := hid hs0
    clear hs0
    have hsw : ∀ o n, Calls Try.prog 131 #[.agg #[.slice (some ⟨g, 0, none⟩) x.ws.length cap, .int .i64 (rowV x a).off, .int .i64 x.cols, .int .i64 x.ld], .agg #[.slice (some ⟨g, 0, none⟩) x.ws.length cap, .int .i64 (rowV x b).off, .int .i64 x.cols, .int .i64 x.ld]] (ext (upd W g cs0) o n)
       (fun e w' => e = .returned (.tuple #[]) ∧ Wrote (ext (upd W g cs0) o n) w' g (swaps x.ws (rowV x a).place (rowV x b).place x.cols.toNat)) := fun o n =>
      swap1_any (rowV x a) (rowV x b) g cap _ (hFW.mk' hcs0 o n) rfl r1.out r2.out v1.out v2.out rfl hl
    have hD2 : ∀ o n, FS (ext (upd W g cs0) o n) (.slice (some ⟨g, 0, none⟩) x.ws.length cap) x.ws := fun o n => (hFW.mk' hcs0 o n).fs (by omega) cap
    go_wp2_with (first | (go_at_call 130; ((with_reducible refine (good_any x _ _ ?_ Hw.out).mono ?_); (focus (first | assumption | (refine FS.ext ?_ _ _; assumption) | (refine IS.ext ?_ _ _; assumption) | (refine hDu _ ?_; assumption) | (refine hOu _ ?_; assumption) | (refine FW.fs ?_ (by omega) _; assumption) | (refine WS.fs ?_; assumption) | omega)); rintro e w1 ⟨rfl, o1, n1, rfl⟩)))
    rw [show ext W o1 n1 = ext (upd W g cs0) o1 n1 by rw [HS.out]]
    refine wp_region_R (Over W g) [] [(0,0), (0,1), (0,3), (0,4), (1,2), (1,5), (1,6)] (by kernel_rfl) (by kernel_rfl) (fun _ _ _ _ h _ => h) ⟨_, _, _, ext_drew⟩ ?_
    go_wp2_with (first
      | ((with_reducible refine wpR_id ?_); first | (refine wpR_take (v := ?_) rfl rfl ?_ ?_; rotate_left; (focus (rintro w' ⟨cs', o', n', rfl⟩; go_simp; try with_reducible rfl)); simp only [Act.put, List.setIfInBounds_toArray, List.set_cons_zero, List.set_cons_succ]) | (refine wpR_pure (v := ?_) rfl rfl ?_ ?_; rotate_left; (focus (intro w'; go_simp; try with_reducible rfl)); simp only [Act.put, List.setIfInBounds_toArray, List.set_cons_zero, List.set_cons_succ]) | (refine wpR_takeG (v := ?_) rfl rfl rfl rfl rfl ?_ ?_; rotate_left; (focus (rintro w' ⟨cs', o', n', rfl⟩; go_simp; try with_reducible rfl)); simp only [Act.put, List.setIfInBounds_toArray, List.set_cons_zero, List.set_cons_succ]) | (refine wpR_skip rfl rfl rfl rfl rfl rfl ?_; simp only [Act.put, List.setIfInBounds_toArray, List.set_cons_zero, List.set_cons_succ]) | (refine wpR_skipU rfl rfl rfl rfl rfl ?_; simp only [Act.put, List.setIfInBounds_toArray, List.set_cons_zero, List.set_cons_succ]) | (refine wpR_do rfl rfl (fun K hK => ?_)) | (refine wpR_doG rfl rfl rfl rfl rfl (fun K hK => ?_)) | (refine wpR_last rfl rfl (fun K hK => ?_)) | (refine wpR_nil ?_)) | ((with_reducible refine wpR_go ?_ ?_); (focus exact ⟨_, _, _, rfl⟩)) | ((with_reducible refine upon_id ?_); refine upon_fop rfl (by assumption) (by assumption) ?_; intro rr nn hr)
      | (go_at_call 132; ((with_reducible refine (row_any x _ a _ (hD2 _ _) Hgd.out Hw.out ha).mono ?_); rintro e w1 ⟨rfl, o2, n2, rfl⟩))
      | (go_at_call 132; ((with_reducible refine (row_any x _ b _ (hD2 _ _) Hgd.out Hw.out hb).mono ?_); rintro e w1 ⟨rfl, o2, n2, rfl⟩))
      | (go_at_call 131; ((with_reducible refine (hsw _ _).mono ?_); rintro e w1 ⟨rfl, hw⟩; obtain ⟨cs2, o4, n4, rfl, hcs2⟩ := Wrote.trans ⟨cs0, _, _, rfl, hcs0⟩ gl hw)))
    go_ret
    exact ⟨by unfold rowsE; rw [Q.out]; rfl, Wrote.grew_l g0 (by omega) ⟨cs2, _, _, rfl, by rw [HL.out]; exact hcs2⟩⟩
end Go.Proofs.Ytcmggfpcbijcjaa
